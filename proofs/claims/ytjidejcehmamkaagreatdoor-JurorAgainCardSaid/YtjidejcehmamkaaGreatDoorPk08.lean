/- The juror: intent, taken, above. The juror: prepare. The juror: decide. The juror: Plan. The juror: Apply. The juror: New; the law's example. The document's note, cut: Hits, Few. The document's notes: fields by letters, Right, apart from any program. The juror's laws, apart from the program: votes, what comes twice. No condition. -/
import Derived.Test.YtjidejcehmamkaaGreatDoorPk07
set_option linter.unusedVariables false
set_option linter.unusedSimpArgs false
set_option linter.unusedSectionVars false
namespace Go.Proofs.YtjidejcehmamkaaGreatDoor
open Go Go.SX
attribute [local irreducible] swp opsS thenS blockS retS CallsS St Ent YieldS anyS drawS
abbrev IV.zero : IV := ⟨0, 0, none, 0, []⟩
theorem okI.zero {M : Nat → Option Obj} : okI M IV.zero := ⟨SlM.nil0, fun o ho => by cases ho⟩
set_option maxHeartbeats 1000000 in
theorem intent_spec (M : Nat → Option Obj) (p : Nat) (j : JS) (n : Nat) (t : Int) (L : List HP) (hw : WFK j.v n) (hn : n ≤ 10000) :
    CallsS Tryz.prog 109 [ptrJ p, .int .u64 t] (jurH M p j :: roM M :: L) (fun r L' => ∃ (i : IV) (M' : Nat → Option Obj), r = .tuple #[i.val, .bool (lkL j.v.its t).isSome] ∧ leM M M' ∧ okI M' i ∧ (∀ x, lkL j.v.its t = some x → i.after = x.1 ∧ i.ops.map OV.abs = x.2) ∧ L' = jurH M' p j :: roM M' :: L) := by
  refine CallsS.of_body Tryz.func109 rfl rfl rfl ?_
  refine Q.r ?_; (repeat (intro b1; refine Q.r ?_))
  refine S.cj p rfl (JIntents_spec M p j n _ hw.wf hn) ?_
  rintro _ _ ⟨a, c, es, M', rfl, hl, hs, hok, hp, rfl⟩
  refine Q.r ?_; (repeat (intro b1; refine Q.r ?_))
  have hle : es.length ≤ 10000 := by
    have := hp.length_eq
    rw [List.length_map] at this
    have h2 := hw.wf.il
    omega
  refine swp_cutB (σ := Unit) (fun _ => [(4, .pointer (some ⟨b1, 0, none⟩))]) (fun _ => pt b1 (cl IV.zero.cells 44) :: jurH M' p j :: roM M' :: L) (fun _ => lkL j.v.its t = none) ?_ ?_
  · refine swp_loop (σ := Nat) (fun k => [(1, .int .u64 t), (4, .pointer (some ⟨b1, 0, none⟩)), (9, .slice a es.length c), (10, .int .i64 es.length), (11, .int .i64 k)])
      (fun _ => pt b1 (cl IV.zero.cells 44) :: jurH M' p j :: roM M' :: L) (fun k => k ≤ es.length ∧ ∀ e ∈ es.take k, e.txn ≠ t) (fun k => es.length - k) 0 ⟨rfl, rfl, rfl, rfl, rfl, trivial⟩ (by exact Go.SX.Ent.go) ⟨by omega, by simp⟩ ?_
    rintro k ⟨hk1, hk2⟩
    by_cases hlt : k < es.length
    · obtain ⟨e, he⟩ := mem_get hlt
      have hme : e ∈ es := List.mem_of_getElem? he
      obtain ⟨b, o, rfl, hr⟩ := RdS.elem (g := IV.cells) (fun _ => rfl) (L := pt b1 (cl IV.zero.cells 44) :: jurH M' p j :: roM M' :: L) hs.rd he rfl
      by_cases ht : e.txn = t
      · have hlk : lkL j.v.its t = some (e.after, e.ops.map OV.abs) := (lkL_iff hw.k2).2 (by rw [← ht]; exact hp.mem_iff.1 (List.mem_map_of_mem (f := IV.abs) hme))
        rw [hlk]
        refine Q.r ?_; (repeat (intro b1; refine Q.r ?_))
        exact N.r2 (by apply RV.cellN; rfl; exact RdC.row; rfl; exact RV.tmp rfl RV.nil) (by exact Go.SX.Ent.go) ⟨e, M', rfl, hl, hok e hme, (fun x hx => by cases hx; exact ⟨rfl, rfl⟩), rfl⟩
      · refine Q.r ?_; (repeat (intro b1; refine Q.r ?_))
        refine ⟨k + 1, ⟨rfl, rfl, rfl, rfl, rfl, trivial⟩, by exact Go.SX.Ent.go, ⟨by omega, fun x hx => ?_⟩, by omega⟩
        rw [take_snoc he] at hx
        rcases List.mem_append.1 hx with hx | hx
        · exact hk2 x hx
        · rw [List.mem_singleton.1 hx]; exact ht
    · have hke : k = es.length := by omega
      subst hke
      rw [List.take_length] at hk2
      have hlk : lkL j.v.its t = none := lkL_none fun u hu e => by
        obtain ⟨x, hx, rfl⟩ := List.mem_map.1 (hp.mem_iff.2 hu)
        exact hk2 x hx e
      refine Q.r ?_; (repeat (intro b1; refine Q.r ?_))
      exact ⟨(), ⟨rfl, trivial⟩, by exact Go.SX.Ent.go, hlk⟩
  · rintro _ h0
    refine Q.r ?_; (repeat (intro b1; refine Q.r ?_))
    rw [h0]
    exact N.r2 (by apply RV.cellN; rfl; exact RdC.row; rfl; exact RV.tmp rfl RV.nil) (by exact Go.SX.Ent.go) ⟨IV.zero, M', rfl, hl, okI.zero, (fun x hx => by cases hx), rfl⟩
theorem taken1_spec (b : Nat) (o x : OV) (A : List HP) : CallsS Tryz.prog 155 ([] ++ [x.val] ++ [.pointer (some ⟨b, 0, none⟩)]) (pt b (cl o.cells 46) :: A) (fun v L' => v = .bool (decide (x.id = o.id)) ∧ L' = pt b (cl o.cells 46) :: A) := by
  refine CallsS.of_body Tryz.func155 rfl rfl rfl ?_
  refine Q.r ?_; (repeat (intro b1; refine Q.r ?_))
  exact N.r1 (RV.tmp rfl RV.nil) (Ent.drop (Ent.refl _)) ⟨rfl, rfl⟩
theorem above1_spec (b : Nat) (e : EV) (x : OV) (A : List HP) : CallsS Tryz.prog 156 ([] ++ [x.val] ++ [.pointer (some ⟨b, 0, none⟩)]) (pt b (cl e.cells 128) :: A) (fun v L' => v = .bool (decide (x.id = e.id)) ∧ L' = pt b (cl e.cells 128) :: A) := by
  refine CallsS.of_body Tryz.func156 rfl rfl rfl ?_
  refine Q.r ?_; (repeat (intro b1; refine Q.r ?_))
  exact N.r1 (RV.tmp rfl RV.nil) (Ent.drop (Ent.refl _)) ⟨rfl, rfl⟩
set_option maxHeartbeats 1000000 in
theorem taken_spec (M : Nat → Option Obj) (p : Nat) (j : JS) (n : Nat) (a0 : Option Addr) (c0 : Nat) (ops : List OV) (L : List HP) (hw : WFK j.v n) (hn : n ≤ 10000) (ho : SlM M a0 ops.length 2 (ops.flatMap OV.cells)) (hol : ops.length ≤ 1000000) :
    CallsS Tryz.prog 111 [ptrJ p, .slice a0 ops.length c0] (jurH M p j :: roM M :: L) (fun r L' => ∃ (M' : Nat → Option Obj), r = .bool (takenV j.v (ops.map OV.abs)) ∧ leM M M' ∧ L' = jurH M' p j :: roM M' :: L) := by
  refine CallsS.of_body Tryz.func111 rfl rfl rfl ?_
  refine Q.r ?_; (repeat (intro b1; refine Q.r ?_))
  refine S.cj p rfl (JIntents_spec M p j n _ hw.wf hn) ?_
  rintro _ _ ⟨a, c, es, M', rfl, hl, hs, hok, hp, rfl⟩
  refine Q.r ?_; (repeat (intro b1; refine Q.r ?_))
  have hle : es.length ≤ 10000 := by
    have := hp.length_eq
    rw [List.length_map] at this
    have h2 := hw.wf.il
    omega
  have hte : takenV j.v (ops.map OV.abs) = es.any fun e => e.ops.any fun o => ops.any fun x => decide (x.id = o.id) := by
    unfold takenV
    rw [← hp.any_eq, List.any_map]
    congr 1; funext e
    rw [show ((fun i : Int × Int × VL => i.2.2.any fun o => holdsV (ops.map OV.abs) o.1) ∘ IV.abs) e = (e.ops.map OV.abs).any fun o => holdsV (ops.map OV.abs) o.1 from rfl, List.any_map]
    congr 1; funext o
    show holdsV (ops.map OV.abs) o.id = _
    rw [holds_abs]
  rw [hte]
  have hopl : ∀ e ∈ es, e.ops.length ≤ 16 := fun e he => by
    have := (hw.wf.io e.abs (hp.mem_iff.1 (List.mem_map_of_mem (f := IV.abs) he))).1
    simpa using this
  refine swp_cutB (σ := Unit) (fun _ => []) (fun _ => jurH M' p j :: roM M' :: L) (fun _ => (es.any fun e => e.ops.any fun o => ops.any fun x => decide (x.id = o.id)) = false) ?_ ?_
  · refine swp_loop (σ := Nat) (fun k => [(1, .slice a0 ops.length c0), (10, .slice a es.length c), (11, .int .i64 es.length), (12, .int .i64 k)])
      (fun _ => jurH M' p j :: roM M' :: L) (fun k => k ≤ es.length ∧ ((es.take k).any fun e => e.ops.any fun o => ops.any fun x => decide (x.id = o.id)) = false) (fun k => es.length - k) 0 ⟨rfl, rfl, rfl, rfl, trivial⟩ (by exact Go.SX.Ent.go) ⟨by omega, by simp⟩ ?_
    rintro k ⟨hk1, hk2⟩
    by_cases hlt : k < es.length
    · obtain ⟨e, he⟩ := mem_get hlt
      have hme : e ∈ es := List.mem_of_getElem? he
      have hel := hopl e hme
      obtain ⟨b, o, hab, hr⟩ := RdS.elem (g := IV.cells) (fun _ => rfl) (L := jurH M' p j :: roM M' :: L) hs.rd he rfl
      rw [hab]
      refine Q.r ?_; (repeat (intro b1; refine Q.r ?_))
      refine swp_loop (σ := Nat) (fun m => [(1, .slice a0 ops.length c0), (10, .slice (some ⟨b, o, none⟩) es.length c), (11, .int .i64 es.length), (12, .int .i64 k), (17, .slice e.a e.ops.length e.c), (18, .int .i64 e.ops.length), (19, .int .i64 m)])
          (fun _ => jurH M' p j :: roM M' :: L) (fun m => m ≤ e.ops.length ∧ ((e.ops.take m).any fun o => ops.any fun x => decide (x.id = o.id)) = false) (fun m => e.ops.length - m) 0 ⟨rfl, rfl, rfl, rfl, rfl, rfl, rfl, trivial⟩ (by exact Go.SX.Ent.go) ⟨by omega, by simp⟩ ?_
      rintro m ⟨hm1, hm2⟩
      by_cases hmt : m < e.ops.length
      · obtain ⟨u, hu⟩ := mem_get hmt
        have hmu : u ∈ e.ops := List.mem_of_getElem? hu
        obtain ⟨bu, ou, hau, hru⟩ := RdS.elem (g := OV.cells) (fun _ => rfl) (L := jurH M' p j :: roM M' :: L) (hok e hme).1.rd hu rfl
        rw [hau]
        refine Q.r ?_; (repeat (intro b1; refine Q.r ?_))
        refine S.y (Y.mf rfl rfl) ?_
        refine S.cr rfl (HasO_spec 155 [] [.pointer (some ⟨b1, 0, none⟩)] (fun x => decide (x.id = u.id)) a0 c0 ops _ (ho.mono hl).rd (by omega) (fun x hx => taken1_spec b1 u x _)) ?_
        rintro _ _ ⟨rfl, rfl⟩
        cases hany : ops.any fun x => decide (x.id = u.id) with
        | true =>
          refine Q.r ?_; (repeat (intro b1; refine Q.r ?_))
          refine N.r1 (RV.tmp rfl RV.nil) (by exact Go.SX.Ent.go) ⟨M', ?_, hl, rfl⟩
          rw [List.any_eq_true.2 ⟨e, hme, List.any_eq_true.2 ⟨u, hmu, hany⟩⟩]
        | false =>
          refine Q.r ?_; (repeat (intro b1; refine Q.r ?_))
          refine ⟨m + 1, ⟨rfl, rfl, rfl, rfl, rfl, rfl, rfl, trivial⟩, by exact Go.SX.Ent.go, ⟨by omega, ?_⟩, by omega⟩
          rw [take_snoc hu, List.any_append, hm2, List.any_cons, hany]; rfl
      · have hme2 : m = e.ops.length := by omega
        subst hme2
        rw [List.take_length] at hm2
        refine Q.r ?_; (repeat (intro b1; refine Q.r ?_))
        refine ⟨k + 1, ⟨rfl, rfl, rfl, rfl, trivial⟩, by exact Go.SX.Ent.go, ⟨by omega, ?_⟩, by omega⟩
        rw [take_snoc he, List.any_append, hk2, List.any_cons, hm2]; rfl
    · have hke : k = es.length := by omega
      subst hke
      rw [List.take_length] at hk2
      refine Q.r ?_; (repeat (intro b1; refine Q.r ?_))
      exact ⟨(), trivial, by exact Go.SX.Ent.go, hk2⟩
  · rintro _ h0
    refine Q.r ?_; (repeat (intro b1; refine Q.r ?_))
    rw [h0]
    exact N.r1 (RV.tmp rfl RV.nil) (by exact Go.SX.Ent.go) ⟨M', rfl, hl, rfl⟩
theorem last_get {vs : List OV} (h : 0 < vs.length) : ∃ u, vs[vs.length - 1]? = some u ∧ lastS (vs.map OV.abs) = u.id := by
  refine ⟨vs[vs.length - 1], List.getElem?_eq_getElem (by omega), ?_⟩
  unfold lastS
  rw [List.getLast?_map, List.getLast?_eq_getElem?, List.getElem?_eq_getElem (by omega)]
  rfl
set_option maxHeartbeats 1000000 in
theorem above_spec (M : Nat → Option Obj) (p : Nat) (j : JS) (n : Nat) (s : Int) (a0 : Option Addr) (c0 : Nat) (ops : List OV) (L : List HP) (hw : WFK j.v n) (hn : n ≤ 10000) (hne : ∀ c ∈ j.v.ch, 0 < c.2.length) (ho : SlM M a0 ops.length 2 (ops.flatMap OV.cells)) (hol : ops.length ≤ 1000000) :
    CallsS Tryz.prog 112 [ptrJ p, .int .u64 s, .slice a0 ops.length c0] (jurH M p j :: roM M :: L) (fun r L' => ∃ (M' : Nat → Option Obj), r = .bool (aboveV j.v s (ops.map OV.abs)) ∧ leM M M' ∧ L' = jurH M' p j :: roM M' :: L) := by
  refine CallsS.of_body Tryz.func112 rfl rfl rfl ?_
  refine Q.r ?_; (repeat (intro b1; refine Q.r ?_))
  refine S.cj p rfl (JDump_spec M p j n _ hw.wf hn) ?_
  rintro _ _ ⟨a, c, es, M', rfl, hl, hs, hok, hp, rfl⟩
  refine Q.r ?_; (repeat (intro b1; refine Q.r ?_))
  have hle : es.length ≤ 160000 := by
    have := hp.length_eq
    rw [List.length_map] at this
    have h2 := hw.wf.cl
    omega
  have hte : aboveV j.v s (ops.map OV.abs) = !es.any fun e => decide (s ≤ lastS (e.vs.map OV.abs)) && ops.any fun x => decide (x.id = e.id) := by
    unfold aboveV
    rw [← hp.any_eq, List.any_map]
    congr 2; funext e
    show (decide (s ≤ lastS (e.vs.map OV.abs)) && holdsV (ops.map OV.abs) e.id) = _
    rw [holds_abs]
  rw [hte]
  have hvl : ∀ e ∈ es, 0 < e.vs.length ∧ e.vs.length ≤ 10000 := fun e he => by
    have hm := hp.mem_iff.1 (List.mem_map_of_mem (f := EV.abs) he)
    have h1 := hne _ hm
    have h2 := (hw.wf.co _ hm).2.1
    simp at h1 h2
    omega
  refine swp_cutB (σ := Unit) (fun _ => []) (fun _ => jurH M' p j :: roM M' :: L) (fun _ => (es.any fun e => decide (s ≤ lastS (e.vs.map OV.abs)) && ops.any fun x => decide (x.id = e.id)) = false) ?_ ?_
  · refine swp_loop (σ := Nat) (fun k => [(1, .int .u64 s), (2, .slice a0 ops.length c0), (11, .slice a es.length c), (12, .int .i64 es.length), (13, .int .i64 k)])
      (fun _ => jurH M' p j :: roM M' :: L) (fun k => k ≤ es.length ∧ ((es.take k).any fun e => decide (s ≤ lastS (e.vs.map OV.abs)) && ops.any fun x => decide (x.id = e.id)) = false) (fun k => es.length - k) 0 ⟨rfl, rfl, rfl, rfl, rfl, trivial⟩ (by exact Go.SX.Ent.go) ⟨by omega, by simp⟩ ?_
    rintro k ⟨hk1, hk2⟩
    by_cases hlt : k < es.length
    · obtain ⟨e, he⟩ := mem_get hlt
      have hme : e ∈ es := List.mem_of_getElem? he
      have hel := hvl e hme
      obtain ⟨b, o, hab, hr⟩ := RdS.elem (g := EV.cells) (fun _ => rfl) (L := jurH M' p j :: roM M' :: L) hs.rd he rfl
      rw [hab]
      obtain ⟨u, hu, hul⟩ := last_get hel.1
      obtain ⟨bu, ou, hau, hru⟩ := RdS.elem (g := OV.cells) (fun _ => rfl) (L := jurH M' p j :: roM M' :: L) (hok e hme).1.rd hu rfl
      have hru0 := hru.head
      by_cases hc : s ≤ u.id
      · repeat (first | refine S.y (Y.ldRj rfl (by first | assumption | exact RdC.sub (by assumption)) rfl) ?_ | refine Q.yn ?_ | refine S.stI rfl rfl (by first | omega | (rw [Array.size_setIfInBounds]; omega)) ?_ | (refine GQ.y ?_; refine Q.y ?_) | refine Q.go ?_ | (refine GQ.g ?_; refine Q.gq ?_) | (refine GQ.s ?_; refine Q.st ?_) | (refine GQ.g ?_; refine Q.gd ?_) | refine Q.ct rfl ?_ | refine Q.cf rfl ?_ | (refine GQ.a ?_; refine Q.al (fun b1 => ?_)))
        rw [hau]
        repeat (first | refine S.y (Y.ldRj rfl (by first | assumption | exact RdC.sub (by assumption)) rfl) ?_ | refine Q.yn ?_ | refine S.stI rfl rfl (by first | omega | (rw [Array.size_setIfInBounds]; omega)) ?_ | (refine GQ.y ?_; refine Q.y ?_) | refine Q.go ?_ | (refine GQ.g ?_; refine Q.gq ?_) | (refine GQ.s ?_; refine Q.st ?_) | (refine GQ.g ?_; refine Q.gd ?_) | refine Q.ct rfl ?_ | refine Q.cf rfl ?_ | (refine GQ.a ?_; refine Q.al (fun b1 => ?_)))
        refine S.y (Y.mf rfl rfl) ?_
        refine Q.r ?_; (repeat (intro b1; refine Q.r ?_))
        refine S.cr rfl (HasO_spec 156 [] [.pointer (some ⟨b1, 0, none⟩)] (fun x => decide (x.id = e.id)) a0 c0 ops _ (ho.mono hl).rd (by omega) (fun x hx => by have := above1_spec b1 e x (jurH M' p j :: roM M' :: L); rw [← hau]; exact this)) ?_
        rintro _ _ ⟨rfl, rfl⟩
        have hce : decide (s ≤ lastS (e.vs.map OV.abs)) = true := by rw [hul]; exact decide_eq_true hc
        cases hany : ops.any fun x => decide (x.id = e.id) with
        | true =>
          refine Q.r ?_; (repeat (intro b1; refine Q.r ?_))
          refine N.r1 (RV.tmp rfl RV.nil) (by exact Go.SX.Ent.go) ⟨M', ?_, hl, rfl⟩
          rw [List.any_eq_true.2 ⟨e, hme, by rw [hce, hany]; rfl⟩]; rfl
        | false =>
          refine Q.r ?_; (repeat (intro b1; refine Q.r ?_))
          refine ⟨k + 1, ⟨rfl, rfl, rfl, rfl, rfl, trivial⟩, by exact Go.SX.Ent.go, ⟨by omega, ?_⟩, by omega⟩
          rw [take_snoc he, List.any_append, hk2, List.any_cons, hany, Bool.and_false]; rfl
      · repeat (first | refine S.y (Y.ldRj rfl (by first | assumption | exact RdC.sub (by assumption)) rfl) ?_ | refine Q.yn ?_ | refine S.stI rfl rfl (by first | omega | (rw [Array.size_setIfInBounds]; omega)) ?_ | (refine GQ.y ?_; refine Q.y ?_) | refine Q.go ?_ | (refine GQ.g ?_; refine Q.gq ?_) | (refine GQ.s ?_; refine Q.st ?_) | (refine GQ.g ?_; refine Q.gd ?_) | refine Q.ct rfl ?_ | refine Q.cf rfl ?_ | (refine GQ.a ?_; refine Q.al (fun b1 => ?_)))
        rw [hau]
        repeat (first | refine S.y (Y.ldRj rfl (by first | assumption | exact RdC.sub (by assumption)) rfl) ?_ | refine Q.yn ?_ | refine S.stI rfl rfl (by first | omega | (rw [Array.size_setIfInBounds]; omega)) ?_ | (refine GQ.y ?_; refine Q.y ?_) | refine Q.go ?_ | (refine GQ.g ?_; refine Q.gq ?_) | (refine GQ.s ?_; refine Q.st ?_) | (refine GQ.g ?_; refine Q.gd ?_) | refine Q.ct rfl ?_ | refine Q.cf rfl ?_ | (refine GQ.a ?_; refine Q.al (fun b1 => ?_)))
        have hce : decide (s ≤ lastS (e.vs.map OV.abs)) = false := by rw [hul]; exact decide_eq_false hc
        refine ⟨k + 1, ⟨rfl, rfl, rfl, rfl, rfl, trivial⟩, by exact Go.SX.Ent.go, ⟨by omega, ?_⟩, by omega⟩
        rw [take_snoc he, List.any_append, hk2, List.any_cons, hce]; rfl
    · have hke : k = es.length := by omega
      subst hke
      rw [List.take_length] at hk2
      refine Q.r ?_; (repeat (intro b1; refine Q.r ?_))
      exact ⟨(), trivial, by exact Go.SX.Ent.go, hk2⟩
  · rintro _ h0
    refine Q.r ?_; (repeat (intro b1; refine Q.r ?_))
    rw [h0]
    exact N.r1 (RV.tmp rfl RV.nil) (by exact Go.SX.Ent.go) ⟨M', rfl, hl, rfl⟩
end Go.Proofs.YtjidejcehmamkaaGreatDoor
namespace Go.SX
open Go
section
variable {P : Program} {n : Nat} {ops : List Oper} {Q : Post} {f : Env} {A L : List HP} {cs : List Nat}
theorem A.three (i j m0 : Nat) {k : Nat} {listed : Array Bool} {held : Bool} {o o' o2 : Oper} (hr : Region.ready .any ops.toArray listed = [i, j, m0]) (hi : ops[i]? = some o) (hj : ops[j]? = some o') (h2 : ops[m0]? = some o2)
    (h : oneS P n ops o (fun f L => anyS P n ops Q cs A k (listed.setIfInBounds i true) held f L) f L)
    (h' : oneS P n ops o' (fun f L => anyS P n ops Q cs A k (listed.setIfInBounds j true) held f L) f L)
    (h'' : oneS P n ops o2 (fun f L => anyS P n ops Q cs A k (listed.setIfInBounds m0 true) held f L) f L) : anyS P n ops Q cs A (k + 1) listed held f L := by
  intro ok F a w s hsh t hh
  refine ⟨fun h0 => (by rw [h0] at hr; cases hr), fun m hm => ?_⟩
  have hri : i ∈ Region.ready .any ops.toArray listed := by rw [hr]; simp
  have hrj : j ∈ Region.ready .any ops.toArray listed := by rw [hr]; simp
  have hrm : m0 ∈ Region.ready .any ops.toArray listed := by rw [hr]; simp
  rw [hr] at hm
  rcases (by simpa using hm : m = i ∨ m = j ∨ m = m0) with rfl | rfl | rfl
  · cases held with
    | true => exact one_of (M' := A) hi ok s (by simpa using t) (hsh.set hri) (.inl ⟨rfl, rfl⟩) h
    | false => exact one_of (M' := []) hi ok s (by simpa using t) (hsh.set hri) (.inr ⟨rfl, rfl, hit_set (hh rfl)⟩) h
  · cases held with
    | true => exact one_of (M' := A) hj ok s (by simpa using t) (hsh.set hrj) (.inl ⟨rfl, rfl⟩) h'
    | false => exact one_of (M' := []) hj ok s (by simpa using t) (hsh.set hrj) (.inr ⟨rfl, rfl, hit_set (hh rfl)⟩) h'
  · cases held with
    | true => exact one_of (M' := A) h2 ok s (by simpa using t) (hsh.set hrm) (.inl ⟨rfl, rfl⟩) h''
    | false => exact one_of (M' := []) h2 ok s (by simpa using t) (hsh.set hrm) (.inr ⟨rfl, rfl, hit_set (hh rfl)⟩) h''
end
section
variable {P : Program} {n : Nat} {ops : List Oper} {Q : Post} {f : Env} {A L : List HP} {E cs σ : List Nat} {listed : Array Bool} {held : Bool}
theorem D.three (i j m : Nat) (σ1 σ2 σ3 : List Nat) {τ : List Nat} {o o' o2 : Oper} (hr : Region.ready .any ops.toArray listed = [i, j, m]) (hi : ops[i]? = some o) (hj : ops[j]? = some o') (hm : ops[m]? = some o2) (hl1 : σ1.length = τ.length) (hl2 : σ2.length = τ.length) (hl3 : σ3.length = τ.length)
    (ho1 : ordOK ops.toArray E cs σ1 (listed.setIfInBounds i true) = true) (ho2 : ordOK ops.toArray E cs σ2 (listed.setIfInBounds j true) = true) (ho3 : ordOK ops.toArray E cs σ3 (listed.setIfInBounds m true) = true)
    (h1 : opsS P n ops [o] (thenS (fun f L => drawS P n ops E cs A σ1 Q (listed.setIfInBounds i true) held f L) (fun _ _ _ => False)) f L)
    (h2 : opsS P n ops [o'] (thenS (fun f L => drawS P n ops E cs A σ2 Q (listed.setIfInBounds j true) held f L) (fun _ _ _ => False)) f L)
    (h3 : opsS P n ops [o2] (thenS (fun f L => drawS P n ops E cs A σ3 Q (listed.setIfInBounds m true) held f L) (fun _ _ _ => False)) f L) : drawS P n ops E cs A (99999 :: τ) Q listed held f L := by
  intro _ hs hQ
  exact _root_.Go.SX.A.three i j m hr hi hj hm (fun ok F a w s t => wpList_mono (h1 ok F a w s t) (by rintro e a w ⟨f, L, s, t, q⟩; cases e <;> first | exact ⟨f, L, s, t, hl1 ▸ q ho1 hs hQ⟩ | exact q.elim))
    (fun ok F a w s t => wpList_mono (h2 ok F a w s t) (by rintro e a w ⟨f, L, s, t, q⟩; cases e <;> first | exact ⟨f, L, s, t, hl2 ▸ q ho2 hs hQ⟩ | exact q.elim))
    (fun ok F a w s t => wpList_mono (h3 ok F a w s t) (by rintro e a w ⟨f, L, s, t, q⟩; cases e <;> first | exact ⟨f, L, s, t, hl3 ▸ q ho3 hs hQ⟩ | exact q.elim))
end
section
variable {P : Program} {n : Nat} {ops rest : List Oper} {Q : Post} {f : Env} {A L : List HP} {d : Tmp} {ty : TypeId} {pos : String} {af : Array Edge}
theorem S.bs1 {t e : TypeId} {x : Operand} {v : Value} {sz bts : Nat} {ag : Bool} {zs cs : List Value} [h1 : SlTy P t e] [h2 : Ty P e ag sz zs bts]
    (hx : ev f x = some v) (hv : v.cells.toList = cs) (hz0 : Nat.beq zs.length sz = true) (hsm : Nat.ble sz 16777216 = true) (hn : Nat.beq cs.length sz = true)
    (hk : ∀ b, opsS P n ops rest Q (upd f d (.slice (some ⟨b, 0, none⟩) 1 1)) (slO e sz (some ⟨b, 0, none⟩) 1 1 cs :: L)) : opsS P n ops (⟨some d, .buildSlice t 1 #[(0, x)], ty, pos, af, none⟩ :: rest) Q f L := by
  have hn' : cs.length = sz := Nat.eq_of_beq_eq_true hn
  have hz' : zs.length = sz := Nat.eq_of_beq_eq_true hz0
  refine S.bs (len := 1) (parts := #[(0, x)]) (l := [(0, v)]) (cs := cs) (by simp [partsL, hx]) hz0 (by rw [Nat.one_mul]; exact hsm) ?_ ?_ (fun b => ?_)
  · unfold fitsL cellsOf
    simp [rowL, hv, hn', Nat.beq_refl]
  · unfold cellsOf
    simp only [List.map_cons, List.map_nil, hv, fillL, rowL, rep, List.append_nil]
    simp [putAt, hn', hz']
  · exact opsS_ent (slO_fold (by rw [hn', Nat.one_mul])) (hk b)
end
end Go.SX
namespace Go.Proofs.YtjidejcehmamkaaGreatDoor
open Go Go.SX
attribute [local irreducible] swp opsS thenS blockS retS CallsS St Ent YieldS anyS drawS
def liftN (n : NV) (r : NA) : NV := if r.kind = 12 then { n with kind := 12 } else r.nv
def planR (n : NV) (M : Nat → Option Obj) (p : Nat) (j : JS) (pl : PA) (L : List HP) (r : Value) (L' : List HP) : Prop := ∃ (ra : Option Addr) (rc : Nat) (ma : Option Addr) (mc : Nat) (ea : Option Addr) (ec : Nat) (M' : Nat → Option Obj),
  r = .agg #[.slice ra pl.rec_.length rc, .slice ma pl.mail.length mc, .slice ea pl.els.length ec] ∧ leM M M' ∧
  L' = slO 57 16 ra pl.rec_.length rc (pl.rec_.flatMap fun r => (liftN n r).cells) :: slO 62 17 ma pl.mail.length mc (pl.mail.flatMap mailC) :: slO 62 17 ea pl.els.length ec (pl.els.flatMap mailC) :: jurH M' p j :: roM M' :: L
abbrev eR : HP := slO 57 16 none 0 0 []
abbrev eM : HP := slO 62 17 none 0 0 []
set_option maxHeartbeats 2000000 in
theorem prepare_spec (n : NV) (M : Nat → Option Obj) (p : Nat) (j : JS) (k : Nat) (L : List HP) (hw : WFK j.v k) (hk : k ≤ 10000) (hn : okN M n) (hN : OkN n) :
    CallsS Tryz.prog 41 [ptrJ p, n.val] (jurH M p j :: roM M :: L) (planR n M p j (prepV j n.abs) L) := by
  unfold prepV
  refine CallsS.of_body Tryz.func41 rfl rfl rfl ?_
  refine Q.r ?_; (repeat (intro b1; refine Q.r ?_))
  refine S.cj p rfl (intent_spec M p j k n.txn _ hw hk) ?_
  rintro _ _ ⟨i, M1, rfl, hl1, hi, hix, rfl⟩
  refine Q.r ?_; (repeat (intro b1; refine Q.r ?_))
  refine swp_jur p (fun v mp md self ps hq => ?_)
  refine Q.dgo [true, true, true, true, true, true, true, true] [] [] [0, 1, 2, 3, 4, 5, 6, 7, 8, 9, 10, 11] ?_
  refine Q.rd ?_; (repeat (intro b1; refine Q.rd ?_))
  refine D.y rfl rfl rfl (by kernel_rfl) (Y.lk true rfl rfl (fun w => Tryz.zeroValue30 w)) ?_
  cases hd : lkL j.done n.txn with
  | some s =>
    rw [if_pos (.inl rfl)]
    dsimp only
    refine Q.rd ?_; (repeat (intro b1; refine Q.rd ?_))
    refine Q.r ?_; (repeat (intro b1; refine Q.r ?_))
    refine Q.dgo [true, true, true, true, true, false, true, true] [8] [] [0, 1, 2, 3, 4, 5, 6, 7, 8, 9, 10, 11] ?_
    refine Q.rd ?_; (repeat (intro b1; refine Q.rd ?_))
    refine Q.r ?_; (repeat (intro b1; refine Q.r ?_))
    refine N.r1 (by apply RV.cellN; rfl; exact RdC.row; rfl; exact RV.nil) ?_ ⟨none, 0, none, 0, none, 0, M1, rfl, hl1, rfl⟩; show Ent _ (eR :: eM :: eM :: jurH M1 p j :: roM M1 :: L); refine Ent.trans (jclose (p := p) (v := v) (sf := self) (dim := j.v.dim) (mp := mp) (md := md) (j := j) (ps := ps) hq rfl) ?_; exact Go.SX.Ent.go
  | none =>
    dsimp only
    refine Q.rd ?_; (repeat (intro b1; refine Q.rd ?_))
    refine Q.r ?_; (repeat (intro b1; refine Q.r ?_))
    refine Q.dgo [true, true, true, true, true, false, true, true] [8] [] [0, 1, 2, 3, 4, 5, 6, 7, 8, 9, 10, 11] ?_
    refine Q.rd ?_; (repeat (intro b1; refine Q.rd ?_))
    refine D.e rfl rfl rfl ?_
    refine S.guard rfl ?_
    refine S.cr rfl (Check_spec j.v.dim n.oa n.oc n.ops _ (hn.mono hl1).rd.o hN.o hN.ov (by have := hw.wf.d1; have := hw.wf.d2; omega)) ?_
    rintro _ _ ⟨rfl, rfl⟩
    by_cases hc : checkV j.v.dim (n.ops.map OV.abs) ≠ 0
    · rw [if_pos (.inr hc)]
      refine Q.r ?_; (repeat (intro b1; refine Q.r ?_))
      refine Q.rd ?_; (repeat (intro b1; refine Q.rd ?_))
      refine Q.r ?_; (repeat (intro b1; refine Q.r ?_))
      refine N.r1 (by apply RV.cellN; rfl; exact RdC.row; rfl; exact RV.nil) ?_ ⟨none, 0, none, 0, none, 0, M1, rfl, hl1, rfl⟩; show Ent _ (eR :: eM :: eM :: jurH M1 p j :: roM M1 :: L); refine Ent.trans (jclose (p := p) (v := v) (sf := self) (dim := j.v.dim) (mp := mp) (md := md) (j := j) (ps := ps) hq rfl) ?_; exact Go.SX.Ent.go
    rw [if_neg (by rintro (h | h); cases h; exact hc h)]
    refine Q.r ?_; (repeat (intro b1; refine Q.r ?_))
    refine Q.rd ?_; (repeat (intro b1; refine Q.rd ?_))
    refine Q.r ?_; (repeat (intro b1; refine Q.r ?_))
    refine swp_ent (jclose (p := p) (v := v) (sf := self) (dim := j.v.dim) (mp := mp) (md := md) (j := j) (ps := ps) hq rfl) ?_
    cases hi2 : (lkL j.v.its n.txn).isSome with
    | true =>
      rw [if_pos rfl]
      refine Q.r ?_; (repeat (intro b1; refine Q.r ?_))
      refine S.cr rfl (vote_spec n.txn 0 _) ?_
      rintro _ _ ⟨rfl, rfl⟩
      refine Q.r ?_; (repeat (intro b1; refine Q.r ?_))
      refine N.r1 (by apply RV.cellN; rfl; exact RdC.row; rfl; exact RV.nil) ?_ ⟨none, 0, some ⟨b1, 0, none⟩, 1, none, 0, M1, rfl, hl1, rfl⟩; show Ent _ (eR :: slO 62 17 (some ⟨b1, 0, none⟩) 1 1 (mailC (voteN n.txn 0)) :: eM :: jurH M1 p j :: roM M1 :: L); refine Ent.nilS ?_; refine Ent.trans ?_ (slO_fold rfl); exact Go.SX.Ent.go
    | false =>
      rw [if_neg (by decide)]
      refine Q.r ?_; (repeat (intro b1; refine Q.r ?_))
      refine S.cj p rfl (taken_spec M1 p j k n.oa n.oc n.ops _ hw hk (hn.mono hl1).o.1 hN.o) ?_
      rintro _ _ ⟨M2, rfl, hl2, rfl⟩
      cases ht : takenV j.v (n.ops.map OV.abs) with
      | true =>
        rw [if_pos rfl]
        refine Q.r ?_; (repeat (intro b1; refine Q.r ?_))
        refine S.cr rfl (vote_spec n.txn 11 _) ?_
        rintro _ _ ⟨rfl, rfl⟩
        refine Q.r ?_; (repeat (intro b1; refine Q.r ?_))
        refine N.r1 (by apply RV.cellN; rfl; exact RdC.row; rfl; exact RV.nil) ?_ ⟨none, 0, some ⟨b1, 0, none⟩, 1, none, 0, M2, rfl, hl1.trans hl2, rfl⟩; show Ent _ (eR :: slO 62 17 (some ⟨b1, 0, none⟩) 1 1 (mailC (voteN n.txn 11)) :: eM :: jurH M2 p j :: roM M2 :: L); refine Ent.nilS ?_; refine Ent.trans ?_ (slO_fold rfl); exact Go.SX.Ent.go
      | false =>
        rw [if_neg (by decide)]
        refine Q.r ?_; (repeat (intro b1; refine Q.r ?_))
        refine Q.dgo [true, false, false, false, false, true] [1, 4, 5, 8, 9, 11] [] [0, 2, 3, 6, 7, 99999, 0, 0, 0, 0, 0, 0] ?_
        refine Q.rd ?_; (repeat (intro b1; refine Q.rd ?_))
        refine D.two 1 4 [4, 99999, 0, 0, 0, 0] [99999, 0, 0, 0, 0, 0] (by kernel_rfl) rfl rfl rfl rfl (by kernel_rfl) (by kernel_rfl) ?_ ?_
        · refine S.bs1 (cs := ({ n with kind := 12 } : NV).cells) rfl rfl rfl rfl rfl (fun bR => ?_)
          refine Q.r ?_; (repeat (intro b1; refine Q.r ?_))
          refine D.e rfl rfl rfl ?_
          refine S.cr rfl (vote_spec n.txn 0 _) ?_
          rintro _ _ ⟨rfl, rfl⟩
          refine Q.r ?_; (repeat (intro b1; refine Q.r ?_))
          refine D.two 5 8 [8, 9, 10, 11] [99999, 0, 0, 0] (by kernel_rfl) rfl rfl rfl rfl (by kernel_rfl) (by kernel_rfl) ?_ ?_
          · refine S.bs1 (cs := mailC (voteN n.txn 0)) rfl rfl rfl rfl rfl (fun bM => ?_)
            refine Q.r ?_; (repeat (intro b1; refine Q.r ?_))
            refine D.e rfl rfl rfl ?_
            refine S.cr rfl (vote_spec n.txn 8 _) ?_
            rintro _ _ ⟨rfl, rfl⟩
            refine Q.r ?_; (repeat (intro b1; refine Q.r ?_))
            refine D.e rfl rfl rfl ?_
            refine S.bs1 (cs := mailC (voteN n.txn 8)) rfl rfl rfl rfl rfl (fun bE => ?_)
            refine Q.r ?_; (repeat (intro b1; refine Q.r ?_))
            refine Q.rd ?_; (repeat (intro b1; refine Q.rd ?_))
            refine Q.r ?_; (repeat (intro b1; refine Q.r ?_))
            refine N.r1 (by apply RV.cellN; rfl; exact RdC.row; rfl; exact RV.nil) ?_ ⟨some ⟨bR, 0, none⟩, 1, some ⟨bM, 0, none⟩, 1, some ⟨bE, 0, none⟩, 1, M2, rfl, hl1.trans hl2, rfl⟩; show Ent _ (slO 57 16 (some ⟨bR, 0, none⟩) 1 1 ({ n with kind := 12 } : NV).cells :: slO 62 17 (some ⟨bM, 0, none⟩) 1 1 (mailC (voteN n.txn 0)) :: slO 62 17 (some ⟨bE, 0, none⟩) 1 1 (mailC (voteN n.txn 8)) :: jurH M2 p j :: roM M2 :: L); exact Go.SX.Ent.go
          · refine S.cr rfl (vote_spec n.txn 8 _) ?_
            rintro _ _ ⟨rfl, rfl⟩
            refine Q.r ?_; (repeat (intro b1; refine Q.r ?_))
            refine D.two 5 9 [9, 10, 11] [5, 10, 11] (by kernel_rfl) rfl rfl rfl rfl (by kernel_rfl) (by kernel_rfl) ?_ ?_
            · refine S.bs1 (cs := mailC (voteN n.txn 0)) rfl rfl rfl rfl rfl (fun bM => ?_)
              refine Q.r ?_; (repeat (intro b1; refine Q.r ?_))
              refine D.e rfl rfl rfl ?_
              refine S.bs1 (cs := mailC (voteN n.txn 8)) rfl rfl rfl rfl rfl (fun bE => ?_)
              refine Q.r ?_; (repeat (intro b1; refine Q.r ?_))
              refine Q.rd ?_; (repeat (intro b1; refine Q.rd ?_))
              refine Q.r ?_; (repeat (intro b1; refine Q.r ?_))
              refine N.r1 (by apply RV.cellN; rfl; exact RdC.row; rfl; exact RV.nil) ?_ ⟨some ⟨bR, 0, none⟩, 1, some ⟨bM, 0, none⟩, 1, some ⟨bE, 0, none⟩, 1, M2, rfl, hl1.trans hl2, rfl⟩; show Ent _ (slO 57 16 (some ⟨bR, 0, none⟩) 1 1 ({ n with kind := 12 } : NV).cells :: slO 62 17 (some ⟨bM, 0, none⟩) 1 1 (mailC (voteN n.txn 0)) :: slO 62 17 (some ⟨bE, 0, none⟩) 1 1 (mailC (voteN n.txn 8)) :: jurH M2 p j :: roM M2 :: L); exact Go.SX.Ent.go
            · refine S.bs1 (cs := mailC (voteN n.txn 8)) rfl rfl rfl rfl rfl (fun bE => ?_)
              refine Q.r ?_; (repeat (intro b1; refine Q.r ?_))
              refine D.e rfl rfl rfl ?_
              refine S.bs1 (cs := mailC (voteN n.txn 0)) rfl rfl rfl rfl rfl (fun bM => ?_)
              refine Q.r ?_; (repeat (intro b1; refine Q.r ?_))
              refine Q.rd ?_; (repeat (intro b1; refine Q.rd ?_))
              refine Q.r ?_; (repeat (intro b1; refine Q.r ?_))
              refine N.r1 (by apply RV.cellN; rfl; exact RdC.row; rfl; exact RV.nil) ?_ ⟨some ⟨bR, 0, none⟩, 1, some ⟨bM, 0, none⟩, 1, some ⟨bE, 0, none⟩, 1, M2, rfl, hl1.trans hl2, rfl⟩; show Ent _ (slO 57 16 (some ⟨bR, 0, none⟩) 1 1 ({ n with kind := 12 } : NV).cells :: slO 62 17 (some ⟨bM, 0, none⟩) 1 1 (mailC (voteN n.txn 0)) :: slO 62 17 (some ⟨bE, 0, none⟩) 1 1 (mailC (voteN n.txn 8)) :: jurH M2 p j :: roM M2 :: L); exact Go.SX.Ent.go
        · refine S.cr rfl (vote_spec n.txn 0 _) ?_
          rintro _ _ ⟨rfl, rfl⟩
          refine Q.r ?_; (repeat (intro b1; refine Q.r ?_))
          refine D.three 1 5 8 [99999, 0, 0, 0, 0] [99999, 0, 0, 0, 0] [99999, 0, 0, 0, 0] (by kernel_rfl) rfl rfl rfl rfl rfl rfl (by kernel_rfl) (by kernel_rfl) (by kernel_rfl) ?_ ?_ ?_
          · refine S.bs1 (cs := ({ n with kind := 12 } : NV).cells) rfl rfl rfl rfl rfl (fun bR => ?_)
            refine Q.r ?_; (repeat (intro b1; refine Q.r ?_))
            refine D.two 5 8 [8, 9, 10, 11] [99999, 0, 0, 0] (by kernel_rfl) rfl rfl rfl rfl (by kernel_rfl) (by kernel_rfl) ?_ ?_
            · refine S.bs1 (cs := mailC (voteN n.txn 0)) rfl rfl rfl rfl rfl (fun bM => ?_)
              refine Q.r ?_; (repeat (intro b1; refine Q.r ?_))
              refine D.e rfl rfl rfl ?_
              refine S.cr rfl (vote_spec n.txn 8 _) ?_
              rintro _ _ ⟨rfl, rfl⟩
              refine Q.r ?_; (repeat (intro b1; refine Q.r ?_))
              refine D.e rfl rfl rfl ?_
              refine S.bs1 (cs := mailC (voteN n.txn 8)) rfl rfl rfl rfl rfl (fun bE => ?_)
              refine Q.r ?_; (repeat (intro b1; refine Q.r ?_))
              refine Q.rd ?_; (repeat (intro b1; refine Q.rd ?_))
              refine Q.r ?_; (repeat (intro b1; refine Q.r ?_))
              refine N.r1 (by apply RV.cellN; rfl; exact RdC.row; rfl; exact RV.nil) ?_ ⟨some ⟨bR, 0, none⟩, 1, some ⟨bM, 0, none⟩, 1, some ⟨bE, 0, none⟩, 1, M2, rfl, hl1.trans hl2, rfl⟩; show Ent _ (slO 57 16 (some ⟨bR, 0, none⟩) 1 1 ({ n with kind := 12 } : NV).cells :: slO 62 17 (some ⟨bM, 0, none⟩) 1 1 (mailC (voteN n.txn 0)) :: slO 62 17 (some ⟨bE, 0, none⟩) 1 1 (mailC (voteN n.txn 8)) :: jurH M2 p j :: roM M2 :: L); exact Go.SX.Ent.go
            · refine S.cr rfl (vote_spec n.txn 8 _) ?_
              rintro _ _ ⟨rfl, rfl⟩
              refine Q.r ?_; (repeat (intro b1; refine Q.r ?_))
              refine D.two 5 9 [9, 10, 11] [5, 10, 11] (by kernel_rfl) rfl rfl rfl rfl (by kernel_rfl) (by kernel_rfl) ?_ ?_
              · refine S.bs1 (cs := mailC (voteN n.txn 0)) rfl rfl rfl rfl rfl (fun bM => ?_)
                refine Q.r ?_; (repeat (intro b1; refine Q.r ?_))
                refine D.e rfl rfl rfl ?_
                refine S.bs1 (cs := mailC (voteN n.txn 8)) rfl rfl rfl rfl rfl (fun bE => ?_)
                refine Q.r ?_; (repeat (intro b1; refine Q.r ?_))
                refine Q.rd ?_; (repeat (intro b1; refine Q.rd ?_))
                refine Q.r ?_; (repeat (intro b1; refine Q.r ?_))
                refine N.r1 (by apply RV.cellN; rfl; exact RdC.row; rfl; exact RV.nil) ?_ ⟨some ⟨bR, 0, none⟩, 1, some ⟨bM, 0, none⟩, 1, some ⟨bE, 0, none⟩, 1, M2, rfl, hl1.trans hl2, rfl⟩; show Ent _ (slO 57 16 (some ⟨bR, 0, none⟩) 1 1 ({ n with kind := 12 } : NV).cells :: slO 62 17 (some ⟨bM, 0, none⟩) 1 1 (mailC (voteN n.txn 0)) :: slO 62 17 (some ⟨bE, 0, none⟩) 1 1 (mailC (voteN n.txn 8)) :: jurH M2 p j :: roM M2 :: L); exact Go.SX.Ent.go
              · refine S.bs1 (cs := mailC (voteN n.txn 8)) rfl rfl rfl rfl rfl (fun bE => ?_)
                refine Q.r ?_; (repeat (intro b1; refine Q.r ?_))
                refine D.e rfl rfl rfl ?_
                refine S.bs1 (cs := mailC (voteN n.txn 0)) rfl rfl rfl rfl rfl (fun bM => ?_)
                refine Q.r ?_; (repeat (intro b1; refine Q.r ?_))
                refine Q.rd ?_; (repeat (intro b1; refine Q.rd ?_))
                refine Q.r ?_; (repeat (intro b1; refine Q.r ?_))
                refine N.r1 (by apply RV.cellN; rfl; exact RdC.row; rfl; exact RV.nil) ?_ ⟨some ⟨bR, 0, none⟩, 1, some ⟨bM, 0, none⟩, 1, some ⟨bE, 0, none⟩, 1, M2, rfl, hl1.trans hl2, rfl⟩; show Ent _ (slO 57 16 (some ⟨bR, 0, none⟩) 1 1 ({ n with kind := 12 } : NV).cells :: slO 62 17 (some ⟨bM, 0, none⟩) 1 1 (mailC (voteN n.txn 0)) :: slO 62 17 (some ⟨bE, 0, none⟩) 1 1 (mailC (voteN n.txn 8)) :: jurH M2 p j :: roM M2 :: L); exact Go.SX.Ent.go
          · refine S.bs1 (cs := mailC (voteN n.txn 0)) rfl rfl rfl rfl rfl (fun bM => ?_)
            refine Q.r ?_; (repeat (intro b1; refine Q.r ?_))
            refine D.two 1 8 [8, 9, 10, 11] [99999, 0, 0, 0] (by kernel_rfl) rfl rfl rfl rfl (by kernel_rfl) (by kernel_rfl) ?_ ?_
            · refine S.bs1 (cs := ({ n with kind := 12 } : NV).cells) rfl rfl rfl rfl rfl (fun bR => ?_)
              refine Q.r ?_; (repeat (intro b1; refine Q.r ?_))
              refine D.e rfl rfl rfl ?_
              refine S.cr rfl (vote_spec n.txn 8 _) ?_
              rintro _ _ ⟨rfl, rfl⟩
              refine Q.r ?_; (repeat (intro b1; refine Q.r ?_))
              refine D.e rfl rfl rfl ?_
              refine S.bs1 (cs := mailC (voteN n.txn 8)) rfl rfl rfl rfl rfl (fun bE => ?_)
              refine Q.r ?_; (repeat (intro b1; refine Q.r ?_))
              refine Q.rd ?_; (repeat (intro b1; refine Q.rd ?_))
              refine Q.r ?_; (repeat (intro b1; refine Q.r ?_))
              refine N.r1 (by apply RV.cellN; rfl; exact RdC.row; rfl; exact RV.nil) ?_ ⟨some ⟨bR, 0, none⟩, 1, some ⟨bM, 0, none⟩, 1, some ⟨bE, 0, none⟩, 1, M2, rfl, hl1.trans hl2, rfl⟩; show Ent _ (slO 57 16 (some ⟨bR, 0, none⟩) 1 1 ({ n with kind := 12 } : NV).cells :: slO 62 17 (some ⟨bM, 0, none⟩) 1 1 (mailC (voteN n.txn 0)) :: slO 62 17 (some ⟨bE, 0, none⟩) 1 1 (mailC (voteN n.txn 8)) :: jurH M2 p j :: roM M2 :: L); exact Go.SX.Ent.go
            · refine S.cr rfl (vote_spec n.txn 8 _) ?_
              rintro _ _ ⟨rfl, rfl⟩
              refine Q.r ?_; (repeat (intro b1; refine Q.r ?_))
              refine D.two 1 9 [9, 10, 11] [1, 10, 11] (by kernel_rfl) rfl rfl rfl rfl (by kernel_rfl) (by kernel_rfl) ?_ ?_
              · refine S.bs1 (cs := ({ n with kind := 12 } : NV).cells) rfl rfl rfl rfl rfl (fun bR => ?_)
                refine Q.r ?_; (repeat (intro b1; refine Q.r ?_))
                refine D.e rfl rfl rfl ?_
                refine S.bs1 (cs := mailC (voteN n.txn 8)) rfl rfl rfl rfl rfl (fun bE => ?_)
                refine Q.r ?_; (repeat (intro b1; refine Q.r ?_))
                refine Q.rd ?_; (repeat (intro b1; refine Q.rd ?_))
                refine Q.r ?_; (repeat (intro b1; refine Q.r ?_))
                refine N.r1 (by apply RV.cellN; rfl; exact RdC.row; rfl; exact RV.nil) ?_ ⟨some ⟨bR, 0, none⟩, 1, some ⟨bM, 0, none⟩, 1, some ⟨bE, 0, none⟩, 1, M2, rfl, hl1.trans hl2, rfl⟩; show Ent _ (slO 57 16 (some ⟨bR, 0, none⟩) 1 1 ({ n with kind := 12 } : NV).cells :: slO 62 17 (some ⟨bM, 0, none⟩) 1 1 (mailC (voteN n.txn 0)) :: slO 62 17 (some ⟨bE, 0, none⟩) 1 1 (mailC (voteN n.txn 8)) :: jurH M2 p j :: roM M2 :: L); exact Go.SX.Ent.go
              · refine S.bs1 (cs := mailC (voteN n.txn 8)) rfl rfl rfl rfl rfl (fun bE => ?_)
                refine Q.r ?_; (repeat (intro b1; refine Q.r ?_))
                refine D.e rfl rfl rfl ?_
                refine S.bs1 (cs := ({ n with kind := 12 } : NV).cells) rfl rfl rfl rfl rfl (fun bR => ?_)
                refine Q.r ?_; (repeat (intro b1; refine Q.r ?_))
                refine Q.rd ?_; (repeat (intro b1; refine Q.rd ?_))
                refine Q.r ?_; (repeat (intro b1; refine Q.r ?_))
                refine N.r1 (by apply RV.cellN; rfl; exact RdC.row; rfl; exact RV.nil) ?_ ⟨some ⟨bR, 0, none⟩, 1, some ⟨bM, 0, none⟩, 1, some ⟨bE, 0, none⟩, 1, M2, rfl, hl1.trans hl2, rfl⟩; show Ent _ (slO 57 16 (some ⟨bR, 0, none⟩) 1 1 ({ n with kind := 12 } : NV).cells :: slO 62 17 (some ⟨bM, 0, none⟩) 1 1 (mailC (voteN n.txn 0)) :: slO 62 17 (some ⟨bE, 0, none⟩) 1 1 (mailC (voteN n.txn 8)) :: jurH M2 p j :: roM M2 :: L); exact Go.SX.Ent.go
          · refine S.cr rfl (vote_spec n.txn 8 _) ?_
            rintro _ _ ⟨rfl, rfl⟩
            refine Q.r ?_; (repeat (intro b1; refine Q.r ?_))
            refine D.three 1 5 9 [99999, 0, 0, 0] [99999, 0, 0, 0] [99999, 0, 0, 0] (by kernel_rfl) rfl rfl rfl rfl rfl rfl (by kernel_rfl) (by kernel_rfl) (by kernel_rfl) ?_ ?_ ?_
            · refine S.bs1 (cs := ({ n with kind := 12 } : NV).cells) rfl rfl rfl rfl rfl (fun bR => ?_)
              refine Q.r ?_; (repeat (intro b1; refine Q.r ?_))
              refine D.two 5 9 [9, 10, 11] [5, 10, 11] (by kernel_rfl) rfl rfl rfl rfl (by kernel_rfl) (by kernel_rfl) ?_ ?_
              · refine S.bs1 (cs := mailC (voteN n.txn 0)) rfl rfl rfl rfl rfl (fun bM => ?_)
                refine Q.r ?_; (repeat (intro b1; refine Q.r ?_))
                refine D.e rfl rfl rfl ?_
                refine S.bs1 (cs := mailC (voteN n.txn 8)) rfl rfl rfl rfl rfl (fun bE => ?_)
                refine Q.r ?_; (repeat (intro b1; refine Q.r ?_))
                refine Q.rd ?_; (repeat (intro b1; refine Q.rd ?_))
                refine Q.r ?_; (repeat (intro b1; refine Q.r ?_))
                refine N.r1 (by apply RV.cellN; rfl; exact RdC.row; rfl; exact RV.nil) ?_ ⟨some ⟨bR, 0, none⟩, 1, some ⟨bM, 0, none⟩, 1, some ⟨bE, 0, none⟩, 1, M2, rfl, hl1.trans hl2, rfl⟩; show Ent _ (slO 57 16 (some ⟨bR, 0, none⟩) 1 1 ({ n with kind := 12 } : NV).cells :: slO 62 17 (some ⟨bM, 0, none⟩) 1 1 (mailC (voteN n.txn 0)) :: slO 62 17 (some ⟨bE, 0, none⟩) 1 1 (mailC (voteN n.txn 8)) :: jurH M2 p j :: roM M2 :: L); exact Go.SX.Ent.go
              · refine S.bs1 (cs := mailC (voteN n.txn 8)) rfl rfl rfl rfl rfl (fun bE => ?_)
                refine Q.r ?_; (repeat (intro b1; refine Q.r ?_))
                refine D.e rfl rfl rfl ?_
                refine S.bs1 (cs := mailC (voteN n.txn 0)) rfl rfl rfl rfl rfl (fun bM => ?_)
                refine Q.r ?_; (repeat (intro b1; refine Q.r ?_))
                refine Q.rd ?_; (repeat (intro b1; refine Q.rd ?_))
                refine Q.r ?_; (repeat (intro b1; refine Q.r ?_))
                refine N.r1 (by apply RV.cellN; rfl; exact RdC.row; rfl; exact RV.nil) ?_ ⟨some ⟨bR, 0, none⟩, 1, some ⟨bM, 0, none⟩, 1, some ⟨bE, 0, none⟩, 1, M2, rfl, hl1.trans hl2, rfl⟩; show Ent _ (slO 57 16 (some ⟨bR, 0, none⟩) 1 1 ({ n with kind := 12 } : NV).cells :: slO 62 17 (some ⟨bM, 0, none⟩) 1 1 (mailC (voteN n.txn 0)) :: slO 62 17 (some ⟨bE, 0, none⟩) 1 1 (mailC (voteN n.txn 8)) :: jurH M2 p j :: roM M2 :: L); exact Go.SX.Ent.go
            · refine S.bs1 (cs := mailC (voteN n.txn 0)) rfl rfl rfl rfl rfl (fun bM => ?_)
              refine Q.r ?_; (repeat (intro b1; refine Q.r ?_))
              refine D.two 1 9 [9, 10, 11] [1, 10, 11] (by kernel_rfl) rfl rfl rfl rfl (by kernel_rfl) (by kernel_rfl) ?_ ?_
              · refine S.bs1 (cs := ({ n with kind := 12 } : NV).cells) rfl rfl rfl rfl rfl (fun bR => ?_)
                refine Q.r ?_; (repeat (intro b1; refine Q.r ?_))
                refine D.e rfl rfl rfl ?_
                refine S.bs1 (cs := mailC (voteN n.txn 8)) rfl rfl rfl rfl rfl (fun bE => ?_)
                refine Q.r ?_; (repeat (intro b1; refine Q.r ?_))
                refine Q.rd ?_; (repeat (intro b1; refine Q.rd ?_))
                refine Q.r ?_; (repeat (intro b1; refine Q.r ?_))
                refine N.r1 (by apply RV.cellN; rfl; exact RdC.row; rfl; exact RV.nil) ?_ ⟨some ⟨bR, 0, none⟩, 1, some ⟨bM, 0, none⟩, 1, some ⟨bE, 0, none⟩, 1, M2, rfl, hl1.trans hl2, rfl⟩; show Ent _ (slO 57 16 (some ⟨bR, 0, none⟩) 1 1 ({ n with kind := 12 } : NV).cells :: slO 62 17 (some ⟨bM, 0, none⟩) 1 1 (mailC (voteN n.txn 0)) :: slO 62 17 (some ⟨bE, 0, none⟩) 1 1 (mailC (voteN n.txn 8)) :: jurH M2 p j :: roM M2 :: L); exact Go.SX.Ent.go
              · refine S.bs1 (cs := mailC (voteN n.txn 8)) rfl rfl rfl rfl rfl (fun bE => ?_)
                refine Q.r ?_; (repeat (intro b1; refine Q.r ?_))
                refine D.e rfl rfl rfl ?_
                refine S.bs1 (cs := ({ n with kind := 12 } : NV).cells) rfl rfl rfl rfl rfl (fun bR => ?_)
                refine Q.r ?_; (repeat (intro b1; refine Q.r ?_))
                refine Q.rd ?_; (repeat (intro b1; refine Q.rd ?_))
                refine Q.r ?_; (repeat (intro b1; refine Q.r ?_))
                refine N.r1 (by apply RV.cellN; rfl; exact RdC.row; rfl; exact RV.nil) ?_ ⟨some ⟨bR, 0, none⟩, 1, some ⟨bM, 0, none⟩, 1, some ⟨bE, 0, none⟩, 1, M2, rfl, hl1.trans hl2, rfl⟩; show Ent _ (slO 57 16 (some ⟨bR, 0, none⟩) 1 1 ({ n with kind := 12 } : NV).cells :: slO 62 17 (some ⟨bM, 0, none⟩) 1 1 (mailC (voteN n.txn 0)) :: slO 62 17 (some ⟨bE, 0, none⟩) 1 1 (mailC (voteN n.txn 8)) :: jurH M2 p j :: roM M2 :: L); exact Go.SX.Ent.go
            · refine S.bs1 (cs := mailC (voteN n.txn 8)) rfl rfl rfl rfl rfl (fun bE => ?_)
              refine Q.r ?_; (repeat (intro b1; refine Q.r ?_))
              refine D.two 1 5 [5, 10, 11] [1, 10, 11] (by kernel_rfl) rfl rfl rfl rfl (by kernel_rfl) (by kernel_rfl) ?_ ?_
              · refine S.bs1 (cs := ({ n with kind := 12 } : NV).cells) rfl rfl rfl rfl rfl (fun bR => ?_)
                refine Q.r ?_; (repeat (intro b1; refine Q.r ?_))
                refine D.e rfl rfl rfl ?_
                refine S.bs1 (cs := mailC (voteN n.txn 0)) rfl rfl rfl rfl rfl (fun bM => ?_)
                refine Q.r ?_; (repeat (intro b1; refine Q.r ?_))
                refine Q.rd ?_; (repeat (intro b1; refine Q.rd ?_))
                refine Q.r ?_; (repeat (intro b1; refine Q.r ?_))
                refine N.r1 (by apply RV.cellN; rfl; exact RdC.row; rfl; exact RV.nil) ?_ ⟨some ⟨bR, 0, none⟩, 1, some ⟨bM, 0, none⟩, 1, some ⟨bE, 0, none⟩, 1, M2, rfl, hl1.trans hl2, rfl⟩; show Ent _ (slO 57 16 (some ⟨bR, 0, none⟩) 1 1 ({ n with kind := 12 } : NV).cells :: slO 62 17 (some ⟨bM, 0, none⟩) 1 1 (mailC (voteN n.txn 0)) :: slO 62 17 (some ⟨bE, 0, none⟩) 1 1 (mailC (voteN n.txn 8)) :: jurH M2 p j :: roM M2 :: L); exact Go.SX.Ent.go
              · refine S.bs1 (cs := mailC (voteN n.txn 0)) rfl rfl rfl rfl rfl (fun bM => ?_)
                refine Q.r ?_; (repeat (intro b1; refine Q.r ?_))
                refine D.e rfl rfl rfl ?_
                refine S.bs1 (cs := ({ n with kind := 12 } : NV).cells) rfl rfl rfl rfl rfl (fun bR => ?_)
                refine Q.r ?_; (repeat (intro b1; refine Q.r ?_))
                refine Q.rd ?_; (repeat (intro b1; refine Q.rd ?_))
                refine Q.r ?_; (repeat (intro b1; refine Q.r ?_))
                refine N.r1 (by apply RV.cellN; rfl; exact RdC.row; rfl; exact RV.nil) ?_ ⟨some ⟨bR, 0, none⟩, 1, some ⟨bM, 0, none⟩, 1, some ⟨bE, 0, none⟩, 1, M2, rfl, hl1.trans hl2, rfl⟩; show Ent _ (slO 57 16 (some ⟨bR, 0, none⟩) 1 1 ({ n with kind := 12 } : NV).cells :: slO 62 17 (some ⟨bM, 0, none⟩) 1 1 (mailC (voteN n.txn 0)) :: slO 62 17 (some ⟨bE, 0, none⟩) 1 1 (mailC (voteN n.txn 8)) :: jurH M2 p j :: roM M2 :: L); exact Go.SX.Ent.go
end Go.Proofs.YtjidejcehmamkaaGreatDoor
namespace Go.Proofs.YtjidejcehmamkaaGreatDoor
open Go Go.SX
attribute [local irreducible] swp opsS thenS blockS retS CallsS St Ent YieldS anyS drawS
set_option maxHeartbeats 2000000 in
theorem decide_spec (n : NV) (M : Nat → Option Obj) (p : Nat) (j : JS) (k : Nat) (fr : Int) (L : List HP) (hw : WFK j.v k) (hk : k ≤ 10000) (hne : ∀ c ∈ j.v.ch, 0 < c.2.length) :
    CallsS Tryz.prog 42 [ptrJ p, .int .i64 fr, n.val] (jurH M p j :: roM M :: L) (planR n M p j (deciV j fr n.abs) L) := by
  unfold deciV
  refine CallsS.of_body Tryz.func42 rfl rfl rfl ?_
  refine Q.r ?_; (repeat (intro b1; refine Q.r ?_))
  refine S.cj p rfl (intent_spec M p j k n.txn _ hw hk) ?_
  rintro _ _ ⟨i, M1, rfl, hl1, hi, hix, rfl⟩
  refine Q.r ?_; (repeat (intro b1; refine Q.r ?_))
  refine swp_jur p (fun v mp md self ps hq => ?_)
  refine Q.dgo [true, true, true, true, true, true, true, true] [] [] [0, 1, 2, 3, 4, 5, 6, 7, 8, 9, 10, 11] ?_
  refine Q.rd ?_; (repeat (intro b1; refine Q.rd ?_))
  refine D.y rfl rfl rfl (by kernel_rfl) (Y.lk true rfl rfl (fun w => Tryz.zeroValue30 w)) ?_
  by_cases hc : n.code ≠ 0
  · rw [if_pos hc]
    cases hd : lkL j.done n.txn with
    | some s =>
      dsimp only
      refine Q.rd ?_; (repeat (intro b1; refine Q.rd ?_))
      cases hi2 : (lkL j.v.its n.txn).isSome with
      | false =>
        rw [if_neg (by rintro ⟨h, _⟩; cases h)]
        refine Q.r ?_; (repeat (intro b1; refine Q.r ?_))
        refine N.r1 (by apply RV.cellN; rfl; exact RdC.row; rfl; exact RV.nil) ?_ ⟨none, 0, none, 0, none, 0, M1, rfl, hl1, rfl⟩; show Ent _ (eR :: eM :: eM :: jurH M1 p j :: roM M1 :: L); refine Ent.trans (jclose (p := p) (v := v) (sf := self) (dim := j.v.dim) (mp := mp) (md := md) (j := j) (ps := ps) hq rfl) ?_; exact Go.SX.Ent.go
      | true =>
        by_cases hf : fr = 0
        · rw [if_pos ⟨rfl, hf⟩]
          refine Q.r ?_; (repeat (intro b1; refine Q.r ?_))
          refine N.r1 (by apply RV.cellN; rfl; exact RdC.row; rfl; exact RV.nil) ?_ ⟨some ⟨b1, 0, none⟩, 1, none, 0, none, 0, M1, rfl, hl1, rfl⟩; show Ent _ (slO 57 16 (some ⟨b1, 0, none⟩) 1 1 (aboN n.txn).nv.cells :: eM :: eM :: jurH M1 p j :: roM M1 :: L); refine Ent.trans ?_ (slO_fold rfl); refine Ent.trans (jclose (p := p) (v := v) (sf := self) (dim := j.v.dim) (mp := mp) (md := md) (j := j) (ps := ps) hq rfl) ?_; exact Go.SX.Ent.go
        · rw [if_neg (fun h => hf h.2)]
          refine Q.r ?_; (repeat (intro b1; refine Q.r ?_))
          refine N.r1 (by apply RV.cellN; rfl; exact RdC.row; rfl; exact RV.nil) ?_ ⟨none, 0, none, 0, none, 0, M1, rfl, hl1, rfl⟩; show Ent _ (eR :: eM :: eM :: jurH M1 p j :: roM M1 :: L); refine Ent.trans (jclose (p := p) (v := v) (sf := self) (dim := j.v.dim) (mp := mp) (md := md) (j := j) (ps := ps) hq rfl) ?_; exact Go.SX.Ent.go
    | none =>
      dsimp only
      refine Q.rd ?_; (repeat (intro b1; refine Q.rd ?_))
      cases hi2 : (lkL j.v.its n.txn).isSome with
      | false =>
        rw [if_neg (by rintro ⟨h, _⟩; cases h)]
        refine Q.r ?_; (repeat (intro b1; refine Q.r ?_))
        refine N.r1 (by apply RV.cellN; rfl; exact RdC.row; rfl; exact RV.nil) ?_ ⟨none, 0, none, 0, none, 0, M1, rfl, hl1, rfl⟩; show Ent _ (eR :: eM :: eM :: jurH M1 p j :: roM M1 :: L); refine Ent.trans (jclose (p := p) (v := v) (sf := self) (dim := j.v.dim) (mp := mp) (md := md) (j := j) (ps := ps) hq rfl) ?_; exact Go.SX.Ent.go
      | true =>
        by_cases hf : fr = 0
        · rw [if_pos ⟨rfl, hf⟩]
          refine Q.r ?_; (repeat (intro b1; refine Q.r ?_))
          refine N.r1 (by apply RV.cellN; rfl; exact RdC.row; rfl; exact RV.nil) ?_ ⟨some ⟨b1, 0, none⟩, 1, none, 0, none, 0, M1, rfl, hl1, rfl⟩; show Ent _ (slO 57 16 (some ⟨b1, 0, none⟩) 1 1 (aboN n.txn).nv.cells :: eM :: eM :: jurH M1 p j :: roM M1 :: L); refine Ent.trans ?_ (slO_fold rfl); refine Ent.trans (jclose (p := p) (v := v) (sf := self) (dim := j.v.dim) (mp := mp) (md := md) (j := j) (ps := ps) hq rfl) ?_; exact Go.SX.Ent.go
        · rw [if_neg (fun h => hf h.2)]
          refine Q.r ?_; (repeat (intro b1; refine Q.r ?_))
          refine N.r1 (by apply RV.cellN; rfl; exact RdC.row; rfl; exact RV.nil) ?_ ⟨none, 0, none, 0, none, 0, M1, rfl, hl1, rfl⟩; show Ent _ (eR :: eM :: eM :: jurH M1 p j :: roM M1 :: L); refine Ent.trans (jclose (p := p) (v := v) (sf := self) (dim := j.v.dim) (mp := mp) (md := md) (j := j) (ps := ps) hq rfl) ?_; exact Go.SX.Ent.go
  rw [if_neg hc]
  have hc0 : n.code = 0 := Decidable.not_not.1 hc
  cases hd : lkL j.done n.txn with
  | some s =>
    dsimp only
    refine Q.rd ?_; (repeat (intro b1; refine Q.rd ?_))
    by_cases hs : s = n.stamp
    · rw [if_pos hs]
      refine Q.r ?_; (repeat (intro b1; refine Q.r ?_))
      refine N.r1 (by apply RV.cellN; rfl; exact RdC.row; rfl; exact RV.nil) ?_ ⟨none, 0, some ⟨b1, 0, none⟩, 1, none, 0, M1, rfl, hl1, rfl⟩; show Ent _ (eR :: slO 62 17 (some ⟨b1, 0, none⟩) 1 1 (mailC (ackN n.txn)) :: eM :: jurH M1 p j :: roM M1 :: L); refine Ent.nilS ?_; refine Ent.trans ?_ (slO_fold rfl); refine Ent.trans (jclose (p := p) (v := v) (sf := self) (dim := j.v.dim) (mp := mp) (md := md) (j := j) (ps := ps) hq rfl) ?_; exact Go.SX.Ent.go
    · rw [if_neg hs]
      refine Q.r ?_; (repeat (intro b1; refine Q.r ?_))
      refine N.r1 (by apply RV.cellN; rfl; exact RdC.row; rfl; exact RV.nil) ?_ ⟨none, 0, none, 0, none, 0, M1, rfl, hl1, rfl⟩; show Ent _ (eR :: eM :: eM :: jurH M1 p j :: roM M1 :: L); refine Ent.trans (jclose (p := p) (v := v) (sf := self) (dim := j.v.dim) (mp := mp) (md := md) (j := j) (ps := ps) hq rfl) ?_; exact Go.SX.Ent.go
  | none =>
    dsimp only
    refine Q.rd ?_; (repeat (intro b1; refine Q.rd ?_))
    cases hi2 : lkL j.v.its n.txn with
    | none =>
      dsimp only [Option.isSome_none]
      refine Q.r ?_; (repeat (intro b1; refine Q.r ?_))
      refine Q.dgo [true, true, true, true, true, true, true, true] [7, 17] [] [0, 1, 2, 3, 4, 5, 6, 7, 8, 9, 10, 11, 12, 13, 14, 15, 16, 17, 18, 19] ?_
      refine Q.rd ?_; (repeat (intro b1; refine Q.rd ?_))
      refine Q.r ?_; (repeat (intro b1; refine Q.r ?_))
      refine N.r1 (by apply RV.cellN; rfl; exact RdC.row; rfl; exact RV.nil) ?_ ⟨none, 0, none, 0, none, 0, M1, rfl, hl1, rfl⟩; show Ent _ (eR :: eM :: eM :: jurH M1 p j :: roM M1 :: L); refine Ent.trans (jclose (p := p) (v := v) (sf := self) (dim := j.v.dim) (mp := mp) (md := md) (j := j) (ps := ps) hq rfl) ?_; exact Go.SX.Ent.go
    | some x =>
      obtain ⟨hix1, hix2⟩ := hix x hi2
      have hil : i.ops.length ≤ 16 := by
        have := (hw.wf.io _ (lk_memL hi2)).1
        rw [← hix2, List.length_map] at this
        exact this
      dsimp only [Option.isSome_some]
      rw [← hix1, ← hix2]
      refine Q.r ?_; (repeat (intro b1; refine Q.r ?_))
      refine swp_ent (jclose (p := p) (v := v) (sf := self) (dim := j.v.dim) (mp := mp) (md := md) (j := j) (ps := ps) hq rfl) ?_
      generalize b1 = bA
      refine Q.dgo [false, false, true, false, false, true] [7, 17] [] [0, 1, 2, 3, 4, 5, 6, 7, 8, 9, 10, 11, 12, 13, 14, 15, 16, 17, 18, 19] ?_
      refine Q.rd ?_; (repeat (intro b1; refine Q.rd ?_))
      refine D.e rfl rfl rfl ?_
      refine S.guard rfl ?_
      refine S.cjn p rfl (JMark_spec M1 p j _) ?_
      rintro _ _ ⟨rfl, rfl⟩
      by_cases hg : max i.after j.v.mark < n.stamp
      · refine Q.r ?_; (repeat (intro b1; refine Q.r ?_))
        refine Q.rd ?_; (repeat (intro b1; refine Q.rd ?_))
        refine D.e rfl rfl rfl ?_
        refine S.guard rfl ?_
        refine S.cj p rfl (above_spec M1 p j k n.stamp i.a i.c i.ops _ hw hk hne hi.1 (by omega)) ?_
        rintro _ _ ⟨M2, rfl, hl2, rfl⟩
        cases hab : aboveV j.v n.stamp (i.ops.map OV.abs) with
        | true =>
          rw [if_pos ⟨hg, rfl⟩]
          refine Q.r ?_; (repeat (intro b1; refine Q.r ?_))
          refine Q.rd ?_; (repeat (intro b1; refine Q.rd ?_))
          refine Q.r ?_; (repeat (intro b1; refine Q.r ?_))
          refine N.r1 (by apply RV.cellN; rfl; exact RdC.row; rfl; exact RV.nil) ?_ ⟨some ⟨b1, 0, none⟩, 1, some ⟨bA, 0, none⟩, 1, none, 0, M2, rfl, hl1.trans hl2, rfl⟩
          show Ent _ (slO 57 16 (some ⟨b1, 0, none⟩) 1 1 (comN n.txn n.stamp).nv.cells :: slO 62 17 (some ⟨bA, 0, none⟩) 1 1 (mailC (ackN n.txn)) :: eM :: jurH M2 p j :: roM M2 :: L)
          refine Ent.trans ?_ (slO_fold rfl)
          refine Ent.trans ?_ (Ent.cons (slO_fold rfl))
          exact Go.SX.Ent.go
        | false =>
          rw [if_neg (by rintro ⟨_, h⟩; cases h)]
          refine Q.r ?_; (repeat (intro b1; refine Q.r ?_))
          refine Q.rd ?_; (repeat (intro b1; refine Q.rd ?_))
          refine Q.r ?_; (repeat (intro b1; refine Q.r ?_))
          refine N.r1 (by apply RV.cellN; rfl; exact RdC.row; rfl; exact RV.nil) ?_ ⟨none, 0, none, 0, none, 0, M2, rfl, hl1.trans hl2, rfl⟩; show Ent _ (eR :: eM :: eM :: jurH M2 p j :: roM M2 :: L); exact Go.SX.Ent.go
      · rw [if_neg (fun h => hg h.1)]
        refine Q.r ?_; (repeat (intro b1; refine Q.r ?_))
        refine Q.rd ?_; (repeat (intro b1; refine Q.rd ?_))
        refine Q.r ?_; (repeat (intro b1; refine Q.r ?_))
        refine N.r1 (by apply RV.cellN; rfl; exact RdC.row; rfl; exact RV.nil) ?_ ⟨none, 0, none, 0, none, 0, M1, rfl, hl1, rfl⟩; show Ent _ (eR :: eM :: eM :: jurH M1 p j :: roM M1 :: L); exact Go.SX.Ent.go
end Go.Proofs.YtjidejcehmamkaaGreatDoor
namespace Go.Proofs.YtjidejcehmamkaaGreatDoor
open Go Go.SX
attribute [local irreducible] swp opsS thenS blockS retS CallsS St Ent YieldS anyS drawS
set_option maxHeartbeats 2000000 in
theorem Plan_spec (n : NV) (M : Nat → Option Obj) (p : Nat) (j : JS) (k : Nat) (fr : Int) (L : List HP) (hw : WFK j.v k) (hk : k ≤ 10000) (hne : ∀ c ∈ j.v.ch, 0 < c.2.length) (hn : okN M n) (hN : OkN n) (hT : TabM M) (h0 : 0 ≤ n.kind ∧ n.kind ≤ 255) :
    CallsS Tryz.prog 15 [ptrJ p, .int .i64 fr, n.val] (jurH M p j :: roM M :: L) (planR n M p j (planV j fr n.abs) L) := by
  unfold planV
  refine CallsS.of_body Tryz.func15 rfl rfl rfl ?_
  refine Q.r ?_; (repeat (intro b1; refine Q.r ?_))
  refine S.cr rfl (NRight_spec n _ hn.rd hN hT.rd h0) ?_
  rintro _ _ ⟨rfl, rfl⟩
  cases hr : rightN n.abs with
  | false =>
    rw [if_pos rfl]
    refine Q.r ?_; (repeat (intro b1; refine Q.r ?_))
    refine N.r1 (by apply RV.cellN; rfl; exact RdC.row; rfl; exact RV.nil) ?_ ⟨none, 0, none, 0, none, 0, M, rfl, leM.refl M, rfl⟩; show Ent _ (eR :: eM :: eM :: jurH M p j :: roM M :: L); exact Go.SX.Ent.go
  | true =>
  rw [if_neg (by decide)]
  by_cases h3 : n.kind = 3
  · rw [if_pos h3]
    by_cases hf : fr = 0
    · rw [if_pos hf]
      refine Q.r ?_; (repeat (intro b1; refine Q.r ?_))
      refine S.cj p rfl (prepare_spec n M p j k _ hw hk hn hN) ?_
      rintro _ _ ⟨ra, rc, ma, mc, ea, ec, M', rfl, hl, rfl⟩
      refine Q.r ?_; (repeat (intro b1; refine Q.r ?_))
      refine N.r1 (by apply RV.cellN; rfl; exact RdC.row; rfl; exact RV.nil) ?_ ⟨ra, rc, ma, mc, ea, ec, M', rfl, hl, rfl⟩
      exact Go.SX.Ent.go
    · rw [if_neg hf]
      refine Q.r ?_; (repeat (intro b1; refine Q.r ?_))
      refine N.r1 (by apply RV.cellN; rfl; exact RdC.row; rfl; exact RV.nil) ?_ ⟨none, 0, none, 0, none, 0, M, rfl, leM.refl M, rfl⟩; show Ent _ (eR :: eM :: eM :: jurH M p j :: roM M :: L); exact Go.SX.Ent.go
  rw [if_neg h3]
  by_cases h5 : n.kind = 5
  · rw [if_pos h5]
    refine Q.r ?_; (repeat (intro b1; refine Q.r ?_))
    refine S.cj p rfl (decide_spec n M p j k fr _ hw hk hne) ?_
    rintro _ _ ⟨ra, rc, ma, mc, ea, ec, M', rfl, hl, rfl⟩
    refine Q.r ?_; (repeat (intro b1; refine Q.r ?_))
    refine N.r1 (by apply RV.cellN; rfl; exact RdC.row; rfl; exact RV.nil) ?_ ⟨ra, rc, ma, mc, ea, ec, M', rfl, hl, rfl⟩
    exact Go.SX.Ent.go
  rw [if_neg h5]
  by_cases h7 : n.kind = 7
  · rw [if_pos h7]
    refine Q.r ?_; (repeat (intro b1; refine Q.r ?_))
    refine swp_jur p (fun v mp md self ps hq => ?_)
    refine Q.dgo [true, true, true, true, true, true, true] [] [] [0, 1, 2, 3, 4, 5, 6, 7, 8, 9, 10, 11] ?_
    refine Q.rd ?_; (repeat (intro b1; refine Q.rd ?_))
    refine D.y rfl rfl rfl (by kernel_rfl) (Y.lk true rfl rfl (fun w => Tryz.zeroValue30 w)) ?_
    cases hd : lkL j.done n.txn with
    | some s =>
      dsimp only
      refine Q.rd ?_; (repeat (intro b1; refine Q.rd ?_))
      refine Q.r ?_; (repeat (intro b1; refine Q.r ?_))
      refine N.r1 (by apply RV.cellN; rfl; exact RdC.row; rfl; exact RV.nil) ?_ ⟨none, 0, some ⟨b1, 0, none⟩, 1, none, 0, M, rfl, leM.refl M, rfl⟩
      show Ent _ (eR :: slO 62 17 (some ⟨b1, 0, none⟩) 1 1 (mailC (fr, { NA.zero with kind := 5, txn := n.txn, stamp := s })) :: eM :: jurH M p j :: roM M :: L)
      refine Ent.nilS ?_
      refine Ent.trans ?_ (slO_fold rfl)
      refine Ent.trans (jclose (p := p) (v := v) (sf := self) (dim := j.v.dim) (mp := mp) (md := md) (j := j) (ps := ps) hq rfl) ?_
      exact Go.SX.Ent.go
    | none =>
      dsimp only
      refine Q.rd ?_; (repeat (intro b1; refine Q.rd ?_))
      refine Q.r ?_; (repeat (intro b1; refine Q.r ?_))
      refine N.r1 (by apply RV.cellN; rfl; exact RdC.row; rfl; exact RV.nil) ?_ ⟨none, 0, none, 0, none, 0, M, rfl, leM.refl M, rfl⟩; show Ent _ (eR :: eM :: eM :: jurH M p j :: roM M :: L); refine Ent.trans (jclose (p := p) (v := v) (sf := self) (dim := j.v.dim) (mp := mp) (md := md) (j := j) (ps := ps) hq rfl) ?_; exact Go.SX.Ent.go
  · rw [if_neg h7]
    refine Q.r ?_; (repeat (intro b1; refine Q.r ?_))
    refine N.r1 (by apply RV.cellN; rfl; exact RdC.row; rfl; exact RV.nil) ?_ ⟨none, 0, none, 0, none, 0, M, rfl, leM.refl M, rfl⟩; show Ent _ (eR :: eM :: eM :: jurH M p j :: roM M :: L); exact Go.SX.Ent.go
end Go.Proofs.YtjidejcehmamkaaGreatDoor
namespace Go.Proofs.YtjidejcehmamkaaGreatDoor
open Go Go.SX
attribute [local irreducible] swp opsS thenS blockS retS CallsS St Ent YieldS anyS drawS
theorem P_one (xs : List Int) : (xs.map I64).all (·.oneCell') = true := by simp [Value.oneCell']
theorem CloneP_spec (a : Option Addr) (c : Nat) (xs : List Int) (A : List HP) (h : RdS A a xs.length 1 (xs.map I64)) (hn : xs.length ≤ 1000000) :
    CallsS Tryz.prog 44 [.slice a xs.length c] A (fun v L' => ∃ a' c', v = .slice a' xs.length c' ∧ L' = slO 3 1 a' xs.length c' (xs.map I64) :: A) := by
  refine CallsS.of_body Tryz.func44 rfl rfl rfl ?_
  cases a with
  | none =>
    have hx : xs = [] := by
      rcases h.2 with h0 | ⟨_, _, h0, _⟩
      · exact List.eq_nil_of_length_eq_zero h0
      · cases h0
    subst hx
    refine Q.r ?_; (repeat (intro b1; refine Q.r ?_))
    exact N.r1 (RV.tmp rfl RV.nil) slO_nil ⟨none, 0, rfl, rfl⟩
  | some ad =>
    refine Q.r ?_; (repeat (intro b1; refine Q.r ?_))
    refine opsS_ent (slO_fold (sz := 1) (m := 0) rfl) ?_
    refine S.app0 rfl rfl rfl (SrcS.rd h.sub (P_one _)) (by rfl) (by omega) (by omega) (fun a5 c5 => ?_)
    refine Q.r ?_; (repeat (intro b1; refine Q.r ?_))
    exact N.r1 (RV.tmp rfl RV.nil) (Ent.refl _) ⟨a5, c5, rfl, rfl⟩
theorem putL_map {κ α β : Type} [DecidableEq κ] (f : α → β) (m : List (κ × α)) (x : κ) (a : α) : (putL m x a).map (fun u => (u.1, f u.2)) = putL (m.map fun u => (u.1, f u.2)) x (f a) := by
  unfold putL
  rw [List.any_map]
  have : ((fun p : κ × β => decide (p.1 = x)) ∘ fun u : κ × α => (u.1, f u.2)) = fun p => decide (p.1 = x) := rfl
  rw [this]
  cases m.any fun p => decide (p.1 = x) with
  | true =>
    simp only [if_true, List.map_map]
    refine List.map_congr_left fun u _ => ?_
    show (_ : κ × β) = if u.1 = x then (x, f a) else (u.1, f u.2)
    by_cases h : u.1 = x
    · simp [h]
    · simp [h]
  | false => simp
theorem delL_map {κ α β : Type} [DecidableEq κ] (f : α → β) (m : List (κ × α)) (x : κ) : (delL m x).map (fun u => (u.1, f u.2)) = delL (m.map fun u => (u.1, f u.2)) x := by
  unfold delL
  rw [List.filter_map]; rfl
theorem JQ.put {M : Nat → Option Obj} {j j' : JS} {sf : Int} {ps : List (Int × PV)} (h : JQ M j sf ps) {t : Int} {v : PV} (hv : SlM M v.a v.l.length 1 (v.l.map I64)) (hj : j'.parts = putL j.parts t v.l) : JQ M j' sf (putL ps t v) := by
  refine ⟨h.s1, h.s2, by rw [hj, ← h.pt, putL_map (fun v : PV => v.l)], fun u hu => ?_⟩
  unfold putL at hu
  split at hu
  · obtain ⟨w, hw, rfl⟩ := List.mem_map.1 hu
    split
    · exact hv
    · exact h.ok w hw
  · rcases List.mem_append.1 hu with hu | hu
    · exact h.ok u hu
    · rw [List.mem_singleton.1 hu]; exact hv
theorem JQ.del {M : Nat → Option Obj} {j j' : JS} {sf : Int} {ps : List (Int × PV)} (h : JQ M j sf ps) {t : Int} (hj : j'.parts = delL j.parts t) : JQ M j' sf (delL ps t) :=
  ⟨h.s1, h.s2, by rw [hj, ← h.pt, delL_map (fun v : PV => v.l)], fun u hu => h.ok u (List.mem_filter.1 hu).1⟩
theorem JQ.same {M : Nat → Option Obj} {j j' : JS} {sf : Int} {ps : List (Int × PV)} (h : JQ M j sf ps) (hj : j'.parts = j.parts) : JQ M j' sf ps := ⟨h.s1, h.s2, by rw [hj, h.pt], h.ok⟩
set_option maxHeartbeats 2000000 in
theorem Apply_spec' (n : NV) (M : Nat → Option Obj) (p : Nat) (j : JS) (k : Nat) (L : List HP) (hw : WFK j.v k) (hk : k ≤ 10000) (hn : okN M n) (hN : OkN n) (hT : TabM M) (h0 : NumN n) :
    CallsS Tryz.prog 16 [ptrJ p, n.val] (jurH M p j :: roM M :: L) (fun r L' => ∃ M', r = .int .i64 (appE j n.abs) ∧ leM M M' ∧ L' = jurH M' p (appS j n.abs) :: roM M' :: L) := by
  refine CallsS.of_body Tryz.func16 rfl rfl rfl ?_
  refine Q.r ?_; (repeat (intro b1; refine Q.r ?_))
  refine S.cr rfl (NRight_spec n _ hn.rd hN hT.rd h0.kind) ?_
  rintro _ _ ⟨rfl, rfl⟩
  cases hr : rightN n.abs with
  | false =>
    have hE : appE j n.abs = 4 := by unfold appE; rw [hr, if_pos rfl]
    have hS : appS j n.abs = j := by unfold appS; rw [hE]; rfl
    rw [hE, hS]
    refine Q.r ?_; (repeat (intro b1; refine Q.r ?_))
    exact N.r1 (RV.tmp rfl RV.nil) (by exact Go.SX.Ent.go) ⟨M, rfl, leM.refl M, rfl⟩
  | true =>
  by_cases h12 : n.kind = 12
  · have hE : appE j n.abs = lockE j.v n.txn n.after (n.ops.map OV.abs) := by
      unfold appE; rw [hr, if_neg (by decide), if_pos (show n.abs.kind = 12 from h12)]
    refine Q.r ?_; (repeat (intro b1; refine Q.r ?_))
    refine swp_jur p (fun v mp md self ps hq => ?_)
    refine Q.dgo [true, false, false, false, true] [11] [] [0, 1, 2, 3, 4, 5, 6, 7, 8, 9, 10, 11, 12] ?_
    refine Q.rd ?_; (repeat (intro b1; refine Q.rd ?_))
    refine D.e rfl rfl rfl ?_
    refine S.cv v rfl (Lock_spec v j.v ⟨n.txn, n.after, n.oa, n.oc, n.ops⟩ _ hw.wf.ops hn.rd.o hN.o hN.ov (by have := hw.wf.d1; have := hw.wf.d2; omega)) ?_
    rintro _ _ ⟨rfl, rfl⟩
    dsimp only
    rw [hE]
    by_cases hz : lockE j.v n.txn n.after (n.ops.map OV.abs) = 0
    · have hS : appS j n.abs = ⟨lockS j.v n.txn n.after (n.ops.map OV.abs), putL j.parts n.txn n.parts, j.done⟩ := by
        unfold appS; rw [hE, hz, if_neg (by decide), if_pos (show n.abs.kind = 12 from h12)]
      have hdim : j.v.dim = (lockS j.v n.txn n.after (n.ops.map OV.abs)).dim := by unfold lockS; rw [if_pos hz]
      rw [hS, hz]
      refine Q.r ?_; (repeat (intro b1; refine Q.r ?_))
      refine Q.rd ?_; (repeat (intro b1; refine Q.rd ?_))
      refine Q.r ?_; (repeat (intro b1; refine Q.r ?_))
      refine Q.dgo [true, true] [8, 9] [] [0, 1, 2, 3, 4, 5, 6, 7, 8, 9] ?_
      refine Q.rd ?_; (repeat (intro b1; refine Q.rd ?_))
      refine D.e rfl rfl rfl ?_
      refine S.cr rfl (CloneP_spec n.pa n.pc n.parts _ hn.rd.p hN.p) ?_
      rintro _ _ ⟨a5, c5, rfl, rfl⟩
      refine Q.r ?_; (repeat (intro b1; refine Q.r ?_))
      refine D.e rfl rfl rfl ?_
      refine S.mu (r := PV.val) (u := ⟨a5, c5, n.parts⟩) rfl rfl rfl ?_
      refine opsS_abs a5 (fun M2 hl2 hs2 => ?_)
      refine Q.r ?_; (repeat (intro b1; refine Q.r ?_))
      refine Q.rd ?_; (repeat (intro b1; refine Q.rd ?_))
      refine Q.r ?_; (repeat (intro b1; refine Q.r ?_))
      refine N.r1 (RV.tmp rfl RV.nil) ?_ ⟨M2, rfl, hl2, rfl⟩
      refine Ent.trans (jclose (p := p) (v := v) (sf := self) (dim := j.v.dim) (mp := mp) (md := md) (j := ⟨lockS j.v n.txn n.after (n.ops.map OV.abs), putL j.parts n.txn n.parts, j.done⟩) (ps := putL ps n.txn ⟨a5, c5, n.parts⟩) ((hq.mono hl2).put hs2 rfl) hdim) ?_
      exact Go.SX.Ent.go
    · have hS : appS j n.abs = j := by unfold appS; rw [hE, if_pos hz]
      have hS2 : lockS j.v n.txn n.after (n.ops.map OV.abs) = j.v := by unfold lockS; rw [if_neg hz]
      rw [hS, hS2]
      refine Q.r ?_; (repeat (intro b1; refine Q.r ?_))
      refine Q.rd ?_; (repeat (intro b1; refine Q.rd ?_))
      refine Q.r ?_; (repeat (intro b1; refine Q.r ?_))
      refine N.r1 (RV.tmp rfl RV.nil) ?_ ⟨M, rfl, leM.refl M, rfl⟩
      refine Ent.trans (jclose (p := p) (v := v) (sf := self) (dim := j.v.dim) (mp := mp) (md := md) (j := j) (ps := ps) hq rfl) ?_
      exact Go.SX.Ent.go
  by_cases h13 : n.kind = 13
  · have hE : appE j n.abs = applyE j.v n.txn n.stamp := by
      unfold appE; rw [hr, if_neg (by decide), if_neg (show ¬ n.abs.kind = 12 from h12), if_pos (show n.abs.kind = 13 from h13)]
    refine Q.r ?_; (repeat (intro b1; refine Q.r ?_))
    refine swp_jur p (fun v mp md self ps hq => ?_)
    refine Q.dgo [true, false, false, false, true] [8] [] [0, 1, 2, 3, 4, 5, 6, 7, 8, 9] ?_
    refine Q.rd ?_; (repeat (intro b1; refine Q.rd ?_))
    refine D.e rfl rfl rfl ?_
    refine S.cv v rfl (Apply_spec v j.v k n.txn n.stamp _ hw.wf hk h0.stamp) ?_
    rintro _ _ ⟨rfl, rfl⟩
    rw [hE]
    by_cases hz : applyE j.v n.txn n.stamp = 0
    · have hS : appS j n.abs = ⟨applyS j.v n.txn n.stamp, delL j.parts n.txn, putL j.done n.txn n.stamp⟩ := by
        unfold appS; rw [hE, hz, if_neg (by decide), if_neg (show ¬ n.abs.kind = 12 from h12), if_pos (show n.abs.kind = 13 from h13)]
      have hdim : j.v.dim = (applyS j.v n.txn n.stamp).dim := by
        unfold applyS
        split
        · rfl
        · split <;> rfl
      rw [hS, hz]
      refine Q.r ?_; (repeat (intro b1; refine Q.r ?_))
      refine Q.rd ?_; (repeat (intro b1; refine Q.rd ?_))
      refine Q.r ?_; (repeat (intro b1; refine Q.r ?_))
      refine Q.dgo [true, true] [8] [] [0, 1, 2, 3, 4, 5, 6, 7, 8] ?_
      refine Q.rd ?_; (repeat (intro b1; refine Q.rd ?_))
      refine D.e rfl rfl rfl ?_
      refine S.mu (r := U64) (u := n.stamp) rfl rfl rfl ?_
      refine Q.r ?_; (repeat (intro b1; refine Q.r ?_))
      refine Q.rd ?_; (repeat (intro b1; refine Q.rd ?_))
      refine Q.r ?_; (repeat (intro b1; refine Q.r ?_))
      refine Q.dgo [true, true] [6] [] [0, 1, 2, 3, 4, 5, 6] ?_
      refine Q.rd ?_; (repeat (intro b1; refine Q.rd ?_))
      refine D.e rfl rfl rfl ?_
      refine S.dl rfl rfl ?_
      refine Q.r ?_; (repeat (intro b1; refine Q.r ?_))
      refine Q.rd ?_; (repeat (intro b1; refine Q.rd ?_))
      refine Q.r ?_; (repeat (intro b1; refine Q.r ?_))
      refine N.r1 (RV.tmp rfl RV.nil) ?_ ⟨M, rfl, leM.refl M, rfl⟩
      refine Ent.trans (jclose (p := p) (v := v) (sf := self) (dim := j.v.dim) (mp := mp) (md := md) (j := ⟨applyS j.v n.txn n.stamp, delL j.parts n.txn, putL j.done n.txn n.stamp⟩) (ps := delL ps n.txn) (hq.del rfl) hdim) ?_
      exact Go.SX.Ent.go
    · have hS : appS j n.abs = j := by unfold appS; rw [hE, if_pos hz]
      rw [hS, applyS_ne hz]
      refine Q.r ?_; (repeat (intro b1; refine Q.r ?_))
      refine Q.rd ?_; (repeat (intro b1; refine Q.rd ?_))
      refine Q.r ?_; (repeat (intro b1; refine Q.r ?_))
      refine N.r1 (RV.tmp rfl RV.nil) ?_ ⟨M, rfl, leM.refl M, rfl⟩
      refine Ent.trans (jclose (p := p) (v := v) (sf := self) (dim := j.v.dim) (mp := mp) (md := md) (j := j) (ps := ps) hq rfl) ?_
      exact Go.SX.Ent.go
  by_cases h14 : n.kind = 14
  · have hE : appE j n.abs = if (lkL j.v.its n.txn).isSome then 0 else 6 := by
      unfold appE; rw [hr, if_neg (by decide), if_neg (show ¬ n.abs.kind = 12 from h12), if_neg (show ¬ n.abs.kind = 13 from h13), if_pos (show n.abs.kind = 14 from h14)]
    refine Q.r ?_; (repeat (intro b1; refine Q.r ?_))
    refine swp_jur p (fun v mp md self ps hq => ?_)
    refine Q.dgo [true, false, false, false, true] [6] [] [0, 1, 2, 3, 4, 5, 6, 7] ?_
    refine Q.rd ?_; (repeat (intro b1; refine Q.rd ?_))
    refine D.e rfl rfl rfl ?_
    refine S.cv v rfl (Free_spec v j.v n.txn _) ?_
    rintro _ _ ⟨rfl, rfl⟩
    rw [hE]
    cases hz : (lkL j.v.its n.txn).isSome with
    | true =>
      rw [hz] at hE
      have hS : appS j n.abs = ⟨{ j.v with its := delL j.v.its n.txn }, delL j.parts n.txn, j.done⟩ := by
        unfold appS; rw [hE, if_pos rfl, if_neg (by decide), if_neg (show ¬ n.abs.kind = 12 from h12), if_neg (show ¬ n.abs.kind = 13 from h13), if_pos (show n.abs.kind = 14 from h14)]
      rw [hS, if_pos rfl]
      refine Q.r ?_; (repeat (intro b1; refine Q.r ?_))
      refine Q.rd ?_; (repeat (intro b1; refine Q.rd ?_))
      refine Q.r ?_; (repeat (intro b1; refine Q.r ?_))
      refine Q.dgo [true, true] [6] [] [0, 1, 2, 3, 4, 5, 6] ?_
      refine Q.rd ?_; (repeat (intro b1; refine Q.rd ?_))
      refine D.e rfl rfl rfl ?_
      refine S.dl rfl rfl ?_
      refine Q.r ?_; (repeat (intro b1; refine Q.r ?_))
      refine Q.rd ?_; (repeat (intro b1; refine Q.rd ?_))
      refine Q.r ?_; (repeat (intro b1; refine Q.r ?_))
      refine N.r1 (RV.tmp rfl RV.nil) ?_ ⟨M, rfl, leM.refl M, rfl⟩
      refine Ent.trans (jclose (p := p) (v := v) (sf := self) (dim := j.v.dim) (mp := mp) (md := md) (j := ⟨{ j.v with its := delL j.v.its n.txn }, delL j.parts n.txn, j.done⟩) (ps := delL ps n.txn) (hq.del rfl) rfl) ?_
      exact Go.SX.Ent.go
    | false =>
      rw [hz] at hE
      have hS : appS j n.abs = j := by unfold appS; rw [hE, if_pos (by decide)]
      have hz2 : lkL j.v.its n.txn = none := isSome_ne (by rw [hz]; decide)
      have hS2 : ({ j.v with its := delL j.v.its n.txn } : VS) = j.v := by rw [delL_none (lk_none' hz2)]
      rw [hS, hS2, if_neg (by decide)]
      refine Q.r ?_; (repeat (intro b1; refine Q.r ?_))
      refine Q.rd ?_; (repeat (intro b1; refine Q.rd ?_))
      refine Q.r ?_; (repeat (intro b1; refine Q.r ?_))
      refine N.r1 (RV.tmp rfl RV.nil) ?_ ⟨M, rfl, leM.refl M, rfl⟩
      refine Ent.trans (jclose (p := p) (v := v) (sf := self) (dim := j.v.dim) (mp := mp) (md := md) (j := j) (ps := ps) hq rfl) ?_
      exact Go.SX.Ent.go
  by_cases h15 : n.kind = 15
  · have hE : appE j n.abs = 0 := by
      unfold appE; rw [hr, if_neg (by decide), if_neg (show ¬ n.abs.kind = 12 from h12), if_neg (show ¬ n.abs.kind = 13 from h13), if_neg (show ¬ n.abs.kind = 14 from h14), if_pos (show n.abs.kind = 15 from h15)]
    have hS : appS j n.abs = ⟨sweepS j.v n.mark, j.parts, j.done⟩ := by
      unfold appS; rw [hE, if_neg (by decide), if_neg (show ¬ n.abs.kind = 12 from h12), if_neg (show ¬ n.abs.kind = 13 from h13), if_neg (show ¬ n.abs.kind = 14 from h14), if_pos (show n.abs.kind = 15 from h15)]
    have hdim : j.v.dim = (sweepS j.v n.mark).dim := by unfold sweepS; split <;> rfl
    rw [hE, hS]
    refine Q.r ?_; (repeat (intro b1; refine Q.r ?_))
    refine swp_jur p (fun v mp md self ps hq => ?_)
    refine Q.dgo [true, false, false, false, true] [6] [] [0, 1, 2, 3, 4, 5, 6] ?_
    refine Q.rd ?_; (repeat (intro b1; refine Q.rd ?_))
    refine D.e rfl rfl rfl ?_
    refine S.cv v rfl (Sweep_spec v j.v k n.mark _ hw.wf hk) ?_
    rintro _ _ ⟨a5, c5, rfl, _, rfl⟩
    refine Q.r ?_; (repeat (intro b1; refine Q.r ?_))
    refine Q.rd ?_; (repeat (intro b1; refine Q.rd ?_))
    refine Q.r ?_; (repeat (intro b1; refine Q.r ?_))
    refine N.r1 (RV.tmp rfl RV.nil) ?_ ⟨M, rfl, leM.refl M, rfl⟩
    refine Ent.trans (jclose (p := p) (v := v) (sf := self) (dim := j.v.dim) (mp := mp) (md := md) (j := ⟨sweepS j.v n.mark, j.parts, j.done⟩) (ps := ps) (hq.same rfl) hdim) ?_
    exact Go.SX.Ent.go
  · have hE : appE j n.abs = 4 := by
      unfold appE; rw [hr, if_neg (by decide), if_neg (show ¬ n.abs.kind = 12 from h12), if_neg (show ¬ n.abs.kind = 13 from h13), if_neg (show ¬ n.abs.kind = 14 from h14), if_neg (show ¬ n.abs.kind = 15 from h15)]
    have hS : appS j n.abs = j := by unfold appS; rw [hE]; rfl
    rw [hE, hS]
    refine Q.r ?_; (repeat (intro b1; refine Q.r ?_))
    exact N.r1 (RV.tmp rfl RV.nil) (by exact Go.SX.Ent.go) ⟨M, rfl, leM.refl M, rfl⟩
end Go.Proofs.YtjidejcehmamkaaGreatDoor
namespace Go.Proofs.YtjidejcehmamkaaGreatDoor
open Go Go.SX
attribute [local irreducible] swp opsS thenS blockS retS CallsS St Ent YieldS anyS drawS
abbrev J0 (dim : Int) : JS := ⟨⟨dim, [], [], 0⟩, [], []⟩
theorem J0.ok {dim : Int} (h1 : 1 ≤ dim) (h2 : dim ≤ 8) : JOK (J0 dim) 0 :=
  ⟨⟨⟨h1, h2, Nat.le_refl _, (fun i hi => by cases hi), Nat.le_refl _, (fun c hc => by cases hc)⟩, by simp [keysOK], by simp [keysOK]⟩, by simp [keysOK], by simp [keysOK], (fun t s h => by cases h), (fun t s h => by cases h), Int.le_refl _, (fun c hc => by cases hc)⟩
theorem JNew_spec (M : Nat → Option Obj) (sf dim : Int) (L : List HP) (s1 : 1 ≤ sf) (s2 : sf ≤ 15) (h1 : 1 ≤ dim) (h2 : dim ≤ 8) :
    CallsS Tryz.prog 8 [.int .i64 sf, .int .i64 dim] L (fun r L' => ∃ p, r = .tuple #[ptrJ p, .int .i64 0] ∧ L' = jurH M p (J0 dim) :: L) := by
  refine CallsS.of_body Tryz.func8 rfl rfl rfl ?_
  refine Q.r ?_; (repeat (intro b1; refine Q.r ?_))
  refine S.cr rfl (New_spec dim _ h1 h2) ?_
  rintro _ _ ⟨v, rfl, rfl⟩
  refine Q.r ?_; (repeat (intro b1; refine Q.r ?_))
  refine S.mkm U64 PV.val (fun mp => ?_)
  refine Q.r ?_; (repeat (intro b1; refine Q.r ?_))
  refine S.mkm U64 U64 (fun md => ?_)
  refine Q.r ?_; (repeat (intro b1; refine Q.r ?_))
  refine N.r2 (RV.tmp rfl (RV.tmp rfl RV.nil)) ?_ ⟨b1, rfl, rfl⟩
  refine Ent.trans (jclose (p := b1) (v := v) (sf := sf) (dim := dim) (mp := mp) (md := md) (M := M) (j := J0 dim) (ps := []) ⟨s1, s2, rfl, (fun u hu => by cases hu)⟩ rfl) ?_
  exact Go.SX.Ent.go
theorem one_spec (L : List HP) : CallsS Tryz.prog 28 [] L (fun r L' => ∃ b b', r = .slice (some ⟨b, 0, none⟩) 1 1 ∧ L' = slO 46 2 (some ⟨b, 0, none⟩) 1 1 (OV.cells ⟨1, some ⟨b', 0, none⟩, 1, [5]⟩) :: slO 21 1 (some ⟨b', 0, none⟩) 1 1 [I32 5] :: L) := by
  refine CallsS.of_body Tryz.func28 rfl rfl rfl ?_
  refine Q.r ?_; (repeat (intro b1; refine Q.r ?_))
  rename_i b0
  refine N.r1 (RV.tmp rfl RV.nil) ?_ ⟨b1, b0, rfl, rfl⟩
  refine Ent.trans ?_ (slO_fold rfl)
  refine Ent.trans ?_ (Ent.cons (slO_fold rfl))
  exact Go.SX.Ent.go
theorem _root_.Go.SX.CM.tail {M : Nat → Option Obj} {b o : Nat} {v : Value} {cs : List Value} (h : CM M b o (v :: cs)) : CM M b (o + 1) cs := fun j u e => by
  have := h (j + 1) u (by simpa using e)
  rw [Nat.add_assoc, Nat.add_comm 1 j]; exact this
section
variable {n : Nat} {ops rest : List Oper} {cd : Code} {Q : Post} {f : Env} {L L0 : List HP} {M : Nat → Option Obj} {j : JS}
theorem opsS_jm (p : Nat) [hp : PickJ p L M j L0] {M' : Nat → Option Obj} (hl : leM M M') (hk : opsS Tryz.prog n ops rest Q f (jurH M' p j :: L0)) : opsS Tryz.prog n ops rest Q f L := opsS_ent (hp.ent.trans (jur_mono hl)) hk
theorem swp_jm (p : Nat) [hp : PickJ p L M j L0] {M' : Nat → Option Obj} (hl : leM M M') (hk : swp Tryz.prog n cd Q f (jurH M' p j :: L0)) : swp Tryz.prog n cd Q f L := swp_ent (hp.ent.trans (jur_mono hl)) hk
end
abbrev oneO (b' : Nat) : OV := ⟨1, some ⟨b', 0, none⟩, 1, [5]⟩
abbrev exN (b b' : Nat) : NV := ⟨3, 7, 0, 0, 0, 0, 0, 0, 0, 0, 0, 0, none, 0, [], some ⟨b, 0, none⟩, 1, [oneO b'], none, 0, [], none, 0, []⟩
abbrev exA : NA := { NA.zero with kind := 3, txn := 7, ops := [(1, [5])] }
abbrev J1 : JS := ⟨⟨1, [], [(7, 0, [(1, [5])])], 0⟩, [(7, [])], []⟩
abbrev J2 : JS := ⟨⟨1, [(1, [(5, [5])])], [], 0⟩, [], [(7, 5)]⟩
theorem ex1 : planV (J0 1) 0 exA = ⟨[{ exA with kind := 12 }], [voteN 7 0], [voteN 7 8]⟩ := by kernel_rfl
theorem ex2 : appS (J0 1) { exA with kind := 12 } = J1 := by kernel_rfl
theorem ex3 : planV J1 0 { NA.zero with kind := 5, txn := 7, stamp := 5 } = ⟨[comN 7 5], [ackN 7], []⟩ := by kernel_rfl
theorem ex4 : appS J1 (comN 7 5) = J2 := by kernel_rfl
theorem ex5 : planV J2 2 { NA.zero with kind := 7, txn := 7 } = ⟨[], [(2, { NA.zero with kind := 5, txn := 7, stamp := 5 })], []⟩ := by kernel_rfl
theorem ex6 : appE (J0 1) { exA with kind := 12 } = 0 := by kernel_rfl
theorem ex7 : appE J1 (comN 7 5) = 0 := by kernel_rfl
theorem J1.ok : JOK J1 1 := by
  have h := plan_cases (J0.ok (dim := 1) (by decide) (by decide)) (n := exA) (by decide) 0
  rw [ex1] at h
  rcases h with h | h | h | h
  · cases h
  · have := h.2.1.ok
    rw [ex2] at this; exact this
  · simp at h
  · simp at h
theorem J2.ok : JOK J2 2 := by
  have h := plan_cases J1.ok (n := { NA.zero with kind := 5, txn := 7, stamp := 5 }) (by decide) 0
  rw [ex3] at h
  rcases h with h | h | h | h
  · cases h
  · simp at h
  · have := h.2.2.1.ok
    rw [ex4] at this; exact this
  · simp at h
set_option maxHeartbeats 2000000 in
theorem awake14_spec (M : Nat → Option Obj) (L : List HP) (hT : TabM M) : CallsS Tryz.prog 7 [] (roM M :: L) (fun r L' => ∃ M', r = .bool true ∧ leM M M' ∧ L' = roM M' :: L) := by
  refine CallsS.of_body Tryz.func7 rfl rfl rfl ?_
  refine Q.r ?_; (repeat (intro b1; refine Q.r ?_))
  refine S.cr rfl (JNew_spec M 1 1 _ (by decide) (by decide) (by decide) (by decide)) ?_
  rintro _ _ ⟨p, rfl, rfl⟩
  refine Q.r ?_; (repeat (intro b1; refine Q.r ?_))
  refine S.cr rfl (one_spec _) ?_
  rintro _ _ ⟨b, b', rfl, rfl⟩
  refine opsS_abs (some ⟨b, 0, none⟩) (fun M1 hl1 hs1 => ?_)
  refine opsS_abs (some ⟨b', 0, none⟩) (fun M2 hl2 hs2 => ?_)
  refine opsS_jm p (hl1.trans hl2) ?_
  have hn : okN M2 (exN b b') := ⟨SlM.nil0, ⟨hs1.mono hl2, (fun o ho => by obtain rfl := List.mem_singleton.1 ho; exact hs2)⟩, SlM.nil0, SlM.nil0, (fun o ho => by cases ho)⟩
  have hN : OkN (exN b b') := ⟨Nat.zero_le _, by show 1 ≤ 1000000; omega, (fun o ho => by obtain rfl := List.mem_singleton.1 ho; show 1 ≤ 1000000; omega), Nat.zero_le _, Nat.zero_le _, (fun o ho => by cases ho)⟩
  refine Q.r ?_; (repeat (intro b1; refine Q.r ?_))
  refine S.cj p (args := [ptrJ p, .int .i64 0, (exN b b').val]) rfl (Plan_spec (exN b b') M2 p (J0 1) 0 0 _ (J0.ok (by decide) (by decide)).w (by decide) (fun c hc => by cases hc) hn hN (hT.mono (hl1.trans hl2)) ⟨by show (0 : Int) ≤ 3; decide, by show (3 : Int) ≤ 255; decide⟩) ?_
  rintro _ _ ⟨ra, rc, ma, mc, ea, ec, M3, rfl, hl3, rfl⟩
  rw [show planV (J0 1) 0 (exN b b').abs = _ from ex1]
  simp only [List.length_cons, List.length_nil, Nat.zero_add]
  refine opsS_abs ra (fun M4 hl4 hs4 => ?_)
  refine opsS_abs ma (fun M5 hl5 hs5 => ?_)
  refine opsS_jm p (hl4.trans hl5) ?_
  obtain ⟨br, or, rfl, cr4⟩ := SlM.cm (g := fun r => (liftN (exN b b') r).cells) (k := 0) (x := { exA with kind := 12 }) (fun _ => rfl) hs4 rfl rfl
  obtain ⟨bm, om, rfl, cm⟩ := SlM.cm (g := mailC) (k := 0) (fun _ => rfl) hs5 rfl rfl
  have cr := cr4.mono hl5
  rw [show liftN (exN b b') { exA with kind := 12 } = { exN b b' with kind := 12 } from rfl] at cr
  have cm1 := cm.tail
  clear hs4 hs5 cr4
  refine Q.r ?_; (repeat (intro b1; refine Q.r ?_))
  have hn1 : okN M5 { exN b b' with kind := 12 } := by
    have h := hn.mono (hl3.trans (hl4.trans hl5))
    exact ⟨h.p, h.o, h.v, h.h, h.hv⟩
  have hN1 : OkN { exN b b' with kind := 12 } := ⟨hN.p, hN.o, hN.ov, hN.v, hN.h, hN.hv⟩
  refine S.cj p rfl (Apply_spec' { exN b b' with kind := 12 } M5 p (J0 1) 0 _ (J0.ok (by decide) (by decide)).w (by decide) hn1 hN1 (hT.mono (hl1.trans (hl2.trans (hl3.trans (hl4.trans hl5))))) ⟨by show (0 : Int) ≤ 12 ∧ (12 : Int) ≤ 255; decide, by show (0 : Int) ≤ 7; decide, Int.le_refl _, Int.le_refl _, Int.le_refl _⟩) ?_
  rintro _ _ ⟨M6, rfl, hl6, rfl⟩
  rw [show appE (J0 1) (NV.abs { exN b b' with kind := 12 }) = 0 from ex6, show appS (J0 1) (NV.abs { exN b b' with kind := 12 }) = J1 from ex2]
  have hT6 : TabM M6 := hT.mono (hl1.trans (hl2.trans (hl3.trans (hl4.trans (hl5.trans hl6)))))
  have hlM6 : leM M M6 := hl1.trans (hl2.trans (hl3.trans (hl4.trans (hl5.trans hl6))))
  clear hs1 hs2 hn hN hn1 hN1 hl1 hl2 hl3 hl4 hl5 hl6
  refine Q.r ?_; (repeat (intro b1; refine Q.r ?_))
  refine S.cj p (args := [ptrJ p, .int .i64 0, (NA.nv { NA.zero with kind := 5, txn := 7, stamp := 5 }).val]) rfl (Plan_spec (NA.nv { NA.zero with kind := 5, txn := 7, stamp := 5 }) M6 p J1 1 0 _ J1.ok.w (by decide) J1.ok.ne (okN.nv _) (OkN.nv _) hT6 ⟨by show (0 : Int) ≤ 5; decide, by show (5 : Int) ≤ 255; decide⟩) ?_
  rintro _ _ ⟨ra, rc, ma, mc, ea, ec, M7, rfl, hl7, rfl⟩
  rw [show planV J1 0 (NA.nv { NA.zero with kind := 5, txn := 7, stamp := 5 }).abs = _ from ex3]
  simp only [List.length_cons, List.length_nil, Nat.zero_add]
  refine opsS_abs ra (fun M8 hl8 hs8 => ?_)
  refine opsS_jm p hl8 ?_
  obtain ⟨br2, or2, rfl, cr⟩ := SlM.cm (g := fun r => (liftN (NA.nv { NA.zero with kind := 5, txn := 7, stamp := 5 }) r).cells) (k := 0) (x := comN 7 5) (fun _ => rfl) hs8 rfl rfl
  rw [show liftN (NA.nv { NA.zero with kind := 5, txn := 7, stamp := 5 }) (comN 7 5) = NA.nv (comN 7 5) from rfl] at cr
  clear hs8
  refine Q.r ?_; (repeat (intro b1; refine Q.r ?_))
  refine S.cj p rfl (Apply_spec' (NA.nv (comN 7 5)) M8 p J1 1 _ J1.ok.w (by decide) (okN.nv _) (OkN.nv _) (hT6.mono (hl7.trans hl8)) ⟨by show (0 : Int) ≤ 13 ∧ (13 : Int) ≤ 255; decide, by show (0 : Int) ≤ 7; decide, by show (0 : Int) ≤ 5; decide, Int.le_refl _, Int.le_refl _⟩) ?_
  rintro _ _ ⟨M9, rfl, hl9, rfl⟩
  rw [show appE J1 (NA.nv (comN 7 5)).abs = 0 from ex7, show appS J1 (NA.nv (comN 7 5)).abs = J2 from ex4]
  have hlM9 : leM M M9 := hlM6.trans (hl7.trans (hl8.trans hl9))
  refine Q.r ?_; (repeat (intro b1; refine Q.r ?_))
  refine S.cj p (args := [ptrJ p, .int .i64 2, (NA.nv { NA.zero with kind := 7, txn := 7 }).val]) rfl (Plan_spec (NA.nv { NA.zero with kind := 7, txn := 7 }) M9 p J2 2 2 _ J2.ok.w (by decide) J2.ok.ne (okN.nv _) (OkN.nv _) (hT.mono hlM9) ⟨by show (0 : Int) ≤ 7; decide, by show (7 : Int) ≤ 255; decide⟩) ?_
  rintro _ _ ⟨ra, rc, ma, mc, ea, ec, M10, rfl, hl10, rfl⟩
  rw [show planV J2 2 (NA.nv { NA.zero with kind := 7, txn := 7 }).abs = _ from ex5]
  simp only [List.length_cons, List.length_nil, Nat.zero_add]
  refine opsS_abs ma (fun M11 hl11 hs11 => ?_)
  obtain ⟨bm3, om3, rfl, cm3⟩ := SlM.cm (g := mailC) (k := 0) (fun _ => rfl) hs11 rfl rfl
  have cm4 := cm3.tail
  clear hs11
  refine Q.r ?_; (repeat (intro b1; refine Q.r ?_))
  exact N.r1 (RV.tmp rfl RV.nil) (by exact Go.SX.Ent.go) ⟨M11, rfl, hlM9.trans (hl10.trans hl11), rfl⟩
end Go.Proofs.YtjidejcehmamkaaGreatDoor
namespace Go.Proofs.YtjidejcehmamkaaGreatDoor
open Go Go.SX
attribute [local irreducible] swp opsS thenS blockS retS CallsS St Ent YieldS anyS drawS
abbrev HV.ov (h : HV) : OV := ⟨h.id, h.a, h.c, h.vec⟩
def fewH (k : Nat) (l : List (Int × Int × List Int)) : List (Int × Int × List Int) := (l.take k).map fun h => (h.1, h.2.1, h.2.2.take 8)
theorem fewH_all {n : Nat} {l : List (Int × Int × List Int)} (h : l.length ≤ n) : fewH n l = l.map fun h => (h.1, h.2.1, h.2.2.take 8) := by unfold fewH; rw [List.take_of_length_le h]
set_option maxHeartbeats 1000000 in
theorem HitsA_spec (n : Nat) (a : Option Addr) (c : Nat) (ops : List HV) (A : List HP) (h : RdS A a ops.length 3 (ops.flatMap HV.cells)) (hv : ∀ o ∈ ops, RdS A o.a o.vec.length 1 (o.vec.map I32)) (hc : ∀ o ∈ ops, o.vec.length ≤ o.c) (hn : ops.length ≤ 9223372036854775807) (hnn : n ≤ 1000000) :
    CallsS Tryz.prog 38 [.slice a ops.length c, .int .i64 n] A (fun v L' => ∃ (a' : Option Addr) (c' : Nat) (us : List HV), us.map HV.abs = fewH n (ops.map HV.abs) ∧ (∀ o ∈ us, o.vec.length = 0 ∨ ∃ b, o.a = some ⟨b, 0, none⟩) ∧ v = .slice a' us.length c' ∧ L' = slO 118 3 a' us.length c' (us.flatMap HV.cells) :: vecsH (us.map HV.ov) :: A) := by
  refine CallsS.of_body Tryz.func38 rfl rfl rfl ?_
  refine Q.r ?_; (repeat (intro b1; refine Q.r ?_))
  refine swp_loop (σ := Nat × Option Addr × Nat × List HV) (fun s => [(1, .int .i64 n), (8, .slice a ops.length c), (9, .int .i64 ops.length), (5, .slice s.2.1 s.2.2.2.length s.2.2.1), (10, .int .i64 s.1)])
    (fun s => slO 118 3 s.2.1 s.2.2.2.length s.2.2.1 (s.2.2.2.flatMap HV.cells) :: vecsH (s.2.2.2.map HV.ov) :: A)
    (fun s => s.1 ≤ ops.length ∧ s.2.2.2.map HV.abs = fewH n ((ops.take s.1).map HV.abs) ∧ ∀ o ∈ s.2.2.2, o.vec.length = 0 ∨ ∃ b, o.a = some ⟨b, 0, none⟩) (fun s => ops.length - s.1) (0, none, 0, []) ⟨rfl, rfl, rfl, rfl, rfl, trivial⟩ ?_ ⟨by omega, by simp [fewH], by simp⟩ ?_
  · exact Ent.trans (Ent.trans bodV_nil slO_nil) (Ent.refl _)
  rintro ⟨k, a3, c3, us⟩ ⟨hk, hus, hua⟩
  dsimp only at hk hus hua ⊢
  have hul : us.length = min n k := by
    have := congrArg List.length hus
    simp [fewH] at this; omega
  by_cases hlt : k < ops.length
  · obtain ⟨o, ho⟩ := mem_get hlt
    have hmo : o ∈ ops := List.mem_of_getElem? ho
    obtain ⟨b, oo, hia, hr⟩ := RdS.elem (g := HV.cells) (fun _ => rfl) h ho rfl
    rw [hia]
    repeat (first | (refine GQ.y ?_; refine Q.y ?_) | refine Q.go ?_ | (refine GQ.g ?_; refine Q.gq ?_) | (refine GQ.s ?_; refine Q.st ?_) | (refine GQ.a ?_; refine Q.al (fun b1 => ?_)))
    by_cases hkn : k < n
    · refine Q.r ?_; (repeat (intro b1; refine Q.r ?_))
      refine Q.dgo [true, false, false] [7, 9, 10] [] [0, 1, 2, 3, 4, 5, 6, 7, 8, 9, 10, 11] ?_
      refine Q.rd ?_; (repeat (intro b1; refine Q.rd ?_))
      refine D.e rfl rfl rfl ?_
      refine S.cr rfl (CutVec_spec o.a o.c 8 o.vec _ ((hv o hmo).sub) (hc o hmo) (by omega)) ?_
      rintro _ _ ⟨a', c', rfl, rfl⟩
      refine opsS_addr a' (fun ha' => ?_)
      refine Q.r ?_; (repeat (intro b1; refine Q.r ?_))
      refine Q.rd ?_; (repeat (intro b1; refine Q.rd ?_))
      refine D.e rfl rfl rfl ?_
      refine S.app rfl rfl (SrcS.sl RdC.row (by rfl) (by rfl)) (by rfl) (by omega) (by omega) (fun a4 c4 => ?_)
      refine Q.r ?_; (repeat (intro b1; refine Q.r ?_))
      refine Q.rd ?_; (repeat (intro b1; refine Q.rd ?_))
      refine Q.r ?_; (repeat (intro b1; refine Q.r ?_))
      refine ⟨(k + 1, a4, c4, us ++ [⟨o.id, o.dist, a', c', o.vec.take 8⟩]), ⟨rfl, rfl, rfl, congrArg some (by simp), rfl, trivial⟩, ?_, ⟨by dsimp only; omega, ?_, ?_⟩, by dsimp only; omega⟩
      · dsimp only
        rw [len_snoc, flat_snoc, List.map_append]
        refine Ent.pick (Ent.trans ?_ (vecs_snoc (o := ⟨o.id, a', c', o.vec.take 8⟩) rfl))
        exact Go.SX.Ent.go
      · dsimp only
        rw [List.map_append, hus, fewH_all (l := (ops.take k).map HV.abs) (by simp; omega), fewH_all (l := (ops.take (k + 1)).map HV.abs) (by simp; omega), take_snoc ho, List.map_append, List.map_append]; rfl
      · intro u hu
        rcases List.mem_append.1 hu with hu | hu
        · exact hua u hu
        · obtain rfl := List.mem_singleton.1 hu
          exact ha'
    · refine Q.r ?_; (repeat (intro b1; refine Q.r ?_))
      refine ⟨(k + 1, a3, c3, us), ⟨rfl, rfl, rfl, rfl, rfl, trivial⟩, by exact Go.SX.Ent.go, ⟨by dsimp only; omega, ?_, hua⟩, by dsimp only; omega⟩
      dsimp only
      rw [hus]
      unfold fewH
      rw [← List.map_take, ← List.map_take, List.take_take, List.take_take, show min n k = min n (k + 1) by omega]
  · have hke : k = ops.length := by omega
    subst hke
    rw [List.take_length] at hus
    refine Q.r ?_; (repeat (intro b1; refine Q.r ?_))
    exact N.r1 (RV.tmp rfl RV.nil) (by exact Go.SX.Ent.go) ⟨a3, c3, us, hus, hua, rfl, rfl⟩
theorem opsS_absC (us : List OV) {n : Nat} {ops rest : List Oper} {Q : Post} {f : Env} {L L0 L1 : List HP} {M : Nat → Option Obj} [h : Pick (vecsH us) L L0] [h1 : PickM L0 M L1] (hk : ∀ M', leM M M' → okR M' us → (∀ o ∈ us, o.vec.length ≤ o.c) → opsS Tryz.prog n ops rest Q f (roM M' :: L1)) : opsS Tryz.prog n ops rest Q f L :=
  opsS_ent (h.ent.trans (vecs_abs2 us)) (opsS_ex fun M' => opsS_all (opsS_pure fun hh => hk M' hh.1 hh.2.1 hh.2.2))
def NA.few (n : NA) : NA := { n with parts := n.parts.take 6, ops := fewV 18 n.ops, vec := n.vec.take 10, hits := fewH 18 n.hits }
structure CapN (n : NV) : Prop where
  p : n.parts.length ≤ n.pc
  ov : ∀ o ∈ n.ops, o.vec.length ≤ o.c
  v : n.vec.length ≤ n.vc
  hv : ∀ h ∈ n.hits, h.vec.length ≤ h.c
  p2 : n.parts.length ≤ 9223372036854775807
  o2 : n.ops.length ≤ 9223372036854775807
  v2 : n.vec.length ≤ 9223372036854775807
  h2 : n.hits.length ≤ 9223372036854775807
theorem few_OkN {n' : NV} {n : NA} (h : n'.abs = n.few) : OkN n' := by
  have hp : n'.parts = n.parts.take 6 := congrArg NA.parts h
  have ho : n'.ops.map OV.abs = fewV 18 n.ops := congrArg NA.ops h
  have hv : n'.vec = n.vec.take 10 := congrArg NA.vec h
  have hh : n'.hits.map HV.abs = fewH 18 n.hits := congrArg NA.hits h
  refine ⟨by rw [hp, List.length_take]; omega, ?_, fun o ho' => ?_, by rw [hv, List.length_take]; omega, ?_, fun o ho' => ?_⟩
  · have := congrArg List.length ho
    simp [fewV] at this; omega
  · have := List.mem_map_of_mem (f := OV.abs) ho'
    rw [ho] at this
    obtain ⟨u, _, hu⟩ := List.mem_map.1 this
    have := congrArg (fun z : Int × List Int => z.2.length) hu
    simp at this; omega
  · have := congrArg List.length hh
    simp [fewH] at this; omega
  · have := List.mem_map_of_mem (f := HV.abs) ho'
    rw [hh] at this
    obtain ⟨u, _, hu⟩ := List.mem_map.1 this
    have := congrArg (fun z : Int × Int × List Int => z.2.2.length) hu
    simp at this; omega
set_option maxHeartbeats 1000000 in
theorem NFew_spec (n : NV) (M : Nat → Option Obj) (L : List HP) (hn : okN M n) (hc : CapN n) :
    CallsS Tryz.prog 13 [n.val] (roM M :: L) (fun r L' => ∃ (n' : NV) (M' : Nat → Option Obj), r = n'.val ∧ leM M M' ∧ okN M' n' ∧ CapN n' ∧ n'.ops.length ≤ n'.oc ∧ n'.abs = n.abs.few ∧ L' = roM M' :: L) := by
  have hc1 := hc.p
  have hc2 := hc.p2
  refine CallsS.of_body Tryz.func13 rfl rfl rfl ?_
  have hl : (n.parts.take 6).length = min 6 n.parts.length := List.length_take ..
  refine Q.r ?_; (repeat (intro b1; refine Q.r ?_))
  refine opsS_ent (slO_fold (sz := 1) (m := 0) rfl) ?_
  refine Q.r ?_; (repeat (intro b1; refine Q.r ?_))
  have hrM : SlM M n.pa (n.parts.take 6).length 1 ((n.parts.take 6).map I64) := by
    have := hn.p.take (k := min 6 n.parts.length) (by omega)
    rw [hl]
    rw [Nat.mul_one, ← List.map_take] at this
    rwa [← List.take_eq_take_min] at this
  refine S.y (Y.slT (h := (n.parts.take 6).length) rfl rfl (by rw [hl]; omega) (by omega)) ?_
  refine S.app0 rfl rfl rfl (SrcS.rd hrM.rd (P_one _)) (by rfl) (by omega) (by omega) (fun a5 c5 => ?_)
  refine opsS_cap a5 (fun hc5 => ?_)
  refine opsS_abs a5 (fun M1 hl1 hs1 => ?_)
  refine Q.r ?_; (repeat (intro b1; refine Q.r ?_))
  refine Q.dgo [false, false, true] [2, 5, 8, 10, 12, 14] [10] [0, 1, 3, 4, 6, 7, 2, 9, 5, 8, 10, 11, 12, 13, 14] ?_
  refine Q.rd ?_; (repeat (intro b1; refine Q.rd ?_))
  refine D.e rfl rfl rfl ?_
  refine S.cr rfl (FewA_spec 18 n.oa n.oc n.ops _ (hn.mono hl1).rd.o hc.ov hc.o2 (by omega)) ?_
  rintro _ _ ⟨a6, c6, us, hus, _, rfl, rfl⟩
  refine opsS_cap a6 (fun hc6 => ?_)
  refine opsS_abs a6 (fun M2 hl2 hs2 => ?_)
  refine opsS_absC us (fun M3 hl3 hs3 hc3 => ?_)
  refine Q.r ?_; (repeat (intro b1; refine Q.r ?_))
  refine Q.rd ?_; (repeat (intro b1; refine Q.rd ?_))
  refine D.e rfl rfl rfl ?_
  refine S.cr rfl (HitsA_spec 18 n.ha n.hc n.hits _ (hn.mono (hl1.trans (hl2.trans hl3))).rd.h (hn.mono (hl1.trans (hl2.trans hl3))).rd.hv hc.hv hc.h2 (by omega)) ?_
  rintro _ _ ⟨a7, c7, hs, hhs, _, rfl, rfl⟩
  refine opsS_abs a7 (fun M4 hl4 hs4 => ?_)
  refine opsS_absC (hs.map HV.ov) (fun M5 hl5 hs5 hc5' => ?_)
  refine Q.r ?_; (repeat (intro b1; refine Q.r ?_))
  refine Q.rd ?_; (repeat (intro b1; refine Q.rd ?_))
  refine D.e rfl rfl rfl ?_
  refine S.cr rfl (CutVec_spec n.va n.vc 10 n.vec _ (hn.mono (hl1.trans (hl2.trans (hl3.trans (hl4.trans hl5))))).rd.v hc.v (by omega)) ?_
  rintro _ _ ⟨a8, c8, rfl, rfl⟩
  refine opsS_cap a8 (fun hc8 => ?_)
  refine opsS_abs a8 (fun M6 hl6 hs6 => ?_)
  refine Q.r ?_; (repeat (intro b1; refine Q.r ?_))
  refine Q.rd ?_; (repeat (intro b1; refine Q.rd ?_))
  refine Q.dc rfl rfl rfl rfl ?_
  refine Q.r ?_; (repeat (intro b1; refine Q.r ?_))
  refine Q.rd ?_; (repeat (intro b1; refine Q.rd ?_))
  refine Q.r ?_; (repeat (intro b1; refine Q.r ?_))
  have hm6 : leM M M6 := hl1.trans (hl2.trans (hl3.trans (hl4.trans (hl5.trans hl6))))
  refine N.r1 (by apply RV.cellN; rfl; exact RdC.row; rfl; exact RV.nil) ?_ ⟨⟨n.kind, n.txn, n.batch, n.stamp, n.after, n.mark, n.query, n.id, n.k, n.ef, n.code, n.who, a5, c5, n.parts.take 6, a6, c6, us, a8, c8, n.vec.take 10, a7, c7, hs⟩, M6, rfl, hm6, ?_, ?_, hc6, ?_, rfl⟩
  · exact Go.SX.Ent.go
  · exact ⟨hs1.mono (hl2.trans (hl3.trans (hl4.trans (hl5.trans hl6)))), ⟨hs2.mono (hl3.trans (hl4.trans (hl5.trans hl6))), fun o ho => (hs3 o ho).mono (hl4.trans (hl5.trans hl6))⟩, hs6, hs4.mono (hl5.trans hl6), fun h hh => (hs5 h.ov (List.mem_map_of_mem (f := HV.ov) hh)).mono hl6⟩
  · have ho := congrArg List.length hus
    have hh := congrArg List.length hhs
    simp [fewV, fewH] at ho hh
    exact ⟨hc5, hc3, hc8, fun h hh => hc5' h.ov (List.mem_map_of_mem (f := HV.ov) hh), by dsimp only; rw [List.length_take]; omega, by dsimp only; omega, by dsimp only; rw [List.length_take]; omega, by dsimp only; omega⟩
  · simp only [NV.abs, NA.few, hus, hhs]
end Go.Proofs.YtjidejcehmamkaaGreatDoor
namespace Go.Proofs.YtjidejcehmamkaaGreatDoor
open Go Go.SX
def lettT : List (List UInt8) := [[], [98, 111], [98, 115, 99], [116, 97, 112, 111], [116, 99], [116, 115, 99], [116], [116], [113, 105, 107, 101, 118], [115, 109, 113, 105, 107, 101, 118], [113, 99, 104], [115, 113, 99, 104], [116, 97, 112, 111], [116, 115], [116], [109], [109], [116, 98, 115, 112], [116], [116, 98, 97, 119, 112, 111], [116, 119], [116, 119], [116]]
def lett (k : Nat) : List UInt8 := (lettT[k]?).getD []
def hasL (k : Nat) (f : UInt8) : Bool := (lett k).any fun x => decide (x = f)
def abc : List UInt8 := [116, 98, 115, 97, 109, 113, 105, 107, 101, 99, 119, 112, 111, 118, 104]
set_option maxRecDepth 100000 in
theorem hasL_bit (k i : Nat) (hi : i < 15) : (fldN k).testBit i = hasL k (abc.getD i 0) := by
  by_cases h : k < 23
  · exact (by decide : ∀ k, k < 23 → ∀ i, i < 15 → (fldN k).testBit i = hasL k (abc.getD i 0)) k h i hi
  · have h1 : lett k = [] := by
      unfold lett
      rw [List.getElem?_eq_none (by show 23 ≤ k; omega)]; rfl
    have h2 : fldN k = 0 := by
      unfold fldN
      split <;> first | omega | rfl
    rw [h2]
    unfold hasL
    rw [h1]; simp
def numV (k : Nat) (f : UInt8) (n most : Int) : Bool := decide (n ≤ most) && (decide (n = 0) || hasL k f)
def okNA (k : Nat) (n : NA) : Bool :=
  numV k 116 n.txn 18446744073709551615 && numV k 98 n.batch 18446744073709551615 && numV k 115 n.stamp 1099511627776 && numV k 97 n.after 1099511627776 && numV k 109 n.mark 1099511627776 && numV k 113 n.query 18446744073709551615 && numV k 105 n.id 1099511627776 && numV k 107 n.k 16 && numV k 101 n.ef 256 && numV k 99 n.code 13 && numV k 119 n.who 15
def okNB (k : Nat) (n : NA) : Bool :=
  numV k 112 n.parts.length 4 && numV k 111 n.ops.length 16 && numV k 118 n.vec.length 8 && numV k 104 n.hits.length 16 && bareV n.vec
structure NumA (n : NA) : Prop where
  kind : 0 ≤ n.kind ∧ n.kind ≤ 255
  txn : 0 ≤ n.txn ∧ n.txn ≤ 18446744073709551615
  batch : 0 ≤ n.batch ∧ n.batch ≤ 18446744073709551615
  stamp : 0 ≤ n.stamp ∧ n.stamp ≤ 18446744073709551615
  after : 0 ≤ n.after ∧ n.after ≤ 18446744073709551615
  mark : 0 ≤ n.mark ∧ n.mark ≤ 18446744073709551615
  query : 0 ≤ n.query ∧ n.query ≤ 18446744073709551615
  id : 0 ≤ n.id ∧ n.id ≤ 18446744073709551615
  k : n.k ≤ 9223372036854775807
  ef : n.ef ≤ 9223372036854775807
  code : n.code ≤ 9223372036854775807
  who : n.who ≤ 9223372036854775807
theorem num_bit {k : Nat} {f : UInt8} {n most : Int} (h : 0 ≤ n) : numV k f n most = true ↔ n ≤ most ∧ ((!decide (0 < n)) || hasL k f) = true := by
  unfold numV
  rw [Bool.and_eq_true, decide_eq_true_iff]
  have : decide (n = 0) = !decide (0 < n) := by
    by_cases h0 : n = 0
    · subst h0; rfl
    · rw [decide_eq_false h0, decide_eq_true (by omega : 0 < n)]; rfl
  rw [this]
theorem num_ne {k : Nat} {f : UInt8} {n most : Int} : numV k f n most = true ↔ n ≤ most ∧ ((!(!decide (n = 0))) || hasL k f) = true := by
  unfold numV
  rw [Bool.and_eq_true, decide_eq_true_iff, Bool.not_not]
theorem bare_le {v : List Int} (h : bareV v = true) : (v.length : Int) ≤ 8 := by
  by_cases h0 : v.length = 0
  · omega
  · unfold bareV rightV at h
    rw [decide_eq_false h0] at h
    simp only [Bool.false_or, Bool.and_eq_true, decide_eq_true_eq] at h
    omega
theorem right_ref {n : NA} (u : NumA n) : rightN n = (decide (1 ≤ n.kind ∧ n.kind ≤ 22) && !(decide (n.k < 0) || decide (n.ef < 0) || decide (n.code < 0) || decide (n.who < 0)) && (okNA n.kind.toNat n && (okNB n.kind.toNat n && (partsV n.parts && (!(n.ops.any badOp) && !(n.hits.any badHit)))))) := by
  rw [Bool.eq_iff_iff]
  have hb : ∀ i, i < 15 → (fldN n.kind.toNat).testBit i = hasL n.kind.toNat (abc.getD i 0) := fun i hi => hasL_bit _ i hi
  unfold rightN boundN okNA okNB
  simp only [NA.bits, List.zipIdx_cons, List.zipIdx_nil, List.all_cons, List.all_nil, Nat.zero_add, Nat.reduceAdd, hb 0 (by decide), hb 1 (by decide), hb 2 (by decide), hb 3 (by decide), hb 4 (by decide), hb 5 (by decide), hb 6 (by decide), hb 7 (by decide), hb 8 (by decide), hb 9 (by decide), hb 10 (by decide), hb 11 (by decide), hb 12 (by decide), hb 13 (by decide), hb 14 (by decide)]
  have e : ∀ i x, abc.getD i 0 = x → abc.getD i 0 = x := fun _ _ h => h
  simp only [show abc.getD 0 0 = 116 from rfl, show abc.getD 1 0 = 98 from rfl, show abc.getD 2 0 = 115 from rfl, show abc.getD 3 0 = 97 from rfl, show abc.getD 4 0 = 109 from rfl, show abc.getD 5 0 = 113 from rfl, show abc.getD 6 0 = 105 from rfl, show abc.getD 7 0 = 107 from rfl, show abc.getD 8 0 = 101 from rfl, show abc.getD 9 0 = 99 from rfl, show abc.getD 10 0 = 119 from rfl, show abc.getD 11 0 = 112 from rfl, show abc.getD 12 0 = 111 from rfl, show abc.getD 13 0 = 118 from rfl, show abc.getD 14 0 = 104 from rfl]
  simp only [Bool.and_eq_true, num_bit u.txn.1, num_bit u.batch.1, num_bit u.stamp.1, num_bit u.after.1, num_bit u.mark.1, num_bit u.query.1, num_bit u.id.1, num_bit (Int.natCast_nonneg n.parts.length), num_bit (Int.natCast_nonneg n.ops.length), num_bit (Int.natCast_nonneg n.vec.length), num_bit (Int.natCast_nonneg n.hits.length)]
  rw [num_ne, num_ne, num_ne, num_ne]
  have u1 := u.txn
  have u2 := u.batch
  have u3 := u.query
  have u4 := u.stamp
  simp only [Bool.not_eq_true', Bool.or_eq_false_iff, decide_eq_true_iff, decide_eq_false_iff_not, Bool.not_eq_false', and_assoc, and_true]
  constructor
  · rintro ⟨k1, k2, h0, h1, h2, h3, h4, h5, h6, h7, h8, h9, h10, h11, h12, h13, h14, b1, b2, b3, b4, b5, b6, b7, q1, q2, q3, q4, q5, q6, q7⟩
    have hb8 := bare_le q4
    repeat' apply And.intro
    all_goals first | assumption | omega
  · rintro ⟨k1, k2, c1, c2, c3, c4, a0, h0, a1, h1, a2, h2, a3, h3, a4, h4, a5, h5, a6, h6, a7, h7, a8, h8, a9, h9, a10, h10, a11, h11, a12, h12, a13, h13, a14, h14, q4, q5, q6, q7⟩
    repeat' apply And.intro
    all_goals first | assumption | omega
end Go.Proofs.YtjidejcehmamkaaGreatDoor
namespace Go.Proofs.YtjidejcehmamkaaGreatDoor
open Go Go.SX
theorem fewV_few (l : VL) : fewV 18 (fewV 18 l) = fewV 18 l := by
  unfold fewV
  rw [← List.map_take, List.take_take, List.map_map, Nat.min_self]
  refine List.map_congr_left fun o _ => ?_
  simp [List.take_take]
theorem fewH_few (l : List (Int × Int × List Int)) : fewH 18 (fewH 18 l) = fewH 18 l := by
  unfold fewH
  rw [← List.map_take, List.take_take, List.map_map, Nat.min_self]
  refine List.map_congr_left fun o _ => ?_
  simp [List.take_take]
theorem few_few (n : NA) : n.few.few = n.few := by
  unfold NA.few
  simp only [fewV_few, fewH_few, List.take_take, Nat.min_self]
theorem right3 {n : NA} (u : NumA n) (h : rightN n = true) (hk : n.kind = 3) : n = { NA.zero with kind := 3, txn := n.txn, after := n.after, parts := n.parts, ops := n.ops } := by
  obtain ⟨x0, x1, x2, x3, x4, x5, x6, x7, x8, x9, x10, x11, ps, os, vs, hs⟩ := n
  have u2 := u.batch
  have u3 := u.stamp
  have u5 := u.mark
  have u6 := u.query
  have u7 := u.id
  dsimp only at hk u2 u3 u5 u6 u7
  subst hk
  unfold rightN at h
  rw [Bool.and_eq_true, Bool.and_eq_true] at h
  have h1 := h.1.2
  rw [show (Int.toNat 3) = 3 from rfl, show fldN 3 = 6153 from rfl] at h1
  simp only [NA.bits, List.zipIdx_cons, List.zipIdx_nil, List.all_cons, List.all_nil, Nat.zero_add, Nat.reduceAdd, show Nat.testBit 6153 0 = true from rfl, show Nat.testBit 6153 1 = false from rfl, show Nat.testBit 6153 2 = false from rfl, show Nat.testBit 6153 3 = true from rfl, show Nat.testBit 6153 4 = false from rfl, show Nat.testBit 6153 5 = false from rfl, show Nat.testBit 6153 6 = false from rfl, show Nat.testBit 6153 7 = false from rfl, show Nat.testBit 6153 8 = false from rfl, show Nat.testBit 6153 9 = false from rfl, show Nat.testBit 6153 10 = false from rfl, show Nat.testBit 6153 11 = true from rfl, show Nat.testBit 6153 12 = true from rfl, show Nat.testBit 6153 13 = false from rfl, show Nat.testBit 6153 14 = false from rfl, Bool.or_true, Bool.or_false, Bool.true_and, Bool.and_true, Bool.and_eq_true, Bool.not_eq_true', decide_eq_false_iff_not, Bool.not_not, decide_eq_true_eq] at h1
  obtain ⟨q1, q2, q3, q4, q5, q6, q7, q8, q9, q10, q11⟩ := h1
  have e1 : x2 = 0 := by omega
  have e2 : x3 = 0 := by omega
  have e3 : x5 = 0 := by omega
  have e4 : x6 = 0 := by omega
  have e5 : x7 = 0 := by omega
  have e6 : vs = [] := List.eq_nil_of_length_eq_zero (by omega)
  have e7 : hs = [] := List.eq_nil_of_length_eq_zero (by omega)
  subst e1 e2 e3 e4 e5 e6 e7 q6 q7 q8 q9
  rfl
def stepS (j : JS) (f : Int) (n : NA) (w raw : Bool) : JS := if raw then appS j n else if w then (planV j f n).rec_.foldl appS j else j
theorem foldl_one {j : JS} {r : NA} : [r].foldl appS j = appS j r := rfl
theorem JOW.step {j : JS} {k : Nat} (h : JOW j k) {n : NA} (h0 : 0 ≤ n.txn) (hs : 0 ≤ n.stamp) (f : Int) (w raw : Bool) : JOW (stepS j f n w raw) (k + 1) := by
  unfold stepS
  split
  · exact h.app hs
  split
  · rcases plan_one h h0 f with he | ⟨r, he, _, _, _, hr⟩
    · rw [he]; exact h.le (by omega)
    · rw [he, foldl_one]
      refine h.app ?_
      rcases hr with ⟨rfl, _⟩ | rfl | rfl
      · exact hs
      · exact hs
      · exact Int.le_refl _
  · exact h.le (by omega)
theorem lock_held {j : JS} {n : NA} (hl : lkL j.v.its n.txn = none) (hE : lockE j.v n.txn n.after n.ops = 0) : lockS j.v n.txn n.after n.ops = { j.v with its := j.v.its ++ [(n.txn, n.after, n.ops)] } ∧ lkL (lockS j.v n.txn n.after n.ops).its n.txn = some (n.after, n.ops) := by
  have h : lockS j.v n.txn n.after n.ops = { j.v with its := j.v.its ++ [(n.txn, n.after, n.ops)] } := by unfold lockS; rw [if_pos hE]
  refine ⟨h, ?_⟩
  rw [h]
  dsimp only
  rw [lkL_snoc hl, if_pos rfl]
theorem plan_r {j : JS} {f : Int} {n : NA} (h : rightN n = false) : planV j f n = PA.none := by unfold planV; rw [if_pos h]
theorem plan_3 {j : JS} {f : Int} {n : NA} (h : rightN n = true) (h3 : n.kind = 3) : planV j f n = if f = 0 then prepV j n else PA.none := by unfold planV; rw [if_neg (by rw [h]; decide), if_pos h3]
theorem plan_5 {j : JS} {f : Int} {n : NA} (h : rightN n = true) (h5 : n.kind = 5) : planV j f n = deciV j f n := by unfold planV; rw [if_neg (by rw [h]; decide), if_neg (by omega), if_pos h5]
theorem plan_7 {j : JS} {f : Int} {n : NA} (h : rightN n = true) (h3 : n.kind ≠ 3) (h5 : n.kind ≠ 5) : (planV j f n).rec_ = [] ∧ ∀ j', j'.done = j.done → planV j' f n = planV j f n := by
  unfold planV
  rw [if_neg (by rw [h]; decide), if_neg h3, if_neg h5]
  refine ⟨?_, fun j' hd => ?_⟩
  · split
    · split <;> rfl
    · rfl
  · rw [if_neg (by rw [h]; decide), if_neg h3, if_neg h5, hd]
theorem again {j : JS} {k : Nat} (hj : JOW j k) {n : NA} (h0 : 0 ≤ n.txn) (f : Int) :
    (planV ((planV j f n).rec_.foldl appS j) f n).rec_ = [] ∧ (n.kind = 5 ∧ n.code ≠ 0 → (planV ((planV j f n).rec_.foldl appS j) f n).mail = []) ∧ (¬ (n.kind = 5 ∧ n.code ≠ 0) → (planV ((planV j f n).rec_.foldl appS j) f n).mail = (planV j f n).mail) := by
  cases hr : rightN n with
  | false =>
    have hp : ∀ j, planV j f n = PA.none := fun j => plan_r hr
    simp only [hp]
    exact ⟨rfl, fun _ => rfl, fun _ => trivial⟩
  | true =>
  have hb := right_bound hr
  by_cases h3 : n.kind = 3
  · have h5 : ¬ (n.kind = 5 ∧ n.code ≠ 0) := by omega
    by_cases hf : f = 0
    · have hp : ∀ j, planV j f n = prepV j n := fun j => (plan_3 hr h3).trans (if_pos hf)
      simp only [hp]
      by_cases c1 : (lkL j.done n.txn).isSome = true ∨ checkV j.v.dim n.ops ≠ 0
      · have e : prepV j n = PA.none := by unfold prepV; rw [if_pos c1]
        rw [e]
        show (prepV j n).rec_ = [] ∧ (_ → (prepV j n).mail = []) ∧ (_ → (prepV j n).mail = _)
        rw [e]; exact ⟨rfl, fun _ => rfl, fun _ => rfl⟩
      by_cases c2 : (lkL j.v.its n.txn).isSome = true
      · have e : prepV j n = ⟨[], [voteN n.txn 0], []⟩ := by unfold prepV; rw [if_neg c1, if_pos c2]
        rw [e]
        show (prepV j n).rec_ = [] ∧ (_ → (prepV j n).mail = []) ∧ (_ → (prepV j n).mail = _)
        rw [e]; exact ⟨rfl, fun h => absurd h h5, fun _ => rfl⟩
      cases c3 : takenV j.v n.ops with
      | true =>
        have e : prepV j n = ⟨[], [voteN n.txn 11], []⟩ := by unfold prepV; rw [if_neg c1, if_neg c2, c3]; rfl
        rw [e]
        show (prepV j n).rec_ = [] ∧ (_ → (prepV j n).mail = []) ∧ (_ → (prepV j n).mail = _)
        rw [e]; exact ⟨rfl, fun h => absurd h h5, fun _ => rfl⟩
      | false =>
        have e : prepV j n = ⟨[{ n with kind := 12 }], [voteN n.txn 0], [voteN n.txn 8]⟩ := by unfold prepV; rw [if_neg c1, if_neg c2, c3]; rfl
        rw [e, foldl_one]
        simp only [not_or, Decidable.not_not] at c1
        have hr2 := right_prep hr h3
        have hlk := prep_lock (j := j) hb.2.1 c1.2 (isSome_ne c2) c3
        have hE : appE j { n with kind := 12 } = 0 := by
          unfold appE
          rw [if_neg (by rw [hr2]; decide), if_pos rfl]
          exact hlk
        have hS : appS j { n with kind := 12 } = ⟨lockS j.v n.txn n.after n.ops, putL j.parts n.txn n.parts, j.done⟩ := by
          unfold appS
          rw [if_neg (by rw [hE]; decide), if_pos rfl]
        have hh := lock_held (isSome_ne c2) hlk
        have e2 : prepV (appS j { n with kind := 12 }) n = ⟨[], [voteN n.txn 0], []⟩ := by
          rw [hS]
          unfold prepV
          dsimp only
          rw [if_neg, if_pos (by rw [hh.2]; rfl)]
          rw [hh.1]
          dsimp only
          rintro (h | h)
          · exact c1.1 h
          · exact h c1.2
        rw [e2]; exact ⟨rfl, fun h => absurd h h5, fun _ => rfl⟩
    · have hp : ∀ j, planV j f n = PA.none := fun j => (plan_3 hr h3).trans (if_neg hf)
      simp only [hp]
      exact ⟨rfl, fun _ => rfl, fun _ => trivial⟩
  by_cases h5 : n.kind = 5
  · have hp : ∀ j, planV j f n = deciV j f n := fun j => plan_5 hr h5
    simp only [hp]
    by_cases c1 : n.code ≠ 0
    · have hn : ¬ ¬ (n.kind = 5 ∧ n.code ≠ 0) := fun h => h ⟨h5, c1⟩
      by_cases c2 : (lkL j.v.its n.txn).isSome = true ∧ f = 0
      · have e : deciV j f n = ⟨[aboN n.txn], [], []⟩ := by unfold deciV; rw [if_pos c1, if_pos c2]
        rw [e, foldl_one]
        have hr2 : rightN (aboN n.txn) = true := right_abort h0
        have hE : appE j (aboN n.txn) = 0 := by
          unfold appE
          rw [if_neg (by rw [hr2]; decide), if_neg (show ¬ (14 : Int) = 12 by decide), if_neg (show ¬ (14 : Int) = 13 by decide), if_pos rfl]
          exact if_pos c2.1
        have hS : appS j (aboN n.txn) = ⟨{ j.v with its := delL j.v.its n.txn }, delL j.parts n.txn, j.done⟩ := by
          unfold appS
          rw [if_neg (by rw [hE]; decide), if_neg (show ¬ (14 : Int) = 12 by decide), if_neg (show ¬ (14 : Int) = 13 by decide), if_pos rfl]
        have e2 : deciV (appS j (aboN n.txn)) f n = PA.none := by
          rw [hS]
          unfold deciV
          dsimp only
          rw [if_pos c1, if_neg]
          rw [lkL_delE]
          rintro ⟨h, _⟩
          cases h
        rw [e2]; exact ⟨rfl, fun _ => rfl, fun h => absurd h hn⟩
      · have e : deciV j f n = PA.none := by unfold deciV; rw [if_pos c1, if_neg c2]
        rw [e]
        show (deciV j f n).rec_ = [] ∧ (_ → (deciV j f n).mail = []) ∧ (_ → (deciV j f n).mail = _)
        rw [e]; exact ⟨rfl, fun _ => rfl, fun _ => rfl⟩
    have hn : ¬ (n.kind = 5 ∧ n.code ≠ 0) := fun h => c1 h.2
    cases hd : lkL j.done n.txn with
    | some s =>
      have e : (deciV j f n).rec_ = [] := by
        unfold deciV
        rw [if_neg c1, hd]
        dsimp only
        split <;> rfl
      rw [e]
      show (deciV j f n).rec_ = [] ∧ (_ → (deciV j f n).mail = []) ∧ (_ → (deciV j f n).mail = _)
      exact ⟨e, fun h => absurd h hn, fun _ => rfl⟩
    | none =>
      cases hl : lkL j.v.its n.txn with
      | none =>
        have e : deciV j f n = PA.none := by unfold deciV; rw [if_neg c1, hd, hl]
        rw [e]
        show (deciV j f n).rec_ = [] ∧ (_ → (deciV j f n).mail = []) ∧ (_ → (deciV j f n).mail = _)
        rw [e]; exact ⟨rfl, fun _ => rfl, fun _ => rfl⟩
      | some i =>
        by_cases c3 : max i.1 j.v.mark < n.stamp ∧ aboveV j.v n.stamp i.2 = true
        · have e : deciV j f n = ⟨[comN n.txn n.stamp], [ackN n.txn], []⟩ := by unfold deciV; rw [if_neg c1, hd, hl]; dsimp only; rw [if_pos c3]
          rw [e, foldl_one]
          have hr2 : rightN (comN n.txn n.stamp) = true := right_commit hb.1
          have hE : appE j (comN n.txn n.stamp) = 0 := by
            unfold appE
            rw [if_neg (by rw [hr2]; decide), if_neg (show ¬ (13 : Int) = 12 by decide), if_pos rfl]
            exact above_apply hl c3.1 hj.m hb.1 c3.2
          have hS : appS j (comN n.txn n.stamp) = ⟨applyS j.v n.txn n.stamp, delL j.parts n.txn, putL j.done n.txn n.stamp⟩ := by
            unfold appS
            rw [if_neg (by rw [hE]; decide), if_neg (show ¬ (13 : Int) = 12 by decide), if_pos rfl]
          have e2 : deciV (appS j (comN n.txn n.stamp)) f n = ⟨[], [ackN n.txn], []⟩ := by
            rw [hS]
            unfold deciV
            dsimp only
            rw [if_neg c1, lkL_put hj.kd, if_pos rfl]
            dsimp only
            rw [if_pos rfl]
          rw [e2]; exact ⟨rfl, fun h => absurd h hn, fun _ => rfl⟩
        · have e : deciV j f n = PA.none := by unfold deciV; rw [if_neg c1, hd, hl]; dsimp only; rw [if_neg c3]
          rw [e]
          show (deciV j f n).rec_ = [] ∧ (_ → (deciV j f n).mail = []) ∧ (_ → (deciV j f n).mail = _)
          rw [e]; exact ⟨rfl, fun _ => rfl, fun _ => rfl⟩
  have hn : ¬ (n.kind = 5 ∧ n.code ≠ 0) := fun h => h5 h.1
  have h7 := plan_7 (j := j) (f := f) hr h3 h5
  rw [h7.1]
  exact ⟨h7.1, fun h => absurd h hn, fun _ => rfl⟩
end Go.Proofs.YtjidejcehmamkaaGreatDoor
