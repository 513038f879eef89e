/- The ref's juror: as it lies; Find. The document's notes and mail: are they alike? Calls whose contracts want two or three of the list's assertions in front. The ref's juror: Do. No condition. -/
import Derived.Test.YtjidejcehmamkaaGreatDoorPk09
set_option linter.unusedVariables false
set_option linter.unusedSimpArgs false
set_option linter.unusedSectionVars false
namespace Go.SX
open Go
theorem S.stON {P : Program} {n : Nat} {ops rest : List Oper} {Q : Post} {f : Env} {L : List HP} {ty : TypeId} {pos : String} {af : Array Edge} {x y : Operand} {t t0 s sz m c bts : Nat} {ag : Bool} {zs cs cs' ds : List Value} {b o : Nat} {v : Value} {L' : HP → List HP} [h : Ty P t ag s zs bts] [hu : UpdS (some ⟨b, 0, none⟩) L t0 sz m c cs L']
    (hx : ev f x = some (.pointer (some ⟨b, o, none⟩))) (hy : ev f y = some v) (hv : v.cells.toList = ds) (hn : ds.length = s) (h1 : ds.all (·.oneCell') = true) (hl : o + s ≤ cs.length) (hl' : putAt cs o ds = cs')
    (hk : opsS P n ops rest Q f (L' (slO t0 sz (some ⟨b, 0, none⟩) m c cs'))) : opsS P n ops (⟨none, .store t x y, ty, pos, af, none⟩ :: rest) Q f L := by
  obtain ⟨R, p1, p2⟩ := hu.at_
  refine opsS_ent (L' := slO t0 sz (some ⟨b, 0, none⟩) m c cs :: R) (Ent.perm p1) ?_
  intro ok F a w s' t1
  have hpl : (putAt cs o ds).length = cs.length := by unfold putAt; simp; omega
  obtain ⟨hlen, hc⟩ := St.slO_open (L := R ++ F) (by simpa using t1)
  rcases hc with ⟨e, _⟩ | ⟨b', rs, e, hmc, hcl, hs⟩
  · cases e
  · cases e
    have key : opsS P n ops (⟨none, .store t x y, ty, pos, af, none⟩ :: rest) Q f (pt b (cl (cs ++ rs) t0) :: R) := by
      refine S.st hx hy hv hn h1 (Nat.ble_eq_true_of_le (by rw [List.length_append]; omega)) rfl ?_
      refine opsS_ent (Ent.trans ?_ (Ent.perm (p2 _))) hk
      have e2 : putAt (cs ++ rs) o ds = cs' ++ rs := by
        rw [← hl']
        unfold putAt
        rw [List.take_append_of_le_length (by omega), List.drop_append_of_le_length (by omega)]
        simp
      rw [e2]
      refine slO_shut (by rw [← hl', hpl]; exact hlen) hmc (by rw [← hl']; simpa [hpl] using hcl)
    exact key ok F a w s' (by simpa using hs)
end Go.SX
namespace Go.Proofs.YtjidejcehmamkaaGreatDoor
open Go Go.SX
attribute [local irreducible] swp opsS thenS blockS retS CallsS St Ent YieldS anyS drawS
structure QV where
  txn : Int
  a : Option Addr
  c : Nat
  l : List Int
abbrev QV.cells (v : QV) : List Value := [.int .u64 v.txn, .slice v.a v.l.length v.c]
abbrev QV.abs (v : QV) : Int × List Int := (v.txn, v.l)
abbrev dC (d : Int × Int) : List Value := [.int .u64 d.1, .int .u64 d.2]
abbrev rjP (p : Nat) (self : Int) (v : Nat) (pa : Option Addr) (ps : List QV) (pc : Nat) (da : Option Addr) (ds : List (Int × Int)) (dc : Nat) : HP := pt p (cl [.int .i64 self, ptrV v, .slice pa ps.length pc, .slice da ds.length dc] 92)
structure RJOK (M : Nat → Option Obj) (j : JS) (sf : Int) (pa : Option Addr) (pc : Nat) (ps : List QV) (da : Option Addr) (dc : Nat) (ds : List (Int × Int)) : Prop where
  s1 : 1 ≤ sf
  s2 : sf ≤ 15
  pp : (ps.map QV.abs).Perm j.parts
  po : ∀ u ∈ ps, SlM M u.a u.l.length 1 (u.l.map I64)
  pS : SlM M pa ps.length 2 (ps.flatMap QV.cells)
  dp : ds.Perm j.done
  sd : (ds.map (·.1)).Pairwise (· < ·)
  dS : SlM M da ds.length 2 (ds.flatMap dC)
  dc : ds.length ≤ dc
  kp : keysOK j.parts
  kd : keysOK j.done
structure RJX where
  v : Nat
  self : Int
  pa : Option Addr
  pc : Nat
  ps : List QV
  da : Option Addr
  dc : Nat
  ds : List (Int × Int)
  M : Nat → Option Obj
def rjH (p : Nat) (j : JS) : HP := exH fun x : RJX => allH [pureH (RJOK x.M j x.self x.pa x.pc x.ps x.da x.dc x.ds), rjP p x.self x.v x.pa x.ps x.pc x.da x.ds x.dc, refH x.v j.v, roM x.M]
theorem rj_shut {p v : Nat} {self : Int} {M : Nat → Option Obj} {j : JS} {pa : Option Addr} {pc : Nat} {ps : List QV} {da : Option Addr} {dc : Nat} {ds : List (Int × Int)} {L : List HP} (h : RJOK M j self pa pc ps da dc ds) : Ent (rjP p self v pa ps pc da ds dc :: refH v j.v :: roM M :: L) (rjH p j :: L) :=
  Ent.trans (Ent.shut_pure h) (Ent.trans (Ent.shut_all (L := [_, _, _, _])) (Ent.shut_ex (P := fun x : RJX => allH [pureH (RJOK x.M j x.self x.pa x.pc x.ps x.da x.dc x.ds), rjP p x.self x.v x.pa x.ps x.pc x.da x.ds x.dc, refH x.v j.v, roM x.M]) ⟨v, self, pa, pc, ps, da, dc, ds, M⟩))
class PickRJ (p : Nat) (L : List HP) (j : outParam JS) (L0 : outParam (List HP)) : Prop where
  ent : Ent L (rjH p j :: L0)
instance PickRJ.here {p : Nat} {L : List HP} {j : JS} : PickRJ p (rjH p j :: L) j L := ⟨Ent.refl _⟩
instance (priority := low) PickRJ.there {p : Nat} {A : HP} {L L0 : List HP} {j : JS} [h : PickRJ p L j L0] : PickRJ p (A :: L) j (A :: L0) := ⟨(h.ent.cons).trans (Ent.perm (.swap _ _ _))⟩
section
variable {n : Nat} {ops rest : List Oper} {cd : Code} {Q : Post} {f : Env} {L L0 : List HP} {j : JS}
theorem swp_rj (p : Nat) [hp : PickRJ p L j L0] (h : ∀ v self M pa pc ps da dc ds, RJOK M j self pa pc ps da dc ds → swp Tryz.prog n cd Q f (rjP p self v pa ps pc da ds dc :: refH v j.v :: roM M :: L0)) : swp Tryz.prog n cd Q f L :=
  swp_ent hp.ent (swp_ex fun x => swp_all (swp_pure fun hx => h x.v x.self x.M x.pa x.pc x.ps x.da x.dc x.ds hx))
end
theorem rjclose {p v : Nat} {sf : Int} {M : Nat → Option Obj} {j : JS} {pa : Option Addr} {pc : Nat} {ps : List QV} {da : Option Addr} {dc : Nat} {ds : List (Int × Int)} {L L0 L1 L2 : List HP} [h1 : Pick (rjP p sf v pa ps pc da ds dc) L L0] [h2 : PickR v L0 j.v L1] [h3 : Pick (roM M) L1 L2] (hq : RJOK M j sf pa pc ps da dc ds) : Ent L (rjH p j :: L2) :=
  Ent.trans h1.ent (Ent.trans (Ent.cons (Ent.trans h2.ent (Ent.cons h3.ent))) (rj_shut hq))
theorem RJOK.lk {M : Nat → Option Obj} {j : JS} {sf : Int} {pa : Option Addr} {pc : Nat} {ps : List QV} {da : Option Addr} {dc : Nat} {ds : List (Int × Int)} (h : RJOK M j sf pa pc ps da dc ds) (t : Int) : lkL ds t = lkL j.done t := lkL_perm h.kd h.dp t
theorem lkL_at {α : Type} {ds : List (Int × α)} {k : Nat} {d : Int × α} (h : ds[k]? = some d) (hn : ∀ u ∈ ds.take k, u.1 ≠ d.1) : lkL ds d.1 = some d.2 := by
  have hl : k < ds.length := (List.getElem?_eq_some_iff.1 h).1
  have e : ds = ds.take k ++ d :: ds.drop (k + 1) := by
    have := List.getElem?_eq_some_iff.1 h
    rw [← this.2, List.getElem_cons_drop, List.take_append_drop]
  obtain ⟨x, y⟩ := d
  rw [e]
  exact lkL_mid (fun u hu => hn u hu)
theorem FindD_spec (p v : Nat) (self : Int) (pa : Option Addr) (ps : List QV) (pc : Nat) (da : Option Addr) (ds : List (Int × Int)) (dc : Nat) (t : Int) (M : Nat → Option Obj) (A : List HP) (h : SlM M da ds.length 2 (ds.flatMap dC)) (hn : ds.length ≤ 1000000) :
    CallsS Tryz.prog 77 [.pointer (some ⟨p, 0, none⟩), .int .u64 t] (rjP p self v pa ps pc da ds dc :: roM M :: A) (fun r L' => r = .int .u64 ((lkL ds t).getD 0) ∧ L' = rjP p self v pa ps pc da ds dc :: roM M :: A) := by
  refine CallsS.of_body Tryz.func77 rfl rfl rfl ?_
  refine Q.r ?_; (repeat (intro b1; refine Q.r ?_))
  refine swp_loop (σ := Nat) (fun k => [(1, .int .u64 t), (10, .slice da ds.length dc), (11, .int .i64 ds.length), (12, .int .i64 k)]) (fun _ => rjP p self v pa ps pc da ds dc :: roM M :: A)
    (fun k => k ≤ ds.length ∧ ∀ d ∈ ds.take k, d.1 ≠ t) (fun k => ds.length - k) 0 ⟨rfl, rfl, rfl, rfl, trivial⟩ (Ent.refl _) ⟨by omega, by simp⟩ ?_
  rintro k ⟨hk, hno⟩
  by_cases hlt : k < ds.length
  · obtain ⟨d, hd⟩ := mem_get hlt
    have hrs : RdS (rjP p self v pa ps pc da ds dc :: roM M :: A) da ds.length 2 (ds.flatMap dC) := h.rd
    obtain ⟨b, oo, hia, hr⟩ := RdS.elem (g := dC) (fun _ => rfl) hrs hd rfl
    clear hrs
    rw [hia] at hr ⊢
    by_cases he : d.1 = t
    · refine Q.r ?_; (repeat (intro b1; refine Q.r ?_))
      refine N.r1 (RV.tmp rfl RV.nil) (by repeat (first | exact Ent.refl _ | exact Ent.nil | refine Ent.pick ?_ | refine Ent.nilS ?_ | refine Ent.nilM ?_ | refine Ent.drop ?_)) ⟨?_, rfl⟩
      subst he
      rw [lkL_at hd hno]; rfl
    · refine Q.r ?_; (repeat (intro b1; refine Q.r ?_))
      refine ⟨k + 1, ⟨rfl, rfl, rfl, rfl, trivial⟩, by repeat (first | exact Ent.refl _ | exact Ent.nil | refine Ent.pick ?_ | refine Ent.nilS ?_ | refine Ent.nilM ?_ | refine Ent.drop ?_), ⟨by omega, ?_⟩, by omega⟩
      rw [take_snoc hd]
      intro j hj
      rcases List.mem_append.1 hj with hj | hj
      · exact hno j hj
      · obtain rfl := List.mem_singleton.1 hj
        exact he
  · have hke : k = ds.length := by omega
    subst hke
    rw [List.take_length] at hno
    refine Q.r ?_; (repeat (intro b1; refine Q.r ?_))
    refine N.r1 (RV.tmp rfl RV.nil) (Ent.refl _) ⟨?_, rfl⟩
    rw [lkL_none hno]; rfl
theorem RNew_spec (sf dim : Int) (L : List HP) (s1 : 1 ≤ sf) (s2 : sf ≤ 15) :
    CallsS Tryz.prog 9 [.int .i64 sf, .int .i64 dim] L (fun r L' => ∃ p, r = .pointer (some ⟨p, 0, none⟩) ∧ L' = rjH p ⟨⟨dim, [], [], 0⟩, [], []⟩ :: L) := by
  refine CallsS.of_body Tryz.func9 rfl rfl rfl ?_
  refine Q.r ?_; (repeat (intro b1; refine Q.r ?_))
  rename_i b0
  refine N.r1 (RV.tmp rfl RV.nil) ?_ ⟨b1, rfl, rfl⟩
  refine Ent.trans (M := rP b0 dim none [] 0 none [] 0 0 :: roM (fun _ => none) :: rjP b1 sf b0 none [] 0 none [] 0 :: roM (fun _ => none) :: L) (by repeat (first | exact Ent.refl _ | exact Ent.nil | refine Ent.pick ?_ | refine Ent.nilS ?_ | refine Ent.nilM ?_ | refine Ent.drop ?_)) ?_
  refine Ent.trans (ref_shut (p := b0) (st := ⟨dim, [], [], 0⟩) (es := []) (is := []) (a := none) (a' := none) (c := 0) (c' := 0) ⟨by simp, by simp, by simp, by simp, by simp, by simp, ⟨rfl, .inl rfl⟩, ⟨rfl, .inl rfl⟩, by simp, by simp, by simp [keysOK], by simp [keysOK], by simp⟩) ?_
  refine Ent.trans (Ent.perm (.swap _ _ _)) ?_
  exact rj_shut (j := ⟨⟨dim, [], [], 0⟩, [], []⟩) (ps := []) (ds := []) ⟨s1, s2, by simp, by simp, ⟨rfl, .inl rfl⟩, by simp, by simp, ⟨rfl, .inl rfl⟩, by simp, by simp [keysOK], by simp [keysOK]⟩
theorem without_spec (a : Option Addr) (c : Nat) (ps : List QV) (t : Int) (A : List HP) (h : RdS A a ps.length 2 (ps.flatMap QV.cells)) (hn : ps.length ≤ 1000000) :
    CallsS Tryz.prog 93 [.slice a ps.length c, .int .u64 t] A (fun r L' => ∃ a' c', r = .slice a' (ps.filter fun u => !decide (u.txn = t)).length c' ∧ L' = slO 180 2 a' (ps.filter fun u => !decide (u.txn = t)).length c' ((ps.filter fun u => !decide (u.txn = t)).flatMap QV.cells) :: A) := by
  refine CallsS.of_body Tryz.func93 rfl rfl rfl ?_
  refine Q.r ?_; (repeat (intro b1; refine Q.r ?_))
  refine swp_loop (σ := Nat × Option Addr × Nat × List QV) (fun s => [(1, .int .u64 t), (8, .slice a ps.length c), (9, .int .i64 ps.length), (5, .slice s.2.1 s.2.2.2.length s.2.2.1), (10, .int .i64 s.1)])
    (fun s => slO 180 2 s.2.1 s.2.2.2.length s.2.2.1 (s.2.2.2.flatMap QV.cells) :: A)
    (fun s => s.1 ≤ ps.length ∧ s.2.2.2 = (ps.take s.1).filter fun u => !decide (u.txn = t)) (fun s => ps.length - s.1) (0, none, 0, []) ⟨rfl, rfl, rfl, rfl, rfl, trivial⟩ slO_nil ⟨by omega, by simp⟩ ?_
  rintro ⟨k, a3, c3, us⟩ ⟨hk, hus⟩
  dsimp only at hk hus ⊢
  have hul : us.length ≤ k := by
    rw [hus]
    exact Nat.le_trans (List.length_filter_le _ _) (by rw [List.length_take]; omega)
  by_cases hlt : k < ps.length
  · obtain ⟨q, hq⟩ := mem_get hlt
    have hrs : RdS (slO 180 2 a3 us.length c3 (us.flatMap QV.cells) :: A) a ps.length 2 (ps.flatMap QV.cells) := h.sub
    obtain ⟨b, oo, hia, hr⟩ := RdS.elem (g := QV.cells) (fun _ => rfl) hrs hq rfl
    clear hrs
    rw [hia]
    by_cases he : q.txn = t
    · refine Q.r ?_; (repeat (intro b1; refine Q.r ?_))
      refine ⟨(k + 1, a3, c3, us), ⟨rfl, rfl, rfl, rfl, rfl, trivial⟩, by repeat (first | exact Ent.refl _ | exact Ent.nil | refine Ent.pick ?_ | refine Ent.nilS ?_ | refine Ent.nilM ?_ | refine Ent.drop ?_), ⟨by dsimp only; omega, ?_⟩, by dsimp only; omega⟩
      dsimp only
      rw [take_snoc hq, List.filter_append, ← hus, List.filter_cons, if_neg (by simp [he]), List.filter_nil, List.append_nil]
    · refine Q.r ?_; (repeat (intro b1; refine Q.r ?_))
      refine S.app rfl rfl (SrcS.sl RdC.row (by rfl) (by rfl)) (by rfl) (by omega) (by omega) (fun a7 c7 => ?_)
      refine Q.r ?_; (repeat (intro b1; refine Q.r ?_))
      refine ⟨(k + 1, a7, c7, us ++ [q]), ⟨rfl, rfl, rfl, congrArg some (by simp), rfl, trivial⟩, ?_, ⟨by dsimp only; omega, ?_⟩, by dsimp only; omega⟩
      · dsimp only
        rw [len_snoc, flat_snoc]
        repeat (first | exact Ent.refl _ | exact Ent.nil | refine Ent.pick ?_ | refine Ent.nilS ?_ | refine Ent.nilM ?_ | refine Ent.drop ?_)
      · dsimp only
        rw [take_snoc hq, List.filter_append, ← hus, List.filter_cons, if_pos (by simp [he]), List.filter_nil]
  · have hke : k = ps.length := by omega
    subst hke
    rw [List.take_length] at hus
    subst hus
    refine Q.r ?_; (repeat (intro b1; refine Q.r ?_))
    exact N.r1 (RV.tmp rfl RV.nil) (Ent.refl _) ⟨a3, c3, rfl, rfl⟩
def insD (ds : List (Int × Int)) (d : Int × Int) : List (Int × Int) := ds.filter (fun u => decide (u.1 < d.1)) ++ d :: ds.filter (fun u => decide (d.1 < u.1))
theorem dC_one (xs : List (Int × Int)) : (xs.flatMap dC).all (·.oneCell') = true := by simp [Value.oneCell']
theorem insD_eq {ds : List (Int × Int)} {d : Int × Int} {k : Nat} (h1 : ∀ u ∈ ds.take k, u.1 < d.1) (h2 : ∀ u ∈ ds.drop k, d.1 ≤ u.1) : insD ds d = ds.take k ++ d :: (ds.drop k).filter (fun u => decide (d.1 < u.1)) := by
  unfold insD
  have e : ds = ds.take k ++ ds.drop k := (List.take_append_drop k ds).symm
  conv => lhs; rw [e]
  rw [List.filter_append, List.filter_append]
  rw [List.filter_eq_self.2 (fun u hu => by have := h1 u hu; simp; omega), List.filter_eq_nil_iff.2 (fun u hu => by have := h2 u hu; simp; omega), List.append_nil, List.filter_eq_nil_iff.2 (fun u hu => by have := h1 u hu; simp; omega), List.nil_append]
set_option maxHeartbeats 2000000 in
theorem put_spec (a : Option Addr) (c : Nat) (ds : List (Int × Int)) (d : Int × Int) (A : List HP) (h : RdS A a ds.length 2 (ds.flatMap dC)) (hc : ds.length ≤ c) (hn : ds.length ≤ 1000000) (hs : (ds.map (·.1)).Pairwise (· < ·)) :
    CallsS Tryz.prog 95 [.slice a ds.length c, .agg (dC d).toArray] A (fun r L' => ∃ a' c', r = .slice a' (insD ds d).length c' ∧ L' = slO 182 2 a' (insD ds d).length c' ((insD ds d).flatMap dC) :: A) := by
  refine CallsS.of_body Tryz.func95 rfl rfl rfl ?_
  refine Q.r ?_; (repeat (intro b1; refine Q.r ?_))
  refine swp_cutB (σ := Nat) (fun k => [(0, .slice a ds.length c), (3, .pointer (some ⟨b1, 0, none⟩)), (5, .int .i64 k)]) (fun _ => pt b1 (cl (dC d) 182) :: A)
    (fun k => k ≤ ds.length ∧ (∀ u ∈ ds.take k, u.1 < d.1) ∧ ∀ u, ds[k]? = some u → d.1 ≤ u.1) ?_ ?_
  · refine swp_loop (σ := Nat) (fun k => [(0, .slice a ds.length c), (3, .pointer (some ⟨b1, 0, none⟩)), (5, .int .i64 k)]) (fun _ => pt b1 (cl (dC d) 182) :: A)
      (fun k => k ≤ ds.length ∧ ∀ u ∈ ds.take k, u.1 < d.1) (fun k => ds.length - k) 0 ⟨rfl, rfl, rfl, trivial⟩ (Ent.refl _) ⟨by omega, by simp⟩ ?_
    rintro k ⟨hk, hall⟩
    by_cases hlt : k < ds.length
    · obtain ⟨q, hq⟩ := mem_get hlt
      obtain ⟨b, oo, hia, hr⟩ := RdS.elem (g := dC) (fun _ => rfl) h hq rfl
      rw [hia]
      by_cases he : q.1 < d.1
      · refine Q.r ?_; (repeat (intro b1; refine Q.r ?_))
        refine D.start [] [] [0, 1, 2, 3, 4, 5, 6, 7, 8, 9, 10, 11, 12, 13] _ [] rfl (by kernel_rfl) rfl (by kernel_rfl) NoPanic.no (Ent.refl _) ?_
        repeat (first | refine Q.dyn rfl rfl rfl ?_ | refine Q.dyl rfl rfl rfl ?_ | refine D.y rfl rfl rfl (by kernel_rfl) (by first | exact (Y.ldRj rfl (by first | assumption | exact RdC.sub (by assumption)) rfl) | exact Y.guard rfl (Y.ldRj rfl (by first | assumption | exact RdC.sub (by assumption)) rfl)) ?_ | refine D.endA ?_ | refine Q.dp rfl rfl rfl ?_ | refine Q.dy rfl rfl rfl ?_ | refine D.end_ ?_ | refine Q.endH ?_ | (refine D.e rfl rfl rfl ?_; (first | refine S.gskip1 rfl ?_ | refine S.gskip rfl ?_ | refine S.y (Y.gskipU rfl) ?_); refine opsS_nil ?_; refine N.tn ?_) | refine Q.dT rfl rfl rfl ?_ | refine Q.dF rfl rfl rfl ?_ | (refine D.e rfl rfl rfl ?_; (first | (refine GQ.a ?_; refine Q.al (fun b1 => ?_)) | (refine GQ.s ?_; refine Q.st ?_)); refine opsS_nil ?_; refine N.tn ?_))
        refine Q.r ?_; (repeat (intro b1; refine Q.r ?_))
        refine ⟨k + 1, ⟨rfl, rfl, rfl, trivial⟩, Ent.refl _, ⟨by omega, ?_⟩, by omega⟩
        rw [take_snoc hq]
        intro u hu
        rcases List.mem_append.1 hu with hu | hu
        · exact hall u hu
        · obtain rfl := List.mem_singleton.1 hu
          exact he
      · refine Q.r ?_; (repeat (intro b1; refine Q.r ?_))
        refine D.start [] [] [0, 1, 2, 3, 4, 5, 6, 7, 8, 9, 10, 11, 12, 13] _ [] rfl (by kernel_rfl) rfl (by kernel_rfl) NoPanic.no (Ent.refl _) ?_
        repeat (first | refine Q.dyn rfl rfl rfl ?_ | refine Q.dyl rfl rfl rfl ?_ | refine D.y rfl rfl rfl (by kernel_rfl) (by first | exact (Y.ldRj rfl (by first | assumption | exact RdC.sub (by assumption)) rfl) | exact Y.guard rfl (Y.ldRj rfl (by first | assumption | exact RdC.sub (by assumption)) rfl)) ?_ | refine D.endA ?_ | refine Q.dp rfl rfl rfl ?_ | refine Q.dy rfl rfl rfl ?_ | refine D.end_ ?_ | refine Q.endH ?_ | (refine D.e rfl rfl rfl ?_; (first | refine S.gskip1 rfl ?_ | refine S.gskip rfl ?_ | refine S.y (Y.gskipU rfl) ?_); refine opsS_nil ?_; refine N.tn ?_) | refine Q.dT rfl rfl rfl ?_ | refine Q.dF rfl rfl rfl ?_ | (refine D.e rfl rfl rfl ?_; (first | (refine GQ.a ?_; refine Q.al (fun b1 => ?_)) | (refine GQ.s ?_; refine Q.st ?_)); refine opsS_nil ?_; refine N.tn ?_))
        refine Q.r ?_; (repeat (intro b1; refine Q.r ?_))
        refine ⟨k, ⟨rfl, rfl, rfl, trivial⟩, Ent.refl _, hk, hall, fun u hu => ?_⟩
        rw [hq] at hu
        cases hu
        omega
    · refine Q.r ?_; (repeat (intro b1; refine Q.r ?_))
      refine D.start [] [] [0, 1, 2, 3, 4, 5, 6, 7, 8, 9, 10, 11, 12, 13] _ [] rfl (by kernel_rfl) rfl (by kernel_rfl) NoPanic.no (Ent.refl _) ?_
      repeat (first | refine Q.dyn rfl rfl rfl ?_ | refine Q.dyl rfl rfl rfl ?_ | refine D.y rfl rfl rfl (by kernel_rfl) (by first | exact (Y.ldRj rfl (by first | assumption | exact RdC.sub (by assumption)) rfl) | exact Y.guard rfl (Y.ldRj rfl (by first | assumption | exact RdC.sub (by assumption)) rfl)) ?_ | refine D.endA ?_ | refine Q.dp rfl rfl rfl ?_ | refine Q.dy rfl rfl rfl ?_ | refine D.end_ ?_ | refine Q.endH ?_ | (refine D.e rfl rfl rfl ?_; (first | refine S.gskip1 rfl ?_ | refine S.gskip rfl ?_ | refine S.y (Y.gskipU rfl) ?_); refine opsS_nil ?_; refine N.tn ?_) | refine Q.dT rfl rfl rfl ?_ | refine Q.dF rfl rfl rfl ?_ | (refine D.e rfl rfl rfl ?_; (first | (refine GQ.a ?_; refine Q.al (fun b1 => ?_)) | (refine GQ.s ?_; refine Q.st ?_)); refine opsS_nil ?_; refine N.tn ?_))
      refine Q.r ?_; (repeat (intro b1; refine Q.r ?_))
      refine ⟨k, ⟨rfl, rfl, rfl, trivial⟩, Ent.refl _, hk, hall, fun u hu => ?_⟩
      have := (List.getElem?_eq_some_iff.1 hu).1
      omega
  rintro k ⟨hk, hall, hnx⟩
  have hat : ds.length = 0 ∨ ∃ b o, a = some ⟨b, o, none⟩ := by
    rcases h.2 with h0 | ⟨b, o, h0, _⟩
    · exact .inl h0
    · exact .inr ⟨b, o, h0⟩
  have hge : ∀ u ∈ ds.drop k, d.1 ≤ u.1 := by
    by_cases hlt : k < ds.length
    · obtain ⟨q, hq⟩ := mem_get hlt
      have h1 := hnx q hq
      have e : ds.drop k = q :: ds.drop (k + 1) := by rw [← (List.getElem?_eq_some_iff.1 hq).2, List.getElem_cons_drop]
      have h2 := hs
      rw [← List.take_append_drop k ds, List.map_append, List.pairwise_append] at h2
      have h3 := h2.2.1
      rw [e, List.map_cons, List.pairwise_cons] at h3
      intro u hu
      rw [e] at hu
      rcases List.mem_cons.1 hu with rfl | hu
      · exact h1
      · have := h3.1 u.1 (List.mem_map_of_mem hu)
        omega
    · intro u hu
      rw [List.drop_eq_nil_of_le (by omega)] at hu
      cases hu
  have hI := insD_eq hall hge
  by_cases hx : ∃ q, ds[k]? = some q ∧ q.1 = d.1
  · obtain ⟨q, hq, he⟩ := hx
    have hlt : k < ds.length := (List.getElem?_eq_some_iff.1 hq).1
    have e : ds.drop k = q :: ds.drop (k + 1) := by rw [← (List.getElem?_eq_some_iff.1 hq).2, List.getElem_cons_drop]
    have hf : (ds.drop k).filter (fun u => decide (d.1 < u.1)) = ds.drop (k + 1) := by
      have h2 := hs
      rw [← List.take_append_drop k ds, List.map_append, List.pairwise_append] at h2
      have h3 := h2.2.1
      rw [e, List.map_cons, List.pairwise_cons] at h3
      rw [e, List.filter_cons, if_neg (by simp; omega), List.filter_eq_self.2 (fun u hu => by have := h3.1 u.1 (List.mem_map_of_mem hu); simp; omega)]
    rw [hf] at hI
    have hlen : (insD ds d).length = ds.length := by rw [hI]; simp; omega
    have hcells : putAt (ds.flatMap dC) (0 + k * 2) (dC d) = (insD ds d).flatMap dC := by
      unfold putAt
      rw [Nat.zero_add, flat_take (sz := 2) (fun _ => rfl), show k * 2 + (dC d).length = (k + 1) * 2 by simp; omega, flat_drop (sz := 2) (fun _ => rfl), hI, List.flatMap_append, List.flatMap_cons, List.append_assoc]
    have hcl : (ds.flatMap dC).length = ds.length * 2 := h.1
    rw [hlen, ← hcells]
    obtain ⟨b, oo, hia, hr⟩ := RdS.elem (g := dC) (fun _ => rfl) h hq rfl
    subst hia
    refine Q.r ?_; (repeat (intro b1; refine Q.r ?_))
    refine D.start [] [] [0, 1, 2, 3, 4, 5, 6, 7, 8, 9, 10, 11, 12, 13] _ [] rfl (by kernel_rfl) rfl (by kernel_rfl) NoPanic.no (Ent.refl _) ?_
    repeat (first | refine Q.dyn rfl rfl rfl ?_ | refine Q.dyl rfl rfl rfl ?_ | refine D.y rfl rfl rfl (by kernel_rfl) (by first | exact (Y.ldRj rfl (by first | assumption | exact RdC.sub (by assumption)) rfl) | exact Y.guard rfl (Y.ldRj rfl (by first | assumption | exact RdC.sub (by assumption)) rfl)) ?_ | refine D.endA ?_ | refine Q.dp rfl rfl rfl ?_ | refine Q.dy rfl rfl rfl ?_ | refine D.end_ ?_ | refine Q.endH ?_ | (refine D.e rfl rfl rfl ?_; (first | refine S.gskip1 rfl ?_ | refine S.gskip rfl ?_ | refine S.y (Y.gskipU rfl) ?_); refine opsS_nil ?_; refine N.tn ?_) | refine Q.dT rfl rfl rfl ?_ | refine Q.dF rfl rfl rfl ?_ | (refine D.e rfl rfl rfl ?_; (first | (refine GQ.a ?_; refine Q.al (fun b1 => ?_)) | (refine GQ.s ?_; refine Q.st ?_)); refine opsS_nil ?_; refine N.tn ?_))
    refine Q.r ?_; (repeat (intro b1; refine Q.r ?_))
    refine opsS_ent (slO_fold (sz := 2) (m := 0) rfl) ?_
    refine S.app0 rfl rfl rfl (SrcS.rd h.sub (dC_one _)) (by rfl) (by omega) (by omega) (fun a5 c5 => ?_)
    refine opsS_addr a5 (fun ha5 => ?_)
    rcases ha5 with ha5 | ⟨b5, rfl⟩
    · omega
    refine Q.r ?_; (repeat (intro b1; refine Q.r ?_))
    refine S.stON (ds := dC d) rfl rfl rfl rfl rfl (by show 0 + k * 2 + 2 ≤ (ds.flatMap dC).length; omega) rfl ?_
    refine Q.r ?_; (repeat (intro b1; refine Q.r ?_))
    refine N.r1 (RV.tmp rfl RV.nil) ?_ ⟨_, c5, rfl, rfl⟩
    repeat (first | exact Ent.refl _ | exact Ent.nil | refine Ent.pick ?_ | refine Ent.nilS ?_ | refine Ent.nilM ?_ | refine Ent.drop ?_)
  · have hf : (ds.drop k).filter (fun u => decide (d.1 < u.1)) = ds.drop k := by
      refine List.filter_eq_self.2 fun u hu => ?_
      have h1 := hge u hu
      by_cases he : u.1 = d.1
      · exfalso
        by_cases hlt : k < ds.length
        · obtain ⟨q, hq⟩ := mem_get hlt
          have e : ds.drop k = q :: ds.drop (k + 1) := by rw [← (List.getElem?_eq_some_iff.1 hq).2, List.getElem_cons_drop]
          have h2 := hs
          rw [← List.take_append_drop k ds, List.map_append, List.pairwise_append] at h2
          have h3 := h2.2.1
          rw [e, List.map_cons, List.pairwise_cons] at h3
          rw [e] at hu
          rcases List.mem_cons.1 hu with rfl | hu
          · exact hx ⟨_, hq, he⟩
          · have := h3.1 u.1 (List.mem_map_of_mem hu)
            have := hnx q hq
            omega
        · rw [List.drop_eq_nil_of_le (by omega)] at hu
          cases hu
      · simp; omega
    rw [hf] at hI
    have hlen : (insD ds d).length = k + 1 + (ds.length - k) := by rw [hI]; simp; omega
    have hcells : (insD ds d).flatMap dC = (ds.flatMap dC).take (k * 2) ++ dC d ++ (ds.flatMap dC).drop (k * 2) := by
      rw [flat_take (sz := 2) (fun _ => rfl), flat_drop (sz := 2) (fun _ => rfl), hI, List.flatMap_append, List.flatMap_cons, List.append_assoc]
    rw [hlen, hcells]
    by_cases hlt : k < ds.length
    · obtain ⟨q, hq⟩ := mem_get hlt
      have hne : ¬ q.1 = d.1 := fun he => hx ⟨q, hq, he⟩
      obtain ⟨b, oo, hia, hr⟩ := RdS.elem (g := dC) (fun _ => rfl) h hq rfl
      rw [hia] at h hat ⊢
      refine Q.r ?_; (repeat (intro b1; refine Q.r ?_))
      refine D.start [] [] [0, 1, 2, 3, 4, 5, 6, 7, 8, 9, 10, 11, 12, 13] _ [] rfl (by kernel_rfl) rfl (by kernel_rfl) NoPanic.no (Ent.refl _) ?_
      repeat (first | refine Q.dyn rfl rfl rfl ?_ | refine Q.dyl rfl rfl rfl ?_ | refine D.y rfl rfl rfl (by kernel_rfl) (by first | exact (Y.ldRj rfl (by first | assumption | exact RdC.sub (by assumption)) rfl) | exact Y.guard rfl (Y.ldRj rfl (by first | assumption | exact RdC.sub (by assumption)) rfl)) ?_ | refine D.endA ?_ | refine Q.dp rfl rfl rfl ?_ | refine Q.dy rfl rfl rfl ?_ | refine D.end_ ?_ | refine Q.endH ?_ | (refine D.e rfl rfl rfl ?_; (first | refine S.gskip1 rfl ?_ | refine S.gskip rfl ?_ | refine S.y (Y.gskipU rfl) ?_); refine opsS_nil ?_; refine N.tn ?_) | refine Q.dT rfl rfl rfl ?_ | refine Q.dF rfl rfl rfl ?_ | (refine D.e rfl rfl rfl ?_; (first | (refine GQ.a ?_; refine Q.al (fun b1 => ?_)) | (refine GQ.s ?_; refine Q.st ?_)); refine opsS_nil ?_; refine N.tn ?_))
      refine Q.r ?_; (repeat (intro b1; refine Q.r ?_))
      refine Q.dgo [true] [0, 4, 6, 7, 11] [] [1, 2, 3, 5, 8, 9, 10, 99999, 0, 0, 0, 0, 0] ?_
      refine Q.rd ?_; (repeat (intro b1; refine Q.rd ?_))
      refine D.yp rfl rfl rfl (Y.slT (h := k) rfl rfl rfl (by omega)) ?_
      refine Q.rd ?_; (repeat (intro b1; refine Q.rd ?_))
      refine D.yp rfl rfl rfl (Y.slFa (l := k) rfl rfl rfl hk hat) ?_
      refine Q.rd ?_; (repeat (intro b1; refine Q.rd ?_))
      refine D.two 0 6 [99999, 0, 0, 0, 0] [0, 4, 7, 11, 12] (by kernel_rfl) rfl rfl rfl rfl (by kernel_rfl) (by kernel_rfl) ?_ ?_
      · refine GQ.a ?_
        refine Q.al (fun bz => ?_)
        repeat (first | (refine GQ.y ?_; refine Q.y ?_) | refine Q.go ?_ | (refine GQ.g ?_; refine Q.gq ?_) | (refine GQ.s ?_; refine Q.st ?_))
        refine Q.rd ?_; (repeat (intro b1; refine Q.rd ?_))
        refine D.two 4 6 [6, 7, 11, 12] [4, 7, 11, 12] (by kernel_rfl) rfl rfl rfl rfl (by kernel_rfl) (by kernel_rfl) ?_ ?_
        · first | refine opsS_ent (slO_fold (sz := 2) (m := 0) rfl) ?_ | refine opsS_ent (Ent.trans (Ent.perm (.swap _ _ _)) (slO_fold (sz := 2) (m := 0) rfl)) ?_
          refine S.app0 rfl rfl rfl (SrcS.rd (RdS.take (k := k) h.sub (by omega)) (by rw [flat_take (sz := 2) (fun _ => rfl)]; exact dC_one _)) (by rfl) (by omega) (by omega) (fun a6 c6 => ?_)
          repeat (first | (refine GQ.y ?_; refine Q.y ?_) | refine Q.go ?_ | (refine GQ.g ?_; refine Q.gq ?_) | (refine GQ.s ?_; refine Q.st ?_))
          refine Q.rd ?_; (repeat (intro b1; refine Q.rd ?_))
          refine D.e rfl rfl rfl ?_
          refine S.app rfl rfl (SrcS.sl RdC.row (by rfl) (by rfl)) (by rfl) (by omega) (by omega) (fun a7 c7 => ?_)
          repeat (first | (refine GQ.y ?_; refine Q.y ?_) | refine Q.go ?_ | (refine GQ.g ?_; refine Q.gq ?_) | (refine GQ.s ?_; refine Q.st ?_))
          refine Q.rd ?_; (repeat (intro b1; refine Q.rd ?_))
          refine D.e rfl rfl rfl ?_
          refine S.app rfl rfl (SrcS.rd (RdS.fromA (l := k) h.sub (by omega) hc) (by rw [flat_drop (sz := 2) (fun _ => rfl)]; exact dC_one _)) (by rfl) (by omega) (by omega) (fun a8 c8 => ?_)
          repeat (first | (refine GQ.y ?_; refine Q.y ?_) | refine Q.go ?_ | (refine GQ.g ?_; refine Q.gq ?_) | (refine GQ.s ?_; refine Q.st ?_))
          refine Q.rd ?_; (repeat (intro b1; refine Q.rd ?_))
          refine Q.r ?_; (repeat (intro b1; refine Q.r ?_))
          exact N.r1 (RV.tmp rfl RV.nil) (by repeat (first | exact Ent.refl _ | exact Ent.nil | refine Ent.pick ?_ | refine Ent.nilS ?_ | refine Ent.nilM ?_ | refine Ent.drop ?_)) ⟨a8, c8, rfl, rfl⟩
        · refine GQ.a ?_
          refine Q.al (fun b8 => ?_)
          repeat (first | (refine GQ.y ?_; refine Q.y ?_) | refine Q.go ?_ | (refine GQ.g ?_; refine Q.gq ?_) | (refine GQ.s ?_; refine Q.st ?_))
          refine Q.rd ?_; (repeat (intro b1; refine Q.rd ?_))
          refine D.e rfl rfl rfl ?_
          first | refine opsS_ent (slO_fold (sz := 2) (m := 0) rfl) ?_ | refine opsS_ent (Ent.trans (Ent.perm (.swap _ _ _)) (slO_fold (sz := 2) (m := 0) rfl)) ?_
          refine S.app0 rfl rfl rfl (SrcS.rd (RdS.take (k := k) h.sub (by omega)) (by rw [flat_take (sz := 2) (fun _ => rfl)]; exact dC_one _)) (by rfl) (by omega) (by omega) (fun a6 c6 => ?_)
          repeat (first | (refine GQ.y ?_; refine Q.y ?_) | refine Q.go ?_ | (refine GQ.g ?_; refine Q.gq ?_) | (refine GQ.s ?_; refine Q.st ?_))
          refine Q.rd ?_; (repeat (intro b1; refine Q.rd ?_))
          refine D.e rfl rfl rfl ?_
          refine S.app rfl rfl (SrcS.sl RdC.row (by rfl) (by rfl)) (by rfl) (by omega) (by omega) (fun a7 c7 => ?_)
          repeat (first | (refine GQ.y ?_; refine Q.y ?_) | refine Q.go ?_ | (refine GQ.g ?_; refine Q.gq ?_) | (refine GQ.s ?_; refine Q.st ?_))
          refine Q.rd ?_; (repeat (intro b1; refine Q.rd ?_))
          refine D.e rfl rfl rfl ?_
          refine S.app rfl rfl (SrcS.rd (RdS.fromA (l := k) h.sub (by omega) hc) (by rw [flat_drop (sz := 2) (fun _ => rfl)]; exact dC_one _)) (by rfl) (by omega) (by omega) (fun a8 c8 => ?_)
          repeat (first | (refine GQ.y ?_; refine Q.y ?_) | refine Q.go ?_ | (refine GQ.g ?_; refine Q.gq ?_) | (refine GQ.s ?_; refine Q.st ?_))
          refine Q.rd ?_; (repeat (intro b1; refine Q.rd ?_))
          refine Q.r ?_; (repeat (intro b1; refine Q.r ?_))
          exact N.r1 (RV.tmp rfl RV.nil) (by repeat (first | exact Ent.refl _ | exact Ent.nil | refine Ent.pick ?_ | refine Ent.nilS ?_ | refine Ent.nilM ?_ | refine Ent.drop ?_)) ⟨a8, c8, rfl, rfl⟩
      · refine GQ.a ?_
        refine Q.al (fun b8 => ?_)
        repeat (first | (refine GQ.y ?_; refine Q.y ?_) | refine Q.go ?_ | (refine GQ.g ?_; refine Q.gq ?_) | (refine GQ.s ?_; refine Q.st ?_))
        refine Q.rd ?_; (repeat (intro b1; refine Q.rd ?_))
        refine D.e rfl rfl rfl ?_
        first | refine opsS_ent (slO_fold (sz := 2) (m := 0) rfl) ?_ | refine opsS_ent (Ent.trans (Ent.perm (.swap _ _ _)) (slO_fold (sz := 2) (m := 0) rfl)) ?_
        refine S.app0 rfl rfl rfl (SrcS.rd (RdS.take (k := k) h.sub (by omega)) (by rw [flat_take (sz := 2) (fun _ => rfl)]; exact dC_one _)) (by rfl) (by omega) (by omega) (fun a6 c6 => ?_)
        repeat (first | (refine GQ.y ?_; refine Q.y ?_) | refine Q.go ?_ | (refine GQ.g ?_; refine Q.gq ?_) | (refine GQ.s ?_; refine Q.st ?_))
        refine Q.rd ?_; (repeat (intro b1; refine Q.rd ?_))
        refine D.e rfl rfl rfl ?_
        refine S.app rfl rfl (SrcS.sl RdC.row (by rfl) (by rfl)) (by rfl) (by omega) (by omega) (fun a7 c7 => ?_)
        repeat (first | (refine GQ.y ?_; refine Q.y ?_) | refine Q.go ?_ | (refine GQ.g ?_; refine Q.gq ?_) | (refine GQ.s ?_; refine Q.st ?_))
        refine Q.rd ?_; (repeat (intro b1; refine Q.rd ?_))
        refine D.e rfl rfl rfl ?_
        refine S.app rfl rfl (SrcS.rd (RdS.fromA (l := k) h.sub (by omega) hc) (by rw [flat_drop (sz := 2) (fun _ => rfl)]; exact dC_one _)) (by rfl) (by omega) (by omega) (fun a8 c8 => ?_)
        repeat (first | (refine GQ.y ?_; refine Q.y ?_) | refine Q.go ?_ | (refine GQ.g ?_; refine Q.gq ?_) | (refine GQ.s ?_; refine Q.st ?_))
        refine Q.rd ?_; (repeat (intro b1; refine Q.rd ?_))
        refine Q.r ?_; (repeat (intro b1; refine Q.r ?_))
        exact N.r1 (RV.tmp rfl RV.nil) (by repeat (first | exact Ent.refl _ | exact Ent.nil | refine Ent.pick ?_ | refine Ent.nilS ?_ | refine Ent.nilM ?_ | refine Ent.drop ?_)) ⟨a8, c8, rfl, rfl⟩
    · refine Q.r ?_; (repeat (intro b1; refine Q.r ?_))
      refine D.start [] [] [0, 1, 2, 3, 4, 5, 6, 7, 8, 9, 10, 11, 12, 13] _ [] rfl (by kernel_rfl) rfl (by kernel_rfl) NoPanic.no (Ent.refl _) ?_
      repeat (first | refine Q.dyn rfl rfl rfl ?_ | refine Q.dyl rfl rfl rfl ?_ | refine D.y rfl rfl rfl (by kernel_rfl) (by first | exact (Y.ldRj rfl (by first | assumption | exact RdC.sub (by assumption)) rfl) | exact Y.guard rfl (Y.ldRj rfl (by first | assumption | exact RdC.sub (by assumption)) rfl)) ?_ | refine D.endA ?_ | refine Q.dp rfl rfl rfl ?_ | refine Q.dy rfl rfl rfl ?_ | refine D.end_ ?_ | refine Q.endH ?_ | (refine D.e rfl rfl rfl ?_; (first | refine S.gskip1 rfl ?_ | refine S.gskip rfl ?_ | refine S.y (Y.gskipU rfl) ?_); refine opsS_nil ?_; refine N.tn ?_) | refine Q.dT rfl rfl rfl ?_ | refine Q.dF rfl rfl rfl ?_ | (refine D.e rfl rfl rfl ?_; (first | (refine GQ.a ?_; refine Q.al (fun b1 => ?_)) | (refine GQ.s ?_; refine Q.st ?_)); refine opsS_nil ?_; refine N.tn ?_))
      refine Q.r ?_; (repeat (intro b1; refine Q.r ?_))
      refine Q.dgo [true] [0, 4, 6, 7, 11] [] [1, 2, 3, 5, 8, 9, 10, 99999, 0, 0, 0, 0, 0] ?_
      refine Q.rd ?_; (repeat (intro b1; refine Q.rd ?_))
      refine D.yp rfl rfl rfl (Y.slT (h := k) rfl rfl rfl (by omega)) ?_
      refine Q.rd ?_; (repeat (intro b1; refine Q.rd ?_))
      refine D.yp rfl rfl rfl (Y.slFa (l := k) rfl rfl rfl hk hat) ?_
      refine Q.rd ?_; (repeat (intro b1; refine Q.rd ?_))
      refine D.two 0 6 [99999, 0, 0, 0, 0] [0, 4, 7, 11, 12] (by kernel_rfl) rfl rfl rfl rfl (by kernel_rfl) (by kernel_rfl) ?_ ?_
      · refine GQ.a ?_
        refine Q.al (fun bz => ?_)
        repeat (first | (refine GQ.y ?_; refine Q.y ?_) | refine Q.go ?_ | (refine GQ.g ?_; refine Q.gq ?_) | (refine GQ.s ?_; refine Q.st ?_))
        refine Q.rd ?_; (repeat (intro b1; refine Q.rd ?_))
        refine D.two 4 6 [6, 7, 11, 12] [4, 7, 11, 12] (by kernel_rfl) rfl rfl rfl rfl (by kernel_rfl) (by kernel_rfl) ?_ ?_
        · first | refine opsS_ent (slO_fold (sz := 2) (m := 0) rfl) ?_ | refine opsS_ent (Ent.trans (Ent.perm (.swap _ _ _)) (slO_fold (sz := 2) (m := 0) rfl)) ?_
          refine S.app0 rfl rfl rfl (SrcS.rd (RdS.take (k := k) h.sub (by omega)) (by rw [flat_take (sz := 2) (fun _ => rfl)]; exact dC_one _)) (by rfl) (by omega) (by omega) (fun a6 c6 => ?_)
          repeat (first | (refine GQ.y ?_; refine Q.y ?_) | refine Q.go ?_ | (refine GQ.g ?_; refine Q.gq ?_) | (refine GQ.s ?_; refine Q.st ?_))
          refine Q.rd ?_; (repeat (intro b1; refine Q.rd ?_))
          refine D.e rfl rfl rfl ?_
          refine S.app rfl rfl (SrcS.sl RdC.row (by rfl) (by rfl)) (by rfl) (by omega) (by omega) (fun a7 c7 => ?_)
          repeat (first | (refine GQ.y ?_; refine Q.y ?_) | refine Q.go ?_ | (refine GQ.g ?_; refine Q.gq ?_) | (refine GQ.s ?_; refine Q.st ?_))
          refine Q.rd ?_; (repeat (intro b1; refine Q.rd ?_))
          refine D.e rfl rfl rfl ?_
          refine S.app rfl rfl (SrcS.rd (RdS.fromA (l := k) h.sub (by omega) hc) (by rw [flat_drop (sz := 2) (fun _ => rfl)]; exact dC_one _)) (by rfl) (by omega) (by omega) (fun a8 c8 => ?_)
          repeat (first | (refine GQ.y ?_; refine Q.y ?_) | refine Q.go ?_ | (refine GQ.g ?_; refine Q.gq ?_) | (refine GQ.s ?_; refine Q.st ?_))
          refine Q.rd ?_; (repeat (intro b1; refine Q.rd ?_))
          refine Q.r ?_; (repeat (intro b1; refine Q.r ?_))
          exact N.r1 (RV.tmp rfl RV.nil) (by repeat (first | exact Ent.refl _ | exact Ent.nil | refine Ent.pick ?_ | refine Ent.nilS ?_ | refine Ent.nilM ?_ | refine Ent.drop ?_)) ⟨a8, c8, rfl, rfl⟩
        · refine GQ.a ?_
          refine Q.al (fun b8 => ?_)
          repeat (first | (refine GQ.y ?_; refine Q.y ?_) | refine Q.go ?_ | (refine GQ.g ?_; refine Q.gq ?_) | (refine GQ.s ?_; refine Q.st ?_))
          refine Q.rd ?_; (repeat (intro b1; refine Q.rd ?_))
          refine D.e rfl rfl rfl ?_
          first | refine opsS_ent (slO_fold (sz := 2) (m := 0) rfl) ?_ | refine opsS_ent (Ent.trans (Ent.perm (.swap _ _ _)) (slO_fold (sz := 2) (m := 0) rfl)) ?_
          refine S.app0 rfl rfl rfl (SrcS.rd (RdS.take (k := k) h.sub (by omega)) (by rw [flat_take (sz := 2) (fun _ => rfl)]; exact dC_one _)) (by rfl) (by omega) (by omega) (fun a6 c6 => ?_)
          repeat (first | (refine GQ.y ?_; refine Q.y ?_) | refine Q.go ?_ | (refine GQ.g ?_; refine Q.gq ?_) | (refine GQ.s ?_; refine Q.st ?_))
          refine Q.rd ?_; (repeat (intro b1; refine Q.rd ?_))
          refine D.e rfl rfl rfl ?_
          refine S.app rfl rfl (SrcS.sl RdC.row (by rfl) (by rfl)) (by rfl) (by omega) (by omega) (fun a7 c7 => ?_)
          repeat (first | (refine GQ.y ?_; refine Q.y ?_) | refine Q.go ?_ | (refine GQ.g ?_; refine Q.gq ?_) | (refine GQ.s ?_; refine Q.st ?_))
          refine Q.rd ?_; (repeat (intro b1; refine Q.rd ?_))
          refine D.e rfl rfl rfl ?_
          refine S.app rfl rfl (SrcS.rd (RdS.fromA (l := k) h.sub (by omega) hc) (by rw [flat_drop (sz := 2) (fun _ => rfl)]; exact dC_one _)) (by rfl) (by omega) (by omega) (fun a8 c8 => ?_)
          repeat (first | (refine GQ.y ?_; refine Q.y ?_) | refine Q.go ?_ | (refine GQ.g ?_; refine Q.gq ?_) | (refine GQ.s ?_; refine Q.st ?_))
          refine Q.rd ?_; (repeat (intro b1; refine Q.rd ?_))
          refine Q.r ?_; (repeat (intro b1; refine Q.r ?_))
          exact N.r1 (RV.tmp rfl RV.nil) (by repeat (first | exact Ent.refl _ | exact Ent.nil | refine Ent.pick ?_ | refine Ent.nilS ?_ | refine Ent.nilM ?_ | refine Ent.drop ?_)) ⟨a8, c8, rfl, rfl⟩
      · refine GQ.a ?_
        refine Q.al (fun b8 => ?_)
        repeat (first | (refine GQ.y ?_; refine Q.y ?_) | refine Q.go ?_ | (refine GQ.g ?_; refine Q.gq ?_) | (refine GQ.s ?_; refine Q.st ?_))
        refine Q.rd ?_; (repeat (intro b1; refine Q.rd ?_))
        refine D.e rfl rfl rfl ?_
        first | refine opsS_ent (slO_fold (sz := 2) (m := 0) rfl) ?_ | refine opsS_ent (Ent.trans (Ent.perm (.swap _ _ _)) (slO_fold (sz := 2) (m := 0) rfl)) ?_
        refine S.app0 rfl rfl rfl (SrcS.rd (RdS.take (k := k) h.sub (by omega)) (by rw [flat_take (sz := 2) (fun _ => rfl)]; exact dC_one _)) (by rfl) (by omega) (by omega) (fun a6 c6 => ?_)
        repeat (first | (refine GQ.y ?_; refine Q.y ?_) | refine Q.go ?_ | (refine GQ.g ?_; refine Q.gq ?_) | (refine GQ.s ?_; refine Q.st ?_))
        refine Q.rd ?_; (repeat (intro b1; refine Q.rd ?_))
        refine D.e rfl rfl rfl ?_
        refine S.app rfl rfl (SrcS.sl RdC.row (by rfl) (by rfl)) (by rfl) (by omega) (by omega) (fun a7 c7 => ?_)
        repeat (first | (refine GQ.y ?_; refine Q.y ?_) | refine Q.go ?_ | (refine GQ.g ?_; refine Q.gq ?_) | (refine GQ.s ?_; refine Q.st ?_))
        refine Q.rd ?_; (repeat (intro b1; refine Q.rd ?_))
        refine D.e rfl rfl rfl ?_
        refine S.app rfl rfl (SrcS.rd (RdS.fromA (l := k) h.sub (by omega) hc) (by rw [flat_drop (sz := 2) (fun _ => rfl)]; exact dC_one _)) (by rfl) (by omega) (by omega) (fun a8 c8 => ?_)
        repeat (first | (refine GQ.y ?_; refine Q.y ?_) | refine Q.go ?_ | (refine GQ.g ?_; refine Q.gq ?_) | (refine GQ.s ?_; refine Q.st ?_))
        refine Q.rd ?_; (repeat (intro b1; refine Q.rd ?_))
        refine Q.r ?_; (repeat (intro b1; refine Q.r ?_))
        exact N.r1 (RV.tmp rfl RV.nil) (by repeat (first | exact Ent.refl _ | exact Ent.nil | refine Ent.pick ?_ | refine Ent.nilS ?_ | refine Ent.nilM ?_ | refine Ent.drop ?_)) ⟨a8, c8, rfl, rfl⟩
end Go.Proofs.YtjidejcehmamkaaGreatDoor
namespace Go.Proofs.YtjidejcehmamkaaGreatDoor
open Go Go.SX
attribute [local irreducible] swp opsS thenS blockS retS CallsS St Ent YieldS anyS drawS
set_option maxHeartbeats 2000000 in
theorem SameHitsN_spec (a : Option Addr) (c : Nat) (xs : List HV) (a' : Option Addr) (c' : Nat) (ys : List HV) (A : List HP) (h : RdS A a xs.length 3 (xs.flatMap HV.cells) ∧ ∀ o ∈ xs, RdS A o.a o.vec.length 1 (o.vec.map I32)) (h' : RdS A a' ys.length 3 (ys.flatMap HV.cells) ∧ ∀ o ∈ ys, RdS A o.a o.vec.length 1 (o.vec.map I32)) (hn : xs.length ≤ 1000000) (hv : ∀ o ∈ xs, o.vec.length ≤ 1000000) (he : xs.map HV.abs = ys.map HV.abs) :
    CallsS Tryz.prog 105 [.slice a xs.length c, .slice a' ys.length c'] A (fun v L' => v = .bool true ∧ L' = A) := by
  have hl : ys.length = xs.length := by
    have := congrArg List.length he
    simp at this; omega
  refine CallsS.of_body Tryz.func105 rfl rfl rfl ?_
  refine Q.r ?_; (repeat (intro b1; refine Q.r ?_))
  refine swp_loop (σ := Nat) (fun k => [(0, .slice a xs.length c), (1, .slice a' ys.length c'), (12, .int .i64 xs.length), (13, .int .i64 k)]) (fun _ => A)
    (fun k => k ≤ xs.length) (fun k => xs.length - k) 0 ⟨rfl, rfl, rfl, rfl, trivial⟩ (Ent.refl _) (by omega) ?_
  intro k hk
  by_cases hlt : k < xs.length
  · obtain ⟨x, hx⟩ := mem_get hlt
    obtain ⟨y, hy⟩ := mem_get (l := ys) (k := k) (by omega)
    have hxy : x.abs = y.abs := by
      have h1 : (xs.map HV.abs)[k]? = some x.abs := by simp [hx]
      have h2 : (ys.map HV.abs)[k]? = some y.abs := by simp [hy]
      rw [he, h2] at h1
      exact (Option.some.inj h1).symm
    have hid : x.id = y.id := congrArg Prod.fst hxy
    have hds : x.dist = y.dist := congrArg (fun z => z.2.1) hxy
    have hvc : x.vec = y.vec := congrArg (fun z => z.2.2) hxy
    have hmx : x ∈ xs := List.mem_of_getElem? hx
    have hmy : y ∈ ys := List.mem_of_getElem? hy
    have hrx := h.2 x hmx
    have hry := h'.2 y hmy
    have hvx := hv x hmx
    obtain ⟨b, o, rfl, hr⟩ := RdS.elem (g := HV.cells) (l := xs) (fun _ => rfl) h.1 hx rfl
    obtain ⟨b', o', rfl, hr'⟩ := RdS.elem (g := HV.cells) (l := ys) (fun _ => rfl) h'.1 hy rfl
    clear hx hy hmx hmy hxy he
    obtain ⟨xi, xd, xa, xc, xv⟩ := x
    obtain ⟨yi, yd, ya, yc, yv⟩ := y
    dsimp only at hid hds hvc hrx hry hvx
    subst hid hds hvc
    replace hr : RdC A b (o + k * 3) [.int .u64 xi, .int .u64 xd, .slice xa xv.length xc] := hr
    replace hr' : RdC A b' (o' + k * 3) [.int .u64 xi, .int .u64 xd, .slice ya xv.length yc] := hr'
    refine Q.r ?_; (repeat (intro b1; refine Q.r ?_))
    refine D.start [35] [35] [0, 1, 2, 3, 4, 5, 6, 7, 8, 9, 10, 11, 12, 13, 14, 15, 16, 17, 18, 19, 20, 21, 22, 23, 24, 25, 26, 27, 28, 29, 30, 31, 32, 33, 34, 35, 36, 37] _ [] rfl (by kernel_rfl) rfl (by kernel_rfl) NoPanic.no (Ent.refl _) ?_
    repeat (first | refine Q.dyn rfl rfl rfl ?_ | refine Q.dyl rfl rfl rfl ?_ | refine D.y rfl rfl rfl (by kernel_rfl) (by first | exact (Y.ldRj rfl (by first | assumption | exact RdC.sub (by assumption)) rfl) | exact Y.guard rfl (Y.ldRj rfl (by first | assumption | exact RdC.sub (by assumption)) rfl)) ?_ | refine D.endA ?_ | refine Q.dp rfl rfl rfl ?_ | refine Q.dy rfl rfl rfl ?_ | refine D.end_ ?_ | refine Q.endH ?_ | (refine D.e rfl rfl rfl ?_; (first | refine S.gskip1 rfl ?_ | refine S.gskip rfl ?_ | refine S.y (Y.gskipU rfl) ?_); refine opsS_nil ?_; refine N.tn ?_) | refine Q.dT rfl rfl rfl ?_ | refine Q.dF rfl rfl rfl ?_ | (refine D.e rfl rfl rfl ?_; (first | (refine GQ.a ?_; refine Q.al (fun b1 => ?_)) | (refine GQ.s ?_; refine Q.st ?_)); refine opsS_nil ?_; refine N.tn ?_))
    refine Q.dF rfl rfl rfl ?_ (by simp)
    repeat (first | refine Q.dyn rfl rfl rfl ?_ | refine Q.dyl rfl rfl rfl ?_ | refine D.y rfl rfl rfl (by kernel_rfl) (by first | exact (Y.ldRj rfl (by first | assumption | exact RdC.sub (by assumption)) rfl) | exact Y.guard rfl (Y.ldRj rfl (by first | assumption | exact RdC.sub (by assumption)) rfl)) ?_ | refine D.endA ?_ | refine Q.dp rfl rfl rfl ?_ | refine Q.dy rfl rfl rfl ?_ | refine D.end_ ?_ | refine Q.endH ?_ | (refine D.e rfl rfl rfl ?_; (first | refine S.gskip1 rfl ?_ | refine S.gskip rfl ?_ | refine S.y (Y.gskipU rfl) ?_); refine opsS_nil ?_; refine N.tn ?_) | refine Q.dT rfl rfl rfl ?_ | refine Q.dF rfl rfl rfl ?_ | (refine D.e rfl rfl rfl ?_; (first | (refine GQ.a ?_; refine Q.al (fun b1 => ?_)) | (refine GQ.s ?_; refine Q.st ?_)); refine opsS_nil ?_; refine N.tn ?_))
    refine Q.dF rfl rfl rfl ?_ (by simp)
    repeat (first | refine Q.dyn rfl rfl rfl ?_ | refine Q.dyl rfl rfl rfl ?_ | refine D.y rfl rfl rfl (by kernel_rfl) (by first | exact (Y.ldRj rfl (by first | assumption | exact RdC.sub (by assumption)) rfl) | exact Y.guard rfl (Y.ldRj rfl (by first | assumption | exact RdC.sub (by assumption)) rfl)) ?_ | refine D.endA ?_ | refine Q.dp rfl rfl rfl ?_ | refine Q.dy rfl rfl rfl ?_ | refine D.end_ ?_ | refine Q.endH ?_ | (refine D.e rfl rfl rfl ?_; (first | refine S.gskip1 rfl ?_ | refine S.gskip rfl ?_ | refine S.y (Y.gskipU rfl) ?_); refine opsS_nil ?_; refine N.tn ?_) | refine Q.dT rfl rfl rfl ?_ | refine Q.dF rfl rfl rfl ?_ | (refine D.e rfl rfl rfl ?_; (first | (refine GQ.a ?_; refine Q.al (fun b1 => ?_)) | (refine GQ.s ?_; refine Q.st ?_)); refine opsS_nil ?_; refine N.tn ?_))
    refine Q.dc rfl rfl rfl rfl ?_
    rw [List.append_nil]
    refine S.guard rfl ?_
    refine S.cr rfl (SameVec_spec xa xc xv ya yc xv _ hrx.sub hry.sub (by omega)) ?_
    rintro _ _ ⟨rfl, he⟩
    rw [he]
    clear he
    refine Q.r ?_; (repeat (intro b1; refine Q.r ?_))
    repeat (first | refine Q.dyn rfl rfl rfl ?_ | refine Q.dyl rfl rfl rfl ?_ | refine D.y rfl rfl rfl (by kernel_rfl) (by first | exact (Y.ldRj rfl (by first | assumption | exact RdC.sub (by assumption)) rfl) | exact Y.guard rfl (Y.ldRj rfl (by first | assumption | exact RdC.sub (by assumption)) rfl)) ?_ | refine D.endA ?_ | refine Q.dp rfl rfl rfl ?_ | refine Q.dy rfl rfl rfl ?_ | refine D.end_ ?_ | refine Q.endH ?_ | (refine D.e rfl rfl rfl ?_; (first | refine S.gskip1 rfl ?_ | refine S.gskip rfl ?_ | refine S.y (Y.gskipU rfl) ?_); refine opsS_nil ?_; refine N.tn ?_) | refine Q.dT rfl rfl rfl ?_ | refine Q.dF rfl rfl rfl ?_ | (refine D.e rfl rfl rfl ?_; (first | (refine GQ.a ?_; refine Q.al (fun b1 => ?_)) | (refine GQ.s ?_; refine Q.st ?_)); refine opsS_nil ?_; refine N.tn ?_))
    refine Q.r ?_; (repeat (intro b1; refine Q.r ?_))
    exact ⟨k + 1, ⟨rfl, rfl, rfl, rfl, trivial⟩, Ent.refl _, by omega, by omega⟩
  · have hke : k = xs.length := by omega
    subst hke
    refine Q.r ?_; (repeat (intro b1; refine Q.r ?_))
    exact N.r1 (RV.tmp rfl RV.nil) (Ent.refl _) ⟨rfl, rfl⟩
theorem okmap {α β : Type} {f : α → β} {xs ys : List α} (he : xs.map f = ys.map f) {k : Nat} {x y : α} (hx : xs[k]? = some x) (hy : ys[k]? = some y) : f x = f y := by
  have h1 : (xs.map f)[k]? = some (f x) := by simp [hx]
  have h2 : (ys.map f)[k]? = some (f y) := by simp [hy]
  rw [he, h2] at h1
  exact (Option.some.inj h1).symm
set_option maxHeartbeats 4000000 in
theorem Same12_spec (n m : NV) (A : List HP) (h : RdN A n) (h' : RdN A m) (hk : OkN n) (hk' : OkN m) (he : n.abs = m.abs) :
    CallsS Tryz.prog 36 [n.val, m.val] A (fun r L' => r = .bool true ∧ L' = A) := by
  obtain ⟨x0, x1, x2, x3, x4, x5, x6, x7, x8, x9, x10, x11, pa, pc, ps, oa, oc, os, va, vc, vs, ha, hc, hs⟩ := n
  obtain ⟨y0, y1, y2, y3, y4, y5, y6, y7, y8, y9, y10, y11, pa', pc', ps', oa', oc', os', va', vc', vs', ha', hc', hs'⟩ := m
  simp only [NA.mk.injEq] at he
  obtain ⟨rfl, rfl, rfl, rfl, rfl, rfl, rfl, rfl, rfl, rfl, rfl, rfl, rfl, ho, rfl, hh⟩ := he
  have p1 := hk.p
  dsimp only at p1
  refine CallsS.of_body Tryz.func36 rfl rfl rfl ?_
  refine Q.r ?_; (repeat (intro b1; refine Q.r ?_))
  rename_i b0
  refine swp_cutB (σ := Unit) (fun _ => [(2, .pointer (some ⟨b0, 0, none⟩)), (3, .pointer (some ⟨b1, 0, none⟩))])
    (fun _ => pt b1 (cl (NV.cells ⟨x0, x1, x2, x3, x4, x5, x6, x7, x8, x9, x10, x11, pa', pc', ps, oa', oc', os', va', vc', vs, ha', hc', hs'⟩) 36) :: pt b0 (cl (NV.cells ⟨x0, x1, x2, x3, x4, x5, x6, x7, x8, x9, x10, x11, pa, pc, ps, oa, oc, os, va, vc, vs, ha, hc, hs⟩) 36) :: A) (fun _ => True) ?_ ?_
  · refine swp_loop (σ := Nat) (fun k => [(2, .pointer (some ⟨b0, 0, none⟩)), (3, .pointer (some ⟨b1, 0, none⟩)), (99, .int .i64 ps.length), (100, .int .i64 k)])
      (fun _ => pt b1 (cl (NV.cells ⟨x0, x1, x2, x3, x4, x5, x6, x7, x8, x9, x10, x11, pa', pc', ps, oa', oc', os', va', vc', vs, ha', hc', hs'⟩) 36) :: pt b0 (cl (NV.cells ⟨x0, x1, x2, x3, x4, x5, x6, x7, x8, x9, x10, x11, pa, pc, ps, oa, oc, os, va, vc, vs, ha, hc, hs⟩) 36) :: A)
      (fun k => k ≤ ps.length) (fun k => ps.length - k) 0 ⟨rfl, rfl, rfl, rfl, trivial⟩ (Ent.refl _) (by omega) ?_
    intro k hk1
    by_cases hlt : k < ps.length
    · obtain ⟨p, hp⟩ := mem_get hlt
      have hp1 : RdS A pa ps.length 1 (ps.map I64) := h.p
      have hp2 : RdS A pa' ps.length 1 (ps.map I64) := h'.p
      obtain ⟨bp, op, hpa, hr⟩ := RdS.elem (g := fun z => [I64 z]) (fun _ => rfl) (by rw [flat_I64]; exact hp1) hp rfl
      obtain ⟨bq, oq, hqa, hr2⟩ := RdS.elem (g := fun z => [I64 z]) (fun _ => rfl) (by rw [flat_I64]; exact hp2) hp rfl
      clear hp1 hp2
      subst hpa hqa
      refine Q.r ?_; (repeat (intro b1; refine Q.r ?_))
      refine D.start [] [] [0, 1, 2, 3, 4, 5, 6, 7, 8, 9, 10] _ [] rfl (by kernel_rfl) rfl (by kernel_rfl) NoPanic.no (Ent.refl _) ?_
      repeat (first | refine Q.dyn rfl rfl rfl ?_ | refine Q.dyl rfl rfl rfl ?_ | refine D.y rfl rfl rfl (by kernel_rfl) (by first | exact (Y.ldRj rfl (by first | assumption | exact RdC.sub (by assumption)) rfl) | exact Y.guard rfl (Y.ldRj rfl (by first | assumption | exact RdC.sub (by assumption)) rfl)) ?_ | refine D.endA ?_ | refine Q.dp rfl rfl rfl ?_ | refine Q.dy rfl rfl rfl ?_ | refine D.end_ ?_ | refine Q.endH ?_ | (refine D.e rfl rfl rfl ?_; (first | refine S.gskip1 rfl ?_ | refine S.gskip rfl ?_ | refine S.y (Y.gskipU rfl) ?_); refine opsS_nil ?_; refine N.tn ?_) | refine Q.dT rfl rfl rfl ?_ | refine Q.dF rfl rfl rfl ?_ | (refine D.e rfl rfl rfl ?_; (first | (refine GQ.a ?_; refine Q.al (fun b1 => ?_)) | (refine GQ.s ?_; refine Q.st ?_)); refine opsS_nil ?_; refine N.tn ?_))
      refine Q.r ?_; (repeat (intro b1; refine Q.r ?_))
      exact ⟨k + 1, ⟨rfl, rfl, rfl, rfl, trivial⟩, Ent.refl _, by omega, by omega⟩
    · have hke : k = ps.length := by omega
      subst hke
      refine Q.r ?_; (repeat (intro b1; refine Q.r ?_))
      exact ⟨(), ⟨rfl, rfl, trivial⟩, Ent.refl _, trivial⟩
  · rintro _ _
    refine Q.r ?_; (repeat (intro b1; refine Q.r ?_))
    refine S.cr rfl (SameOps_spec oa oc os oa' oc' os' _ (RdO.sub h.o) (RdO.sub h'.o) hk.o hk.ov ho) ?_
    rintro _ _ ⟨rfl, rfl⟩
    refine Q.r ?_; (repeat (intro b1; refine Q.r ?_))
    refine S.cr rfl (SameVec_spec va vc vs va' vc' vs _ (RdS.sub h.v) (RdS.sub h'.v) (by have := hk.v; dsimp only at this; omega)) ?_
    rintro _ _ ⟨rfl, rfl⟩
    rw [decide_eq_true rfl]
    refine Q.r ?_; (repeat (intro b1; refine Q.r ?_))
    refine S.cr rfl (SameHitsN_spec ha hc hs ha' hc' hs' _ ⟨RdS.sub h.h, fun o ho => RdS.sub (h.hv o ho)⟩ ⟨RdS.sub h'.h, fun o ho => RdS.sub (h'.hv o ho)⟩ hk.h hk.hv hh) ?_
    rintro _ _ ⟨rfl, rfl⟩
    refine Q.r ?_; (repeat (intro b1; refine Q.r ?_))
    exact N.r1 (RV.tmp rfl RV.nil) (Ent.drop (Ent.drop (Ent.refl _))) ⟨rfl, rfl⟩
abbrev mcells (m : Int × NV) : List Value := I64 m.1 :: m.2.cells
end Go.Proofs.YtjidejcehmamkaaGreatDoor
namespace Go.SX
open Go
section
variable {P : Program} {n : Nat} {ops rest : List Oper} {cd : Code} {Q : Post} {f : Env} {L L0 L1 L2 : List HP} {d : Tmp} {ty : TypeId} {pos : String} {af : Array Edge} {A B C : HP} {g : FuncId} {xs : Array Operand} {ats : Array TypeId} {args : List Value} {R : Value → List HP → Prop}
theorem S.c1 [he : Enters P g] (hx : argsL f xs.toList = some args) (hc : CallsS P g args (A :: L0) R) [h1 : Pick A L L0] (hk : ∀ v L', R v L' → opsS P n ops rest Q (upd f d v) L') :
    opsS P n ops (⟨some d, .call ⟨.value (.func g), xs, ats⟩, ty, pos, af, none⟩ :: rest) Q f L := opsS_ent h1.ent (S.cr hx hc hk)
theorem S.c2 [he : Enters P g] (hx : argsL f xs.toList = some args) (hc : CallsS P g args (A :: B :: L1) R) [h1 : Pick A L L0] [h2 : Pick B L0 L1] (hk : ∀ v L', R v L' → opsS P n ops rest Q (upd f d v) L') :
    opsS P n ops (⟨some d, .call ⟨.value (.func g), xs, ats⟩, ty, pos, af, none⟩ :: rest) Q f L := opsS_ent (h1.ent.trans h2.ent.cons) (S.cr hx hc hk)
theorem S.c3 [he : Enters P g] (hx : argsL f xs.toList = some args) (hc : CallsS P g args (A :: B :: C :: L2) R) [h1 : Pick A L L0] [h2 : Pick B L0 L1] [h3 : Pick C L1 L2] (hk : ∀ v L', R v L' → opsS P n ops rest Q (upd f d v) L') :
    opsS P n ops (⟨some d, .call ⟨.value (.func g), xs, ats⟩, ty, pos, af, none⟩ :: rest) Q f L := opsS_ent (h1.ent.trans (h2.ent.trans h3.ent.cons).cons) (S.cr hx hc hk)
end
end Go.SX
namespace Go.Proofs.YtjidejcehmamkaaGreatDoor
open Go Go.SX
attribute [local irreducible] swp opsS thenS blockS retS CallsS St Ent YieldS anyS drawS
abbrev qR : HP := slO 36 16 none 0 0 []
abbrev qM : HP := slO 135 17 none 0 0 []
def liftQ (n : NV) (r : NA) : NV := if r.kind = 12 then ⟨12, n.txn, 0, 0, n.after, 0, 0, 0, 0, 0, 0, 0, n.pa, n.pc, n.parts, n.oa, n.oc, n.ops, none, 0, [], none, 0, []⟩ else r.nv
def planQ (n : NV) (p : Nat) (j : JS) (pl : PA) (L : List HP) (r : Value) (L' : List HP) : Prop := ∃ (ra : Option Addr) (rc : Nat) (ma : Option Addr) (mc : Nat) (ea : Option Addr) (ec : Nat),
  r = .agg #[.slice ra pl.rec_.length rc, .slice ma pl.mail.length mc, .slice ea pl.els.length ec] ∧
  L' = slO 36 16 ra pl.rec_.length rc (pl.rec_.flatMap fun r => (liftQ n r).cells) :: slO 135 17 ma pl.mail.length mc (pl.mail.flatMap mailC) :: slO 135 17 ea pl.els.length ec (pl.els.flatMap mailC) :: rjH p j :: L
theorem Rvote_spec (t c : Int) (L : List HP) :
    CallsS Tryz.prog 100 [.int .u64 t, .int .i64 c] L (fun r L' => r = .agg (mailC (voteN t c)).toArray ∧ L' = L) := by
  refine CallsS.of_body Tryz.func100 rfl rfl rfl ?_
  refine Q.r ?_; (repeat (intro b1; refine Q.r ?_))
  exact N.r1 (by apply RV.cellN; rfl; exact RdC.row; rfl; exact RV.nil) (Ent.drop (Ent.refl _)) ⟨rfl, rfl⟩
theorem taken_ref {is : List IV} {st : VS} (hp : (is.map IV.abs).Perm st.its) (ops : List OV) : takenV st (ops.map OV.abs) = is.any fun i => ops.any fun o => holdsV (i.ops.map OV.abs) o.id := by
  unfold takenV
  rw [← hp.any_eq, List.any_map]
  congr 1; funext i
  rw [Bool.eq_iff_iff]
  simp only [Function.comp, List.any_eq_true, List.any_map, holdsV, decide_eq_true_eq]
  constructor
  · rintro ⟨x, hx, o, ho, h⟩; exact ⟨o, ho, x, hx, h.symm⟩
  · rintro ⟨o, ho, x, hx, h⟩; exact ⟨x, hx, o, ho, h.symm⟩
theorem rjc {p v : Nat} {sf : Int} {M Mv : Nat → Option Obj} {j : JS} {pa : Option Addr} {pc : Nat} {ps : List QV} {da : Option Addr} {dc : Nat} {ds : List (Int × Int)} {a a' : Option Addr} {c c' : Nat} {es : List EV} {is : List IV} {L L0 L1 L2 L3 : List HP} [h1 : Pick (rjP p sf v pa ps pc da ds dc) L L0] [h2 : Pick (rP v j.v.dim a es c a' is c' j.v.mark) L0 L1] [h3 : Pick (roM Mv) L1 L2] [h4 : Pick (roM M) L2 L3]
    (hq : RJOK M j sf pa pc ps da dc ds) (hok : ROK Mv j.v a c es a' c' is) : Ent L (rjH p j :: L3) := by
  refine Ent.trans (h1.ent.trans (Ent.cons (h2.ent.trans (Ent.cons (h3.ent.trans (Ent.cons h4.ent)))))) ?_
  refine Ent.trans (Ent.cons (ref_shut (L := roM M :: L3) hok)) ?_
  exact rj_shut hq
theorem above_ref {st : VS} {n : Nat} (hw : WFK st n) (hne : ∀ c ∈ st.ch, 0 < c.2.length) (s : Int) (ops : VL) : aboveV st s ops = !ops.any fun o => (chV st.ch o.1).any fun v => decide (s ≤ v.1) := by
  unfold aboveV
  congr 1
  rw [Bool.eq_iff_iff]
  simp only [List.any_eq_true, Bool.and_eq_true, decide_eq_true_eq, holdsV]
  constructor
  · rintro ⟨c, hc, hs, o, ho, hoc⟩
    have hlk : lkL st.ch c.1 = some c.2 := (lkL_iff hw.k1).2 hc
    have h1 := hne c hc
    refine ⟨o, ho, ?_⟩
    unfold chV
    rw [hoc, hlk, Option.getD_some]
    refine ⟨c.2[c.2.length - 1], List.getElem_mem _, ?_⟩
    unfold lastS at hs
    rw [List.getLast?_eq_getElem?, List.getElem?_eq_getElem (by omega)] at hs
    exact hs
  · rintro ⟨o, ho, v, hv, hs⟩
    unfold chV at hv
    cases hz : lkL st.ch o.1 with
    | none => rw [hz] at hv; cases hv
    | some w =>
      rw [hz, Option.getD_some] at hv
      have hm := lk_memL hz
      have hl := sorted_last (hw.wf.co _ hm).1 v hv
      exact ⟨_, hm, Int.le_trans hs hl, o, ho, rfl⟩
set_option maxHeartbeats 8000000 in
theorem RDo_spec (n : NV) (p : Nat) (j : JS) (k : Nat) (fr : Int) (M0 : Nat → Option Obj) (L : List HP) (hj : JOW j k) (hk : k ≤ 10000) (hn : okN M0 n) (hN : OkN n) (hoc : n.ops.length ≤ n.oc) (u : NumA n.abs) :
    CallsS Tryz.prog 33 [.pointer (some ⟨p, 0, none⟩), .int .i64 fr, n.val] (rjH p j :: roM M0 :: L) (planQ n p j (planV j fr n.abs) (roM M0 :: L)) := by
  have hdl : j.done.length ≤ 10000 := Nat.le_trans hj.dl hk
  have hil : j.v.its.length ≤ 10000 := Nat.le_trans hj.w.wf.il hk
  have hcl : j.v.ch.length ≤ 160000 := by have := hj.w.wf.cl; omega
  have hd1 := hj.w.wf.d1
  have hd2 := hj.w.wf.d2
  have hno1 := hN.o
  unfold planV
  refine CallsS.of_body Tryz.func33 rfl rfl rfl ?_
  refine Q.r ?_; (repeat (intro b1; refine Q.r ?_))
  rename_i b0
  revert b1
  intro bp
  refine S.cr rfl (Right12_spec n _ hn.rd hN u) ?_
  rintro _ _ ⟨rfl, rfl⟩
  cases hr : rightN n.abs with
  | false =>
    rw [if_pos rfl]
    refine Q.r ?_; (repeat (intro b1; refine Q.r ?_))
    refine N.r1 (by apply RV.cellN; rfl; exact RdC.row; rfl; exact RV.nil) ?_ ⟨none, 0, none, 0, none, 0, rfl, rfl⟩
    show Ent _ (qR :: qM :: qM :: rjH p j :: roM M0 :: L)
    repeat (first | exact Ent.refl _ | exact Ent.nil | refine Ent.pick ?_ | refine Ent.nilS ?_ | refine Ent.nilM ?_ | refine Ent.drop ?_)
  | true =>
  rw [if_neg (by decide)]
  refine Q.r ?_; (repeat (intro b1; refine Q.r ?_))
  refine swp_rj p (fun v sf M pa pc ps da dc ds hq => ?_)
  refine swp_ref v (fun Mv a c es a' c' is hok => ?_)
  have hdl2 : ds.length ≤ 10000 := by rw [hq.dp.length_eq]; exact hdl
  have hil2 : is.length ≤ 10000 := by rw [hok.len.1]; exact hil
  have hel2 : es.length ≤ 160000 := by rw [hok.len.2]; exact hcl
  have hopl : ∀ i ∈ is, i.ops.length ≤ 16 := fun i hi => by
    have := (hj.w.wf.io i.abs (hok.its.mem_iff.1 (List.mem_map_of_mem (f := IV.abs) hi))).1
    simpa using this
  refine Q.dgo [false, false, true, false, true, true] [6] [] [0, 1, 2, 3, 4, 5, 6, 7] ?_
  refine Q.rd ?_; (repeat (intro b1; refine Q.rd ?_))
  refine D.e rfl rfl rfl ?_
  refine S.cr rfl (Find_spec v j.v.dim a es c a' is c' j.v.mark n.txn Mv _ hok.sI (by omega)) ?_
  rintro w _ ⟨hv, rfl⟩
  obtain ⟨z, rfl, hz⟩ : ∃ z, w = .int .i64 z ∧ ((∃ (ki : Nat) (i : IV), z = (ki : Int) ∧ is[ki]? = some i ∧ i.txn = n.txn ∧ lkL j.v.its n.txn = some (i.after, i.ops.map OV.abs)) ∨ (z = -1 ∧ lkL j.v.its n.txn = none)) := by
    rcases hv with ⟨ki, i, rfl, hi, hit⟩ | ⟨rfl, hno⟩
    · exact ⟨_, rfl, .inl ⟨ki, i, rfl, hi, hit, by rw [← hit]; exact hok.hasT hi⟩⟩
    · exact ⟨_, rfl, .inr ⟨rfl, hok.noT hno⟩⟩
  clear hv
  refine Q.r ?_; (repeat (intro b1; refine Q.r ?_))
  refine Q.rd ?_; (repeat (intro b1; refine Q.rd ?_))
  refine Q.r ?_; (repeat (intro b1; refine Q.r ?_))
  refine S.c2 rfl (FindD_spec p v sf pa ps pc da ds dc n.txn M _ hq.dS (by omega)) ?_
  rintro _ _ ⟨rfl, rfl⟩
  rw [hq.lk]
  by_cases h3 : n.kind = 3
  · rw [if_pos h3]
    by_cases hf : fr = 0
    · rw [if_pos hf]
      unfold prepV
      cases hd : lkL j.done n.txn with
      | some s =>
        have hs := hj.p _ _ hd
        rw [if_pos (.inl rfl)]
        dsimp only [Option.getD_some]
        refine Q.r ?_; (repeat (intro b1; refine Q.r ?_))
        refine Q.dgo [true, false, true, true, true] [12] [] [0, 1, 2, 3, 4, 5, 6, 7, 8, 9, 10, 11, 12, 13, 14] ?_
        refine Q.rd ?_; (repeat (intro b1; refine Q.rd ?_))
        refine Q.r ?_; (repeat (intro b1; refine Q.r ?_))
        refine N.r1 (by apply RV.cellN; rfl; exact RdC.row; rfl; exact RV.nil) ?_ ⟨none, 0, none, 0, none, 0, rfl, rfl⟩; show Ent _ (qR :: qM :: qM :: rjH p j :: roM M0 :: L); refine Ent.trans (rjc (p := p) (v := v) (sf := sf) (pa := pa) (pc := pc) (ps := ps) (da := da) (dc := dc) (ds := ds) (a := a) (a' := a') (c := c) (c' := c') (es := es) (is := is) hq hok) ?_; repeat (first | exact Ent.refl _ | exact Ent.nil | refine Ent.pick ?_ | refine Ent.nilS ?_ | refine Ent.nilM ?_ | refine Ent.drop ?_)
      | none =>
        dsimp only [Option.getD_none]
        refine Q.r ?_; (repeat (intro b1; refine Q.r ?_))
        refine Q.dgo [true, false, true, true, true] [12] [] [0, 1, 2, 3, 4, 5, 6, 7, 8, 9, 10, 11, 12, 13, 14] ?_
        refine Q.rd ?_; (repeat (intro b1; refine Q.rd ?_))
        refine D.e rfl rfl rfl ?_
        refine S.guard rfl ?_
        refine S.cr rfl (RCheck_spec j.v.dim n.oa n.oc n.ops _ hn.rd.o hoc hN.o hN.ov (by omega)) ?_
        rintro _ _ ⟨rfl, rfl⟩
        by_cases hc : checkV j.v.dim (n.ops.map OV.abs) ≠ 0
        · rw [if_pos (.inr hc)]
          refine Q.r ?_; (repeat (intro b1; refine Q.r ?_))
          refine Q.rd ?_; (repeat (intro b1; refine Q.rd ?_))
          refine Q.r ?_; (repeat (intro b1; refine Q.r ?_))
          refine N.r1 (by apply RV.cellN; rfl; exact RdC.row; rfl; exact RV.nil) ?_ ⟨none, 0, none, 0, none, 0, rfl, rfl⟩; show Ent _ (qR :: qM :: qM :: rjH p j :: roM M0 :: L); refine Ent.trans (rjc (p := p) (v := v) (sf := sf) (pa := pa) (pc := pc) (ps := ps) (da := da) (dc := dc) (ds := ds) (a := a) (a' := a') (c := c) (c' := c') (es := es) (is := is) hq hok) ?_; repeat (first | exact Ent.refl _ | exact Ent.nil | refine Ent.pick ?_ | refine Ent.nilS ?_ | refine Ent.nilM ?_ | refine Ent.drop ?_)
        rw [if_neg (by rintro (h | h); cases h; exact hc h)]
        have hc := Decidable.not_not.1 hc
        rcases hz with ⟨ki, i, rfl, hi, hit, hlk⟩ | ⟨rfl, hlk⟩
        · have hsm : (lkL j.v.its n.txn).isSome = true := by rw [hlk]; rfl
          rw [if_pos hsm]
          refine Q.r ?_; (repeat (intro b1; refine Q.r ?_))
          refine Q.rd ?_; (repeat (intro b1; refine Q.rd ?_))
          refine Q.r ?_; (repeat (intro b1; refine Q.r ?_))
          refine S.cr rfl (Rvote_spec n.txn 0 _) ?_
          rintro _ _ ⟨rfl, rfl⟩
          refine Q.r ?_; (repeat (intro b1; refine Q.r ?_))
          refine N.r1 (by apply RV.cellN; rfl; exact RdC.row; rfl; exact RV.nil) ?_ ⟨none, 0, some ⟨b1, 0, none⟩, 1, none, 0, rfl, rfl⟩; show Ent _ (qR :: slO 135 17 (some ⟨b1, 0, none⟩) 1 1 (mailC (voteN n.txn 0)) :: qM :: rjH p j :: roM M0 :: L); refine Ent.nilS ?_; refine Ent.trans ?_ (slO_fold rfl); refine Ent.trans (rjc (p := p) (v := v) (sf := sf) (pa := pa) (pc := pc) (ps := ps) (da := da) (dc := dc) (ds := ds) (a := a) (a' := a') (c := c) (c' := c') (es := es) (is := is) hq hok) ?_; repeat (first | exact Ent.refl _ | exact Ent.nil | refine Ent.pick ?_ | refine Ent.nilS ?_ | refine Ent.nilM ?_ | refine Ent.drop ?_)
        · have hsm : ¬ (lkL j.v.its n.txn).isSome = true := by rw [hlk]; decide
          rw [if_neg hsm]
          refine Q.r ?_; (repeat (intro b1; refine Q.r ?_))
          refine Q.rd ?_; (repeat (intro b1; refine Q.rd ?_))
          refine Q.r ?_; (repeat (intro b1; refine Q.r ?_))
          have ht0 := taken_ref hok.its n.ops
          have hrf : RdS (roM M0 :: []) n.oa n.ops.length 2 (n.ops.flatMap OV.cells) := hn.rd.o.1
          clear hrf
          refine swp_cutB (σ := Unit) (fun _ => [(5, .pointer (some ⟨b0, 0, none⟩)), (6, .pointer (some ⟨bp, 0, none⟩))]) (fun _ => pt bp (cl [.slice none 0 0, .slice none 0 0, .slice none 0 0] 97) :: pt b0 (cl n.cells 36) :: rjP p sf v pa ps pc da ds dc :: rP v j.v.dim a es c a' is c' j.v.mark :: roM Mv :: roM M :: roM M0 :: L) (fun _ => takenV j.v n.abs.ops = false) ?_ ?_
          · refine swp_loop (σ := Nat) (fun m => [(5, .pointer (some ⟨b0, 0, none⟩)), (6, .pointer (some ⟨bp, 0, none⟩)), (74, .slice a' is.length c'), (75, .int .i64 is.length), (76, .int .i64 m)]) (fun _ => pt bp (cl [.slice none 0 0, .slice none 0 0, .slice none 0 0] 97) :: pt b0 (cl n.cells 36) :: rjP p sf v pa ps pc da ds dc :: rP v j.v.dim a es c a' is c' j.v.mark :: roM Mv :: roM M :: roM M0 :: L)
              (fun m => m ≤ is.length ∧ ((is.take m).any fun i => n.ops.any fun o => holdsV (i.ops.map OV.abs) o.id) = false) (fun m => is.length - m) 0 ⟨rfl, rfl, rfl, rfl, rfl, trivial⟩ (by repeat (first | exact Ent.refl _ | exact Ent.nil | refine Ent.pick ?_ | refine Ent.nilS ?_ | refine Ent.nilM ?_ | refine Ent.drop ?_)) ⟨by omega, by simp⟩ ?_
            rintro m ⟨hm1, hm2⟩
            by_cases hlt : m < is.length
            · obtain ⟨i, hi⟩ := mem_get hlt
              have hmi : i ∈ is := List.mem_of_getElem? hi
              have hio := hopl i hmi
              have hrs : RdS (pt bp (cl [.slice none 0 0, .slice none 0 0, .slice none 0 0] 97) :: pt b0 (cl n.cells 36) :: rjP p sf v pa ps pc da ds dc :: rP v j.v.dim a es c a' is c' j.v.mark :: roM Mv :: roM M :: roM M0 :: L) a' is.length 3 (is.flatMap IV.cells) := hok.sI.rd
              obtain ⟨bi, oi, hia, hr⟩ := RdS.elem (g := IV.cells) (fun _ => rfl) hrs hi rfl
              clear hrs
              rw [hia] at hr ⊢
              refine Q.r ?_; (repeat (intro b1; refine Q.r ?_))
              rename_i b1
              refine swp_loop (σ := Nat) (fun q => [(5, .pointer (some ⟨b0, 0, none⟩)), (6, .pointer (some ⟨bp, 0, none⟩)), (10, .pointer (some ⟨b1, 0, none⟩)), (74, .slice (some ⟨bi, oi, none⟩) is.length c'), (75, .int .i64 is.length), (76, .int .i64 m), (81, .slice n.oa n.ops.length n.oc), (82, .int .i64 n.ops.length), (83, .int .i64 q)])
                (fun _ => pt b1 (cl i.cells 177) :: pt bp (cl [.slice none 0 0, .slice none 0 0, .slice none 0 0] 97) :: pt b0 (cl n.cells 36) :: rjP p sf v pa ps pc da ds dc :: rP v j.v.dim a es c (some ⟨bi, oi, none⟩) is c' j.v.mark :: roM Mv :: roM M :: roM M0 :: L)
                (fun q => q ≤ n.ops.length ∧ ((n.ops.take q).any fun o => holdsV (i.ops.map OV.abs) o.id) = false) (fun q => n.ops.length - q) 0 ⟨rfl, rfl, rfl, rfl, rfl, rfl, rfl, rfl, rfl, trivial⟩ (by repeat (first | exact Ent.refl _ | exact Ent.nil | refine Ent.pick ?_ | refine Ent.nilS ?_ | refine Ent.nilM ?_ | refine Ent.drop ?_)) ⟨by omega, by simp⟩ ?_
              rintro q ⟨hq1, hq2⟩
              by_cases hqt : q < n.ops.length
              · obtain ⟨o, ho⟩ := mem_get hqt
                have hmo : o ∈ n.ops := List.mem_of_getElem? ho
                have hrs : RdS (pt b1 (cl i.cells 177) :: pt bp (cl [.slice none 0 0, .slice none 0 0, .slice none 0 0] 97) :: pt b0 (cl n.cells 36) :: rjP p sf v pa ps pc da ds dc :: rP v j.v.dim a es c (some ⟨bi, oi, none⟩) is c' j.v.mark :: roM Mv :: roM M :: roM M0 :: L) n.oa n.ops.length 2 (n.ops.flatMap OV.cells) := hn.rd.o.1
                obtain ⟨bo, oo, hoa, hr2⟩ := RdS.elem (g := OV.cells) (fun _ => rfl) hrs ho rfl
                clear hrs hr
                rw [hoa]
                refine Q.r ?_; (repeat (intro b1; refine Q.r ?_))
                refine S.cr (args := [i.val, .int .u64 o.id]) rfl (RHolds_spec i o.id _ (hok.oi i hmi).rd (by omega)) ?_
                rintro _ _ ⟨rfl, rfl⟩
                cases hh : holdsV (i.ops.map OV.abs) o.id with
                | true =>
                  have ht : takenV j.v n.abs.ops = true := by
                    show takenV j.v (n.ops.map OV.abs) = true
                    rw [ht0, List.any_eq_true.2 ⟨i, hmi, List.any_eq_true.2 ⟨o, hmo, hh⟩⟩]
                  rw [if_pos ht]
                  refine Q.r ?_; (repeat (intro b1; refine Q.r ?_))
                  refine S.cr rfl (Rvote_spec n.txn 11 _) ?_
                  rintro _ _ ⟨rfl, rfl⟩
                  refine Q.r ?_; (repeat (intro b1; refine Q.r ?_))
                  rw [← hia]
                  refine N.r1 (by apply RV.cellN; rfl; exact RdC.row; rfl; exact RV.nil) ?_ ⟨none, 0, some ⟨b1, 0, none⟩, 1, none, 0, rfl, rfl⟩; show Ent _ (qR :: slO 135 17 (some ⟨b1, 0, none⟩) 1 1 (mailC (voteN n.txn 11)) :: qM :: rjH p j :: roM M0 :: L); refine Ent.nilS ?_; refine Ent.trans ?_ (slO_fold rfl); refine Ent.trans (rjc (p := p) (v := v) (sf := sf) (pa := pa) (pc := pc) (ps := ps) (da := da) (dc := dc) (ds := ds) (a := a) (a' := a') (c := c) (c' := c') (es := es) (is := is) hq hok) ?_; repeat (first | exact Ent.refl _ | exact Ent.nil | refine Ent.pick ?_ | refine Ent.nilS ?_ | refine Ent.nilM ?_ | refine Ent.drop ?_)
                | false =>
                  refine Q.r ?_; (repeat (intro b1; refine Q.r ?_))
                  refine ⟨q + 1, ⟨rfl, rfl, rfl, rfl, rfl, rfl, by rw [← hoa]; rfl, rfl, rfl, trivial⟩, by repeat (first | exact Ent.refl _ | exact Ent.nil | refine Ent.pick ?_ | refine Ent.nilS ?_ | refine Ent.nilM ?_ | refine Ent.drop ?_), ⟨by omega, ?_⟩, by omega⟩
                  rw [take_snoc ho, List.any_append, hq2, List.any_cons, hh]; rfl
              · have hqe : q = n.ops.length := by omega
                subst hqe
                rw [List.take_length] at hq2
                refine Q.r ?_; (repeat (intro b1; refine Q.r ?_))
                refine ⟨m + 1, ⟨rfl, rfl, rfl, rfl, rfl, trivial⟩, by repeat (first | exact Ent.refl _ | exact Ent.nil | refine Ent.pick ?_ | refine Ent.nilS ?_ | refine Ent.nilM ?_ | refine Ent.drop ?_), ⟨by omega, ?_⟩, by omega⟩
                rw [take_snoc hi, List.any_append, hm2, List.any_cons, hq2]; rfl
            · have hme : m = is.length := by omega
              subst hme
              rw [List.take_length] at hm2
              refine Q.r ?_; (repeat (intro b1; refine Q.r ?_))
              refine ⟨(), ⟨rfl, rfl, trivial⟩, by repeat (first | exact Ent.refl _ | exact Ent.nil | refine Ent.pick ?_ | refine Ent.nilS ?_ | refine Ent.nilM ?_ | refine Ent.drop ?_), ?_⟩
              show takenV j.v (n.ops.map OV.abs) = false
              rw [ht0]; exact hm2
          · intro _ ht
            rw [if_neg (by rw [ht]; decide)]
            refine Q.r ?_; (repeat (intro b1; refine Q.r ?_))
            refine Q.dgo [false, true] [9, 12, 13, 16, 17, 19] [] [0, 1, 2, 3, 4, 5, 6, 7, 8, 10, 11, 14, 15, 99999, 0, 0, 0, 0, 0, 0] ?_
            refine Q.rd ?_; (repeat (intro b1; refine Q.rd ?_))
            refine D.two 9 12 [12, 99999, 0, 0, 0, 0] [99999, 0, 0, 0, 0, 0] (by kernel_rfl) rfl rfl rfl rfl (by kernel_rfl) (by kernel_rfl) ?_ ?_
            · refine S.bs1 (cs := (⟨12, n.txn, 0, 0, n.after, 0, 0, 0, 0, 0, 0, 0, n.pa, n.pc, n.parts, n.oa, n.oc, n.ops, none, 0, [], none, 0, []⟩ : NV).cells) rfl rfl rfl rfl rfl (fun bR => ?_)
              refine Q.r ?_; (repeat (intro b1; refine Q.r ?_))
              repeat (first | refine D.endA ?_ | refine Q.dy rfl rfl rfl ?_ | refine Q.dp rfl rfl rfl ?_ | refine D.end_ ?_ | refine Q.endH ?_ | (refine D.e rfl rfl rfl ?_; (first | refine S.gskip1 rfl ?_ | refine S.gskip rfl ?_ | refine S.y (Y.gskipU rfl) ?_); refine opsS_nil ?_; refine N.tn ?_))
              refine D.e rfl rfl rfl ?_
              refine S.cr rfl (Rvote_spec n.txn 0 _) ?_
              rintro _ _ ⟨rfl, rfl⟩
              refine Q.r ?_; (repeat (intro b1; refine Q.r ?_))
              repeat (first | refine D.endA ?_ | refine Q.dy rfl rfl rfl ?_ | refine Q.dp rfl rfl rfl ?_ | refine D.end_ ?_ | refine Q.endH ?_ | (refine D.e rfl rfl rfl ?_; (first | refine S.gskip1 rfl ?_ | refine S.gskip rfl ?_ | refine S.y (Y.gskipU rfl) ?_); refine opsS_nil ?_; refine N.tn ?_))
              refine D.two 13 16 [16, 17, 18, 19] [99999, 0, 0, 0] (by kernel_rfl) rfl rfl rfl rfl (by kernel_rfl) (by kernel_rfl) ?_ ?_
              · refine S.bs1 (cs := mailC (voteN n.txn 0)) rfl rfl rfl rfl rfl (fun bM => ?_)
                refine Q.r ?_; (repeat (intro b1; refine Q.r ?_))
                repeat (first | refine D.endA ?_ | refine Q.dy rfl rfl rfl ?_ | refine Q.dp rfl rfl rfl ?_ | refine D.end_ ?_ | refine Q.endH ?_ | (refine D.e rfl rfl rfl ?_; (first | refine S.gskip1 rfl ?_ | refine S.gskip rfl ?_ | refine S.y (Y.gskipU rfl) ?_); refine opsS_nil ?_; refine N.tn ?_))
                refine D.e rfl rfl rfl ?_
                refine S.cr rfl (Rvote_spec n.txn 8 _) ?_
                rintro _ _ ⟨rfl, rfl⟩
                refine Q.r ?_; (repeat (intro b1; refine Q.r ?_))
                repeat (first | refine D.endA ?_ | refine Q.dy rfl rfl rfl ?_ | refine Q.dp rfl rfl rfl ?_ | refine D.end_ ?_ | refine Q.endH ?_ | (refine D.e rfl rfl rfl ?_; (first | refine S.gskip1 rfl ?_ | refine S.gskip rfl ?_ | refine S.y (Y.gskipU rfl) ?_); refine opsS_nil ?_; refine N.tn ?_))
                refine D.e rfl rfl rfl ?_
                refine S.bs1 (cs := mailC (voteN n.txn 8)) rfl rfl rfl rfl rfl (fun bE => ?_)
                refine Q.r ?_; (repeat (intro b1; refine Q.r ?_))
                repeat (first | refine D.endA ?_ | refine Q.dy rfl rfl rfl ?_ | refine Q.dp rfl rfl rfl ?_ | refine D.end_ ?_ | refine Q.endH ?_ | (refine D.e rfl rfl rfl ?_; (first | refine S.gskip1 rfl ?_ | refine S.gskip rfl ?_ | refine S.y (Y.gskipU rfl) ?_); refine opsS_nil ?_; refine N.tn ?_))
                refine Q.rd ?_; (repeat (intro b1; refine Q.rd ?_))
                refine Q.r ?_; (repeat (intro b1; refine Q.r ?_))
                refine N.r1 (by apply RV.cellN; rfl; exact RdC.row; rfl; exact RV.nil) ?_ ⟨some ⟨bR, 0, none⟩, 1, some ⟨bM, 0, none⟩, 1, some ⟨bE, 0, none⟩, 1, rfl, rfl⟩; show Ent _ (slO 36 16 (some ⟨bR, 0, none⟩) 1 1 (⟨12, n.txn, 0, 0, n.after, 0, 0, 0, 0, 0, 0, 0, n.pa, n.pc, n.parts, n.oa, n.oc, n.ops, none, 0, [], none, 0, []⟩ : NV).cells :: slO 135 17 (some ⟨bM, 0, none⟩) 1 1 (mailC (voteN n.txn 0)) :: slO 135 17 (some ⟨bE, 0, none⟩) 1 1 (mailC (voteN n.txn 8)) :: rjH p j :: roM M0 :: L); refine Ent.trans (rjc (p := p) (v := v) (sf := sf) (pa := pa) (pc := pc) (ps := ps) (da := da) (dc := dc) (ds := ds) (a := a) (a' := a') (c := c) (c' := c') (es := es) (is := is) hq hok) ?_; repeat (first | exact Ent.refl _ | exact Ent.nil | refine Ent.pick ?_ | refine Ent.nilS ?_ | refine Ent.nilM ?_ | refine Ent.drop ?_)
              · refine S.cr rfl (Rvote_spec n.txn 8 _) ?_
                rintro _ _ ⟨rfl, rfl⟩
                refine Q.r ?_; (repeat (intro b1; refine Q.r ?_))
                repeat (first | refine D.endA ?_ | refine Q.dy rfl rfl rfl ?_ | refine Q.dp rfl rfl rfl ?_ | refine D.end_ ?_ | refine Q.endH ?_ | (refine D.e rfl rfl rfl ?_; (first | refine S.gskip1 rfl ?_ | refine S.gskip rfl ?_ | refine S.y (Y.gskipU rfl) ?_); refine opsS_nil ?_; refine N.tn ?_))
                refine D.two 13 17 [17, 18, 19] [13, 18, 19] (by kernel_rfl) rfl rfl rfl rfl (by kernel_rfl) (by kernel_rfl) ?_ ?_
                · refine S.bs1 (cs := mailC (voteN n.txn 0)) rfl rfl rfl rfl rfl (fun bM => ?_)
                  refine Q.r ?_; (repeat (intro b1; refine Q.r ?_))
                  repeat (first | refine D.endA ?_ | refine Q.dy rfl rfl rfl ?_ | refine Q.dp rfl rfl rfl ?_ | refine D.end_ ?_ | refine Q.endH ?_ | (refine D.e rfl rfl rfl ?_; (first | refine S.gskip1 rfl ?_ | refine S.gskip rfl ?_ | refine S.y (Y.gskipU rfl) ?_); refine opsS_nil ?_; refine N.tn ?_))
                  refine D.e rfl rfl rfl ?_
                  refine S.bs1 (cs := mailC (voteN n.txn 8)) rfl rfl rfl rfl rfl (fun bE => ?_)
                  refine Q.r ?_; (repeat (intro b1; refine Q.r ?_))
                  repeat (first | refine D.endA ?_ | refine Q.dy rfl rfl rfl ?_ | refine Q.dp rfl rfl rfl ?_ | refine D.end_ ?_ | refine Q.endH ?_ | (refine D.e rfl rfl rfl ?_; (first | refine S.gskip1 rfl ?_ | refine S.gskip rfl ?_ | refine S.y (Y.gskipU rfl) ?_); refine opsS_nil ?_; refine N.tn ?_))
                  refine Q.rd ?_; (repeat (intro b1; refine Q.rd ?_))
                  refine Q.r ?_; (repeat (intro b1; refine Q.r ?_))
                  refine N.r1 (by apply RV.cellN; rfl; exact RdC.row; rfl; exact RV.nil) ?_ ⟨some ⟨bR, 0, none⟩, 1, some ⟨bM, 0, none⟩, 1, some ⟨bE, 0, none⟩, 1, rfl, rfl⟩; show Ent _ (slO 36 16 (some ⟨bR, 0, none⟩) 1 1 (⟨12, n.txn, 0, 0, n.after, 0, 0, 0, 0, 0, 0, 0, n.pa, n.pc, n.parts, n.oa, n.oc, n.ops, none, 0, [], none, 0, []⟩ : NV).cells :: slO 135 17 (some ⟨bM, 0, none⟩) 1 1 (mailC (voteN n.txn 0)) :: slO 135 17 (some ⟨bE, 0, none⟩) 1 1 (mailC (voteN n.txn 8)) :: rjH p j :: roM M0 :: L); refine Ent.trans (rjc (p := p) (v := v) (sf := sf) (pa := pa) (pc := pc) (ps := ps) (da := da) (dc := dc) (ds := ds) (a := a) (a' := a') (c := c) (c' := c') (es := es) (is := is) hq hok) ?_; repeat (first | exact Ent.refl _ | exact Ent.nil | refine Ent.pick ?_ | refine Ent.nilS ?_ | refine Ent.nilM ?_ | refine Ent.drop ?_)
                · refine S.bs1 (cs := mailC (voteN n.txn 8)) rfl rfl rfl rfl rfl (fun bE => ?_)
                  refine Q.r ?_; (repeat (intro b1; refine Q.r ?_))
                  repeat (first | refine D.endA ?_ | refine Q.dy rfl rfl rfl ?_ | refine Q.dp rfl rfl rfl ?_ | refine D.end_ ?_ | refine Q.endH ?_ | (refine D.e rfl rfl rfl ?_; (first | refine S.gskip1 rfl ?_ | refine S.gskip rfl ?_ | refine S.y (Y.gskipU rfl) ?_); refine opsS_nil ?_; refine N.tn ?_))
                  refine D.e rfl rfl rfl ?_
                  refine S.bs1 (cs := mailC (voteN n.txn 0)) rfl rfl rfl rfl rfl (fun bM => ?_)
                  refine Q.r ?_; (repeat (intro b1; refine Q.r ?_))
                  repeat (first | refine D.endA ?_ | refine Q.dy rfl rfl rfl ?_ | refine Q.dp rfl rfl rfl ?_ | refine D.end_ ?_ | refine Q.endH ?_ | (refine D.e rfl rfl rfl ?_; (first | refine S.gskip1 rfl ?_ | refine S.gskip rfl ?_ | refine S.y (Y.gskipU rfl) ?_); refine opsS_nil ?_; refine N.tn ?_))
                  refine Q.rd ?_; (repeat (intro b1; refine Q.rd ?_))
                  refine Q.r ?_; (repeat (intro b1; refine Q.r ?_))
                  refine N.r1 (by apply RV.cellN; rfl; exact RdC.row; rfl; exact RV.nil) ?_ ⟨some ⟨bR, 0, none⟩, 1, some ⟨bM, 0, none⟩, 1, some ⟨bE, 0, none⟩, 1, rfl, rfl⟩; show Ent _ (slO 36 16 (some ⟨bR, 0, none⟩) 1 1 (⟨12, n.txn, 0, 0, n.after, 0, 0, 0, 0, 0, 0, 0, n.pa, n.pc, n.parts, n.oa, n.oc, n.ops, none, 0, [], none, 0, []⟩ : NV).cells :: slO 135 17 (some ⟨bM, 0, none⟩) 1 1 (mailC (voteN n.txn 0)) :: slO 135 17 (some ⟨bE, 0, none⟩) 1 1 (mailC (voteN n.txn 8)) :: rjH p j :: roM M0 :: L); refine Ent.trans (rjc (p := p) (v := v) (sf := sf) (pa := pa) (pc := pc) (ps := ps) (da := da) (dc := dc) (ds := ds) (a := a) (a' := a') (c := c) (c' := c') (es := es) (is := is) hq hok) ?_; repeat (first | exact Ent.refl _ | exact Ent.nil | refine Ent.pick ?_ | refine Ent.nilS ?_ | refine Ent.nilM ?_ | refine Ent.drop ?_)
            · refine S.cr rfl (Rvote_spec n.txn 0 _) ?_
              rintro _ _ ⟨rfl, rfl⟩
              refine Q.r ?_; (repeat (intro b1; refine Q.r ?_))
              repeat (first | refine D.endA ?_ | refine Q.dy rfl rfl rfl ?_ | refine Q.dp rfl rfl rfl ?_ | refine D.end_ ?_ | refine Q.endH ?_ | (refine D.e rfl rfl rfl ?_; (first | refine S.gskip1 rfl ?_ | refine S.gskip rfl ?_ | refine S.y (Y.gskipU rfl) ?_); refine opsS_nil ?_; refine N.tn ?_))
              refine D.three 9 13 16 [99999, 0, 0, 0, 0] [99999, 0, 0, 0, 0] [99999, 0, 0, 0, 0] (by kernel_rfl) rfl rfl rfl rfl rfl rfl (by kernel_rfl) (by kernel_rfl) (by kernel_rfl) ?_ ?_ ?_
              · refine S.bs1 (cs := (⟨12, n.txn, 0, 0, n.after, 0, 0, 0, 0, 0, 0, 0, n.pa, n.pc, n.parts, n.oa, n.oc, n.ops, none, 0, [], none, 0, []⟩ : NV).cells) rfl rfl rfl rfl rfl (fun bR => ?_)
                refine Q.r ?_; (repeat (intro b1; refine Q.r ?_))
                repeat (first | refine D.endA ?_ | refine Q.dy rfl rfl rfl ?_ | refine Q.dp rfl rfl rfl ?_ | refine D.end_ ?_ | refine Q.endH ?_ | (refine D.e rfl rfl rfl ?_; (first | refine S.gskip1 rfl ?_ | refine S.gskip rfl ?_ | refine S.y (Y.gskipU rfl) ?_); refine opsS_nil ?_; refine N.tn ?_))
                refine D.two 13 16 [16, 17, 18, 19] [99999, 0, 0, 0] (by kernel_rfl) rfl rfl rfl rfl (by kernel_rfl) (by kernel_rfl) ?_ ?_
                · refine S.bs1 (cs := mailC (voteN n.txn 0)) rfl rfl rfl rfl rfl (fun bM => ?_)
                  refine Q.r ?_; (repeat (intro b1; refine Q.r ?_))
                  repeat (first | refine D.endA ?_ | refine Q.dy rfl rfl rfl ?_ | refine Q.dp rfl rfl rfl ?_ | refine D.end_ ?_ | refine Q.endH ?_ | (refine D.e rfl rfl rfl ?_; (first | refine S.gskip1 rfl ?_ | refine S.gskip rfl ?_ | refine S.y (Y.gskipU rfl) ?_); refine opsS_nil ?_; refine N.tn ?_))
                  refine D.e rfl rfl rfl ?_
                  refine S.cr rfl (Rvote_spec n.txn 8 _) ?_
                  rintro _ _ ⟨rfl, rfl⟩
                  refine Q.r ?_; (repeat (intro b1; refine Q.r ?_))
                  repeat (first | refine D.endA ?_ | refine Q.dy rfl rfl rfl ?_ | refine Q.dp rfl rfl rfl ?_ | refine D.end_ ?_ | refine Q.endH ?_ | (refine D.e rfl rfl rfl ?_; (first | refine S.gskip1 rfl ?_ | refine S.gskip rfl ?_ | refine S.y (Y.gskipU rfl) ?_); refine opsS_nil ?_; refine N.tn ?_))
                  refine D.e rfl rfl rfl ?_
                  refine S.bs1 (cs := mailC (voteN n.txn 8)) rfl rfl rfl rfl rfl (fun bE => ?_)
                  refine Q.r ?_; (repeat (intro b1; refine Q.r ?_))
                  repeat (first | refine D.endA ?_ | refine Q.dy rfl rfl rfl ?_ | refine Q.dp rfl rfl rfl ?_ | refine D.end_ ?_ | refine Q.endH ?_ | (refine D.e rfl rfl rfl ?_; (first | refine S.gskip1 rfl ?_ | refine S.gskip rfl ?_ | refine S.y (Y.gskipU rfl) ?_); refine opsS_nil ?_; refine N.tn ?_))
                  refine Q.rd ?_; (repeat (intro b1; refine Q.rd ?_))
                  refine Q.r ?_; (repeat (intro b1; refine Q.r ?_))
                  refine N.r1 (by apply RV.cellN; rfl; exact RdC.row; rfl; exact RV.nil) ?_ ⟨some ⟨bR, 0, none⟩, 1, some ⟨bM, 0, none⟩, 1, some ⟨bE, 0, none⟩, 1, rfl, rfl⟩; show Ent _ (slO 36 16 (some ⟨bR, 0, none⟩) 1 1 (⟨12, n.txn, 0, 0, n.after, 0, 0, 0, 0, 0, 0, 0, n.pa, n.pc, n.parts, n.oa, n.oc, n.ops, none, 0, [], none, 0, []⟩ : NV).cells :: slO 135 17 (some ⟨bM, 0, none⟩) 1 1 (mailC (voteN n.txn 0)) :: slO 135 17 (some ⟨bE, 0, none⟩) 1 1 (mailC (voteN n.txn 8)) :: rjH p j :: roM M0 :: L); refine Ent.trans (rjc (p := p) (v := v) (sf := sf) (pa := pa) (pc := pc) (ps := ps) (da := da) (dc := dc) (ds := ds) (a := a) (a' := a') (c := c) (c' := c') (es := es) (is := is) hq hok) ?_; repeat (first | exact Ent.refl _ | exact Ent.nil | refine Ent.pick ?_ | refine Ent.nilS ?_ | refine Ent.nilM ?_ | refine Ent.drop ?_)
                · refine S.cr rfl (Rvote_spec n.txn 8 _) ?_
                  rintro _ _ ⟨rfl, rfl⟩
                  refine Q.r ?_; (repeat (intro b1; refine Q.r ?_))
                  repeat (first | refine D.endA ?_ | refine Q.dy rfl rfl rfl ?_ | refine Q.dp rfl rfl rfl ?_ | refine D.end_ ?_ | refine Q.endH ?_ | (refine D.e rfl rfl rfl ?_; (first | refine S.gskip1 rfl ?_ | refine S.gskip rfl ?_ | refine S.y (Y.gskipU rfl) ?_); refine opsS_nil ?_; refine N.tn ?_))
                  refine D.two 13 17 [17, 18, 19] [13, 18, 19] (by kernel_rfl) rfl rfl rfl rfl (by kernel_rfl) (by kernel_rfl) ?_ ?_
                  · refine S.bs1 (cs := mailC (voteN n.txn 0)) rfl rfl rfl rfl rfl (fun bM => ?_)
                    refine Q.r ?_; (repeat (intro b1; refine Q.r ?_))
                    repeat (first | refine D.endA ?_ | refine Q.dy rfl rfl rfl ?_ | refine Q.dp rfl rfl rfl ?_ | refine D.end_ ?_ | refine Q.endH ?_ | (refine D.e rfl rfl rfl ?_; (first | refine S.gskip1 rfl ?_ | refine S.gskip rfl ?_ | refine S.y (Y.gskipU rfl) ?_); refine opsS_nil ?_; refine N.tn ?_))
                    refine D.e rfl rfl rfl ?_
                    refine S.bs1 (cs := mailC (voteN n.txn 8)) rfl rfl rfl rfl rfl (fun bE => ?_)
                    refine Q.r ?_; (repeat (intro b1; refine Q.r ?_))
                    repeat (first | refine D.endA ?_ | refine Q.dy rfl rfl rfl ?_ | refine Q.dp rfl rfl rfl ?_ | refine D.end_ ?_ | refine Q.endH ?_ | (refine D.e rfl rfl rfl ?_; (first | refine S.gskip1 rfl ?_ | refine S.gskip rfl ?_ | refine S.y (Y.gskipU rfl) ?_); refine opsS_nil ?_; refine N.tn ?_))
                    refine Q.rd ?_; (repeat (intro b1; refine Q.rd ?_))
                    refine Q.r ?_; (repeat (intro b1; refine Q.r ?_))
                    refine N.r1 (by apply RV.cellN; rfl; exact RdC.row; rfl; exact RV.nil) ?_ ⟨some ⟨bR, 0, none⟩, 1, some ⟨bM, 0, none⟩, 1, some ⟨bE, 0, none⟩, 1, rfl, rfl⟩; show Ent _ (slO 36 16 (some ⟨bR, 0, none⟩) 1 1 (⟨12, n.txn, 0, 0, n.after, 0, 0, 0, 0, 0, 0, 0, n.pa, n.pc, n.parts, n.oa, n.oc, n.ops, none, 0, [], none, 0, []⟩ : NV).cells :: slO 135 17 (some ⟨bM, 0, none⟩) 1 1 (mailC (voteN n.txn 0)) :: slO 135 17 (some ⟨bE, 0, none⟩) 1 1 (mailC (voteN n.txn 8)) :: rjH p j :: roM M0 :: L); refine Ent.trans (rjc (p := p) (v := v) (sf := sf) (pa := pa) (pc := pc) (ps := ps) (da := da) (dc := dc) (ds := ds) (a := a) (a' := a') (c := c) (c' := c') (es := es) (is := is) hq hok) ?_; repeat (first | exact Ent.refl _ | exact Ent.nil | refine Ent.pick ?_ | refine Ent.nilS ?_ | refine Ent.nilM ?_ | refine Ent.drop ?_)
                  · refine S.bs1 (cs := mailC (voteN n.txn 8)) rfl rfl rfl rfl rfl (fun bE => ?_)
                    refine Q.r ?_; (repeat (intro b1; refine Q.r ?_))
                    repeat (first | refine D.endA ?_ | refine Q.dy rfl rfl rfl ?_ | refine Q.dp rfl rfl rfl ?_ | refine D.end_ ?_ | refine Q.endH ?_ | (refine D.e rfl rfl rfl ?_; (first | refine S.gskip1 rfl ?_ | refine S.gskip rfl ?_ | refine S.y (Y.gskipU rfl) ?_); refine opsS_nil ?_; refine N.tn ?_))
                    refine D.e rfl rfl rfl ?_
                    refine S.bs1 (cs := mailC (voteN n.txn 0)) rfl rfl rfl rfl rfl (fun bM => ?_)
                    refine Q.r ?_; (repeat (intro b1; refine Q.r ?_))
                    repeat (first | refine D.endA ?_ | refine Q.dy rfl rfl rfl ?_ | refine Q.dp rfl rfl rfl ?_ | refine D.end_ ?_ | refine Q.endH ?_ | (refine D.e rfl rfl rfl ?_; (first | refine S.gskip1 rfl ?_ | refine S.gskip rfl ?_ | refine S.y (Y.gskipU rfl) ?_); refine opsS_nil ?_; refine N.tn ?_))
                    refine Q.rd ?_; (repeat (intro b1; refine Q.rd ?_))
                    refine Q.r ?_; (repeat (intro b1; refine Q.r ?_))
                    refine N.r1 (by apply RV.cellN; rfl; exact RdC.row; rfl; exact RV.nil) ?_ ⟨some ⟨bR, 0, none⟩, 1, some ⟨bM, 0, none⟩, 1, some ⟨bE, 0, none⟩, 1, rfl, rfl⟩; show Ent _ (slO 36 16 (some ⟨bR, 0, none⟩) 1 1 (⟨12, n.txn, 0, 0, n.after, 0, 0, 0, 0, 0, 0, 0, n.pa, n.pc, n.parts, n.oa, n.oc, n.ops, none, 0, [], none, 0, []⟩ : NV).cells :: slO 135 17 (some ⟨bM, 0, none⟩) 1 1 (mailC (voteN n.txn 0)) :: slO 135 17 (some ⟨bE, 0, none⟩) 1 1 (mailC (voteN n.txn 8)) :: rjH p j :: roM M0 :: L); refine Ent.trans (rjc (p := p) (v := v) (sf := sf) (pa := pa) (pc := pc) (ps := ps) (da := da) (dc := dc) (ds := ds) (a := a) (a' := a') (c := c) (c' := c') (es := es) (is := is) hq hok) ?_; repeat (first | exact Ent.refl _ | exact Ent.nil | refine Ent.pick ?_ | refine Ent.nilS ?_ | refine Ent.nilM ?_ | refine Ent.drop ?_)
              · refine S.bs1 (cs := mailC (voteN n.txn 0)) rfl rfl rfl rfl rfl (fun bM => ?_)
                refine Q.r ?_; (repeat (intro b1; refine Q.r ?_))
                repeat (first | refine D.endA ?_ | refine Q.dy rfl rfl rfl ?_ | refine Q.dp rfl rfl rfl ?_ | refine D.end_ ?_ | refine Q.endH ?_ | (refine D.e rfl rfl rfl ?_; (first | refine S.gskip1 rfl ?_ | refine S.gskip rfl ?_ | refine S.y (Y.gskipU rfl) ?_); refine opsS_nil ?_; refine N.tn ?_))
                refine D.two 9 16 [16, 17, 18, 19] [99999, 0, 0, 0] (by kernel_rfl) rfl rfl rfl rfl (by kernel_rfl) (by kernel_rfl) ?_ ?_
                · refine S.bs1 (cs := (⟨12, n.txn, 0, 0, n.after, 0, 0, 0, 0, 0, 0, 0, n.pa, n.pc, n.parts, n.oa, n.oc, n.ops, none, 0, [], none, 0, []⟩ : NV).cells) rfl rfl rfl rfl rfl (fun bR => ?_)
                  refine Q.r ?_; (repeat (intro b1; refine Q.r ?_))
                  repeat (first | refine D.endA ?_ | refine Q.dy rfl rfl rfl ?_ | refine Q.dp rfl rfl rfl ?_ | refine D.end_ ?_ | refine Q.endH ?_ | (refine D.e rfl rfl rfl ?_; (first | refine S.gskip1 rfl ?_ | refine S.gskip rfl ?_ | refine S.y (Y.gskipU rfl) ?_); refine opsS_nil ?_; refine N.tn ?_))
                  refine D.e rfl rfl rfl ?_
                  refine S.cr rfl (Rvote_spec n.txn 8 _) ?_
                  rintro _ _ ⟨rfl, rfl⟩
                  refine Q.r ?_; (repeat (intro b1; refine Q.r ?_))
                  repeat (first | refine D.endA ?_ | refine Q.dy rfl rfl rfl ?_ | refine Q.dp rfl rfl rfl ?_ | refine D.end_ ?_ | refine Q.endH ?_ | (refine D.e rfl rfl rfl ?_; (first | refine S.gskip1 rfl ?_ | refine S.gskip rfl ?_ | refine S.y (Y.gskipU rfl) ?_); refine opsS_nil ?_; refine N.tn ?_))
                  refine D.e rfl rfl rfl ?_
                  refine S.bs1 (cs := mailC (voteN n.txn 8)) rfl rfl rfl rfl rfl (fun bE => ?_)
                  refine Q.r ?_; (repeat (intro b1; refine Q.r ?_))
                  repeat (first | refine D.endA ?_ | refine Q.dy rfl rfl rfl ?_ | refine Q.dp rfl rfl rfl ?_ | refine D.end_ ?_ | refine Q.endH ?_ | (refine D.e rfl rfl rfl ?_; (first | refine S.gskip1 rfl ?_ | refine S.gskip rfl ?_ | refine S.y (Y.gskipU rfl) ?_); refine opsS_nil ?_; refine N.tn ?_))
                  refine Q.rd ?_; (repeat (intro b1; refine Q.rd ?_))
                  refine Q.r ?_; (repeat (intro b1; refine Q.r ?_))
                  refine N.r1 (by apply RV.cellN; rfl; exact RdC.row; rfl; exact RV.nil) ?_ ⟨some ⟨bR, 0, none⟩, 1, some ⟨bM, 0, none⟩, 1, some ⟨bE, 0, none⟩, 1, rfl, rfl⟩; show Ent _ (slO 36 16 (some ⟨bR, 0, none⟩) 1 1 (⟨12, n.txn, 0, 0, n.after, 0, 0, 0, 0, 0, 0, 0, n.pa, n.pc, n.parts, n.oa, n.oc, n.ops, none, 0, [], none, 0, []⟩ : NV).cells :: slO 135 17 (some ⟨bM, 0, none⟩) 1 1 (mailC (voteN n.txn 0)) :: slO 135 17 (some ⟨bE, 0, none⟩) 1 1 (mailC (voteN n.txn 8)) :: rjH p j :: roM M0 :: L); refine Ent.trans (rjc (p := p) (v := v) (sf := sf) (pa := pa) (pc := pc) (ps := ps) (da := da) (dc := dc) (ds := ds) (a := a) (a' := a') (c := c) (c' := c') (es := es) (is := is) hq hok) ?_; repeat (first | exact Ent.refl _ | exact Ent.nil | refine Ent.pick ?_ | refine Ent.nilS ?_ | refine Ent.nilM ?_ | refine Ent.drop ?_)
                · refine S.cr rfl (Rvote_spec n.txn 8 _) ?_
                  rintro _ _ ⟨rfl, rfl⟩
                  refine Q.r ?_; (repeat (intro b1; refine Q.r ?_))
                  repeat (first | refine D.endA ?_ | refine Q.dy rfl rfl rfl ?_ | refine Q.dp rfl rfl rfl ?_ | refine D.end_ ?_ | refine Q.endH ?_ | (refine D.e rfl rfl rfl ?_; (first | refine S.gskip1 rfl ?_ | refine S.gskip rfl ?_ | refine S.y (Y.gskipU rfl) ?_); refine opsS_nil ?_; refine N.tn ?_))
                  refine D.two 9 17 [17, 18, 19] [9, 18, 19] (by kernel_rfl) rfl rfl rfl rfl (by kernel_rfl) (by kernel_rfl) ?_ ?_
                  · refine S.bs1 (cs := (⟨12, n.txn, 0, 0, n.after, 0, 0, 0, 0, 0, 0, 0, n.pa, n.pc, n.parts, n.oa, n.oc, n.ops, none, 0, [], none, 0, []⟩ : NV).cells) rfl rfl rfl rfl rfl (fun bR => ?_)
                    refine Q.r ?_; (repeat (intro b1; refine Q.r ?_))
                    repeat (first | refine D.endA ?_ | refine Q.dy rfl rfl rfl ?_ | refine Q.dp rfl rfl rfl ?_ | refine D.end_ ?_ | refine Q.endH ?_ | (refine D.e rfl rfl rfl ?_; (first | refine S.gskip1 rfl ?_ | refine S.gskip rfl ?_ | refine S.y (Y.gskipU rfl) ?_); refine opsS_nil ?_; refine N.tn ?_))
                    refine D.e rfl rfl rfl ?_
                    refine S.bs1 (cs := mailC (voteN n.txn 8)) rfl rfl rfl rfl rfl (fun bE => ?_)
                    refine Q.r ?_; (repeat (intro b1; refine Q.r ?_))
                    repeat (first | refine D.endA ?_ | refine Q.dy rfl rfl rfl ?_ | refine Q.dp rfl rfl rfl ?_ | refine D.end_ ?_ | refine Q.endH ?_ | (refine D.e rfl rfl rfl ?_; (first | refine S.gskip1 rfl ?_ | refine S.gskip rfl ?_ | refine S.y (Y.gskipU rfl) ?_); refine opsS_nil ?_; refine N.tn ?_))
                    refine Q.rd ?_; (repeat (intro b1; refine Q.rd ?_))
                    refine Q.r ?_; (repeat (intro b1; refine Q.r ?_))
                    refine N.r1 (by apply RV.cellN; rfl; exact RdC.row; rfl; exact RV.nil) ?_ ⟨some ⟨bR, 0, none⟩, 1, some ⟨bM, 0, none⟩, 1, some ⟨bE, 0, none⟩, 1, rfl, rfl⟩; show Ent _ (slO 36 16 (some ⟨bR, 0, none⟩) 1 1 (⟨12, n.txn, 0, 0, n.after, 0, 0, 0, 0, 0, 0, 0, n.pa, n.pc, n.parts, n.oa, n.oc, n.ops, none, 0, [], none, 0, []⟩ : NV).cells :: slO 135 17 (some ⟨bM, 0, none⟩) 1 1 (mailC (voteN n.txn 0)) :: slO 135 17 (some ⟨bE, 0, none⟩) 1 1 (mailC (voteN n.txn 8)) :: rjH p j :: roM M0 :: L); refine Ent.trans (rjc (p := p) (v := v) (sf := sf) (pa := pa) (pc := pc) (ps := ps) (da := da) (dc := dc) (ds := ds) (a := a) (a' := a') (c := c) (c' := c') (es := es) (is := is) hq hok) ?_; repeat (first | exact Ent.refl _ | exact Ent.nil | refine Ent.pick ?_ | refine Ent.nilS ?_ | refine Ent.nilM ?_ | refine Ent.drop ?_)
                  · refine S.bs1 (cs := mailC (voteN n.txn 8)) rfl rfl rfl rfl rfl (fun bE => ?_)
                    refine Q.r ?_; (repeat (intro b1; refine Q.r ?_))
                    repeat (first | refine D.endA ?_ | refine Q.dy rfl rfl rfl ?_ | refine Q.dp rfl rfl rfl ?_ | refine D.end_ ?_ | refine Q.endH ?_ | (refine D.e rfl rfl rfl ?_; (first | refine S.gskip1 rfl ?_ | refine S.gskip rfl ?_ | refine S.y (Y.gskipU rfl) ?_); refine opsS_nil ?_; refine N.tn ?_))
                    refine D.e rfl rfl rfl ?_
                    refine S.bs1 (cs := (⟨12, n.txn, 0, 0, n.after, 0, 0, 0, 0, 0, 0, 0, n.pa, n.pc, n.parts, n.oa, n.oc, n.ops, none, 0, [], none, 0, []⟩ : NV).cells) rfl rfl rfl rfl rfl (fun bR => ?_)
                    refine Q.r ?_; (repeat (intro b1; refine Q.r ?_))
                    repeat (first | refine D.endA ?_ | refine Q.dy rfl rfl rfl ?_ | refine Q.dp rfl rfl rfl ?_ | refine D.end_ ?_ | refine Q.endH ?_ | (refine D.e rfl rfl rfl ?_; (first | refine S.gskip1 rfl ?_ | refine S.gskip rfl ?_ | refine S.y (Y.gskipU rfl) ?_); refine opsS_nil ?_; refine N.tn ?_))
                    refine Q.rd ?_; (repeat (intro b1; refine Q.rd ?_))
                    refine Q.r ?_; (repeat (intro b1; refine Q.r ?_))
                    refine N.r1 (by apply RV.cellN; rfl; exact RdC.row; rfl; exact RV.nil) ?_ ⟨some ⟨bR, 0, none⟩, 1, some ⟨bM, 0, none⟩, 1, some ⟨bE, 0, none⟩, 1, rfl, rfl⟩; show Ent _ (slO 36 16 (some ⟨bR, 0, none⟩) 1 1 (⟨12, n.txn, 0, 0, n.after, 0, 0, 0, 0, 0, 0, 0, n.pa, n.pc, n.parts, n.oa, n.oc, n.ops, none, 0, [], none, 0, []⟩ : NV).cells :: slO 135 17 (some ⟨bM, 0, none⟩) 1 1 (mailC (voteN n.txn 0)) :: slO 135 17 (some ⟨bE, 0, none⟩) 1 1 (mailC (voteN n.txn 8)) :: rjH p j :: roM M0 :: L); refine Ent.trans (rjc (p := p) (v := v) (sf := sf) (pa := pa) (pc := pc) (ps := ps) (da := da) (dc := dc) (ds := ds) (a := a) (a' := a') (c := c) (c' := c') (es := es) (is := is) hq hok) ?_; repeat (first | exact Ent.refl _ | exact Ent.nil | refine Ent.pick ?_ | refine Ent.nilS ?_ | refine Ent.nilM ?_ | refine Ent.drop ?_)
              · refine S.cr rfl (Rvote_spec n.txn 8 _) ?_
                rintro _ _ ⟨rfl, rfl⟩
                refine Q.r ?_; (repeat (intro b1; refine Q.r ?_))
                repeat (first | refine D.endA ?_ | refine Q.dy rfl rfl rfl ?_ | refine Q.dp rfl rfl rfl ?_ | refine D.end_ ?_ | refine Q.endH ?_ | (refine D.e rfl rfl rfl ?_; (first | refine S.gskip1 rfl ?_ | refine S.gskip rfl ?_ | refine S.y (Y.gskipU rfl) ?_); refine opsS_nil ?_; refine N.tn ?_))
                refine D.three 9 13 17 [99999, 0, 0, 0] [99999, 0, 0, 0] [99999, 0, 0, 0] (by kernel_rfl) rfl rfl rfl rfl rfl rfl (by kernel_rfl) (by kernel_rfl) (by kernel_rfl) ?_ ?_ ?_
                · refine S.bs1 (cs := (⟨12, n.txn, 0, 0, n.after, 0, 0, 0, 0, 0, 0, 0, n.pa, n.pc, n.parts, n.oa, n.oc, n.ops, none, 0, [], none, 0, []⟩ : NV).cells) rfl rfl rfl rfl rfl (fun bR => ?_)
                  refine Q.r ?_; (repeat (intro b1; refine Q.r ?_))
                  repeat (first | refine D.endA ?_ | refine Q.dy rfl rfl rfl ?_ | refine Q.dp rfl rfl rfl ?_ | refine D.end_ ?_ | refine Q.endH ?_ | (refine D.e rfl rfl rfl ?_; (first | refine S.gskip1 rfl ?_ | refine S.gskip rfl ?_ | refine S.y (Y.gskipU rfl) ?_); refine opsS_nil ?_; refine N.tn ?_))
                  refine D.two 13 17 [17, 18, 19] [13, 18, 19] (by kernel_rfl) rfl rfl rfl rfl (by kernel_rfl) (by kernel_rfl) ?_ ?_
                  · refine S.bs1 (cs := mailC (voteN n.txn 0)) rfl rfl rfl rfl rfl (fun bM => ?_)
                    refine Q.r ?_; (repeat (intro b1; refine Q.r ?_))
                    repeat (first | refine D.endA ?_ | refine Q.dy rfl rfl rfl ?_ | refine Q.dp rfl rfl rfl ?_ | refine D.end_ ?_ | refine Q.endH ?_ | (refine D.e rfl rfl rfl ?_; (first | refine S.gskip1 rfl ?_ | refine S.gskip rfl ?_ | refine S.y (Y.gskipU rfl) ?_); refine opsS_nil ?_; refine N.tn ?_))
                    refine D.e rfl rfl rfl ?_
                    refine S.bs1 (cs := mailC (voteN n.txn 8)) rfl rfl rfl rfl rfl (fun bE => ?_)
                    refine Q.r ?_; (repeat (intro b1; refine Q.r ?_))
                    repeat (first | refine D.endA ?_ | refine Q.dy rfl rfl rfl ?_ | refine Q.dp rfl rfl rfl ?_ | refine D.end_ ?_ | refine Q.endH ?_ | (refine D.e rfl rfl rfl ?_; (first | refine S.gskip1 rfl ?_ | refine S.gskip rfl ?_ | refine S.y (Y.gskipU rfl) ?_); refine opsS_nil ?_; refine N.tn ?_))
                    refine Q.rd ?_; (repeat (intro b1; refine Q.rd ?_))
                    refine Q.r ?_; (repeat (intro b1; refine Q.r ?_))
                    refine N.r1 (by apply RV.cellN; rfl; exact RdC.row; rfl; exact RV.nil) ?_ ⟨some ⟨bR, 0, none⟩, 1, some ⟨bM, 0, none⟩, 1, some ⟨bE, 0, none⟩, 1, rfl, rfl⟩; show Ent _ (slO 36 16 (some ⟨bR, 0, none⟩) 1 1 (⟨12, n.txn, 0, 0, n.after, 0, 0, 0, 0, 0, 0, 0, n.pa, n.pc, n.parts, n.oa, n.oc, n.ops, none, 0, [], none, 0, []⟩ : NV).cells :: slO 135 17 (some ⟨bM, 0, none⟩) 1 1 (mailC (voteN n.txn 0)) :: slO 135 17 (some ⟨bE, 0, none⟩) 1 1 (mailC (voteN n.txn 8)) :: rjH p j :: roM M0 :: L); refine Ent.trans (rjc (p := p) (v := v) (sf := sf) (pa := pa) (pc := pc) (ps := ps) (da := da) (dc := dc) (ds := ds) (a := a) (a' := a') (c := c) (c' := c') (es := es) (is := is) hq hok) ?_; repeat (first | exact Ent.refl _ | exact Ent.nil | refine Ent.pick ?_ | refine Ent.nilS ?_ | refine Ent.nilM ?_ | refine Ent.drop ?_)
                  · refine S.bs1 (cs := mailC (voteN n.txn 8)) rfl rfl rfl rfl rfl (fun bE => ?_)
                    refine Q.r ?_; (repeat (intro b1; refine Q.r ?_))
                    repeat (first | refine D.endA ?_ | refine Q.dy rfl rfl rfl ?_ | refine Q.dp rfl rfl rfl ?_ | refine D.end_ ?_ | refine Q.endH ?_ | (refine D.e rfl rfl rfl ?_; (first | refine S.gskip1 rfl ?_ | refine S.gskip rfl ?_ | refine S.y (Y.gskipU rfl) ?_); refine opsS_nil ?_; refine N.tn ?_))
                    refine D.e rfl rfl rfl ?_
                    refine S.bs1 (cs := mailC (voteN n.txn 0)) rfl rfl rfl rfl rfl (fun bM => ?_)
                    refine Q.r ?_; (repeat (intro b1; refine Q.r ?_))
                    repeat (first | refine D.endA ?_ | refine Q.dy rfl rfl rfl ?_ | refine Q.dp rfl rfl rfl ?_ | refine D.end_ ?_ | refine Q.endH ?_ | (refine D.e rfl rfl rfl ?_; (first | refine S.gskip1 rfl ?_ | refine S.gskip rfl ?_ | refine S.y (Y.gskipU rfl) ?_); refine opsS_nil ?_; refine N.tn ?_))
                    refine Q.rd ?_; (repeat (intro b1; refine Q.rd ?_))
                    refine Q.r ?_; (repeat (intro b1; refine Q.r ?_))
                    refine N.r1 (by apply RV.cellN; rfl; exact RdC.row; rfl; exact RV.nil) ?_ ⟨some ⟨bR, 0, none⟩, 1, some ⟨bM, 0, none⟩, 1, some ⟨bE, 0, none⟩, 1, rfl, rfl⟩; show Ent _ (slO 36 16 (some ⟨bR, 0, none⟩) 1 1 (⟨12, n.txn, 0, 0, n.after, 0, 0, 0, 0, 0, 0, 0, n.pa, n.pc, n.parts, n.oa, n.oc, n.ops, none, 0, [], none, 0, []⟩ : NV).cells :: slO 135 17 (some ⟨bM, 0, none⟩) 1 1 (mailC (voteN n.txn 0)) :: slO 135 17 (some ⟨bE, 0, none⟩) 1 1 (mailC (voteN n.txn 8)) :: rjH p j :: roM M0 :: L); refine Ent.trans (rjc (p := p) (v := v) (sf := sf) (pa := pa) (pc := pc) (ps := ps) (da := da) (dc := dc) (ds := ds) (a := a) (a' := a') (c := c) (c' := c') (es := es) (is := is) hq hok) ?_; repeat (first | exact Ent.refl _ | exact Ent.nil | refine Ent.pick ?_ | refine Ent.nilS ?_ | refine Ent.nilM ?_ | refine Ent.drop ?_)
                · refine S.bs1 (cs := mailC (voteN n.txn 0)) rfl rfl rfl rfl rfl (fun bM => ?_)
                  refine Q.r ?_; (repeat (intro b1; refine Q.r ?_))
                  repeat (first | refine D.endA ?_ | refine Q.dy rfl rfl rfl ?_ | refine Q.dp rfl rfl rfl ?_ | refine D.end_ ?_ | refine Q.endH ?_ | (refine D.e rfl rfl rfl ?_; (first | refine S.gskip1 rfl ?_ | refine S.gskip rfl ?_ | refine S.y (Y.gskipU rfl) ?_); refine opsS_nil ?_; refine N.tn ?_))
                  refine D.two 9 17 [17, 18, 19] [9, 18, 19] (by kernel_rfl) rfl rfl rfl rfl (by kernel_rfl) (by kernel_rfl) ?_ ?_
                  · refine S.bs1 (cs := (⟨12, n.txn, 0, 0, n.after, 0, 0, 0, 0, 0, 0, 0, n.pa, n.pc, n.parts, n.oa, n.oc, n.ops, none, 0, [], none, 0, []⟩ : NV).cells) rfl rfl rfl rfl rfl (fun bR => ?_)
                    refine Q.r ?_; (repeat (intro b1; refine Q.r ?_))
                    repeat (first | refine D.endA ?_ | refine Q.dy rfl rfl rfl ?_ | refine Q.dp rfl rfl rfl ?_ | refine D.end_ ?_ | refine Q.endH ?_ | (refine D.e rfl rfl rfl ?_; (first | refine S.gskip1 rfl ?_ | refine S.gskip rfl ?_ | refine S.y (Y.gskipU rfl) ?_); refine opsS_nil ?_; refine N.tn ?_))
                    refine D.e rfl rfl rfl ?_
                    refine S.bs1 (cs := mailC (voteN n.txn 8)) rfl rfl rfl rfl rfl (fun bE => ?_)
                    refine Q.r ?_; (repeat (intro b1; refine Q.r ?_))
                    repeat (first | refine D.endA ?_ | refine Q.dy rfl rfl rfl ?_ | refine Q.dp rfl rfl rfl ?_ | refine D.end_ ?_ | refine Q.endH ?_ | (refine D.e rfl rfl rfl ?_; (first | refine S.gskip1 rfl ?_ | refine S.gskip rfl ?_ | refine S.y (Y.gskipU rfl) ?_); refine opsS_nil ?_; refine N.tn ?_))
                    refine Q.rd ?_; (repeat (intro b1; refine Q.rd ?_))
                    refine Q.r ?_; (repeat (intro b1; refine Q.r ?_))
                    refine N.r1 (by apply RV.cellN; rfl; exact RdC.row; rfl; exact RV.nil) ?_ ⟨some ⟨bR, 0, none⟩, 1, some ⟨bM, 0, none⟩, 1, some ⟨bE, 0, none⟩, 1, rfl, rfl⟩; show Ent _ (slO 36 16 (some ⟨bR, 0, none⟩) 1 1 (⟨12, n.txn, 0, 0, n.after, 0, 0, 0, 0, 0, 0, 0, n.pa, n.pc, n.parts, n.oa, n.oc, n.ops, none, 0, [], none, 0, []⟩ : NV).cells :: slO 135 17 (some ⟨bM, 0, none⟩) 1 1 (mailC (voteN n.txn 0)) :: slO 135 17 (some ⟨bE, 0, none⟩) 1 1 (mailC (voteN n.txn 8)) :: rjH p j :: roM M0 :: L); refine Ent.trans (rjc (p := p) (v := v) (sf := sf) (pa := pa) (pc := pc) (ps := ps) (da := da) (dc := dc) (ds := ds) (a := a) (a' := a') (c := c) (c' := c') (es := es) (is := is) hq hok) ?_; repeat (first | exact Ent.refl _ | exact Ent.nil | refine Ent.pick ?_ | refine Ent.nilS ?_ | refine Ent.nilM ?_ | refine Ent.drop ?_)
                  · refine S.bs1 (cs := mailC (voteN n.txn 8)) rfl rfl rfl rfl rfl (fun bE => ?_)
                    refine Q.r ?_; (repeat (intro b1; refine Q.r ?_))
                    repeat (first | refine D.endA ?_ | refine Q.dy rfl rfl rfl ?_ | refine Q.dp rfl rfl rfl ?_ | refine D.end_ ?_ | refine Q.endH ?_ | (refine D.e rfl rfl rfl ?_; (first | refine S.gskip1 rfl ?_ | refine S.gskip rfl ?_ | refine S.y (Y.gskipU rfl) ?_); refine opsS_nil ?_; refine N.tn ?_))
                    refine D.e rfl rfl rfl ?_
                    refine S.bs1 (cs := (⟨12, n.txn, 0, 0, n.after, 0, 0, 0, 0, 0, 0, 0, n.pa, n.pc, n.parts, n.oa, n.oc, n.ops, none, 0, [], none, 0, []⟩ : NV).cells) rfl rfl rfl rfl rfl (fun bR => ?_)
                    refine Q.r ?_; (repeat (intro b1; refine Q.r ?_))
                    repeat (first | refine D.endA ?_ | refine Q.dy rfl rfl rfl ?_ | refine Q.dp rfl rfl rfl ?_ | refine D.end_ ?_ | refine Q.endH ?_ | (refine D.e rfl rfl rfl ?_; (first | refine S.gskip1 rfl ?_ | refine S.gskip rfl ?_ | refine S.y (Y.gskipU rfl) ?_); refine opsS_nil ?_; refine N.tn ?_))
                    refine Q.rd ?_; (repeat (intro b1; refine Q.rd ?_))
                    refine Q.r ?_; (repeat (intro b1; refine Q.r ?_))
                    refine N.r1 (by apply RV.cellN; rfl; exact RdC.row; rfl; exact RV.nil) ?_ ⟨some ⟨bR, 0, none⟩, 1, some ⟨bM, 0, none⟩, 1, some ⟨bE, 0, none⟩, 1, rfl, rfl⟩; show Ent _ (slO 36 16 (some ⟨bR, 0, none⟩) 1 1 (⟨12, n.txn, 0, 0, n.after, 0, 0, 0, 0, 0, 0, 0, n.pa, n.pc, n.parts, n.oa, n.oc, n.ops, none, 0, [], none, 0, []⟩ : NV).cells :: slO 135 17 (some ⟨bM, 0, none⟩) 1 1 (mailC (voteN n.txn 0)) :: slO 135 17 (some ⟨bE, 0, none⟩) 1 1 (mailC (voteN n.txn 8)) :: rjH p j :: roM M0 :: L); refine Ent.trans (rjc (p := p) (v := v) (sf := sf) (pa := pa) (pc := pc) (ps := ps) (da := da) (dc := dc) (ds := ds) (a := a) (a' := a') (c := c) (c' := c') (es := es) (is := is) hq hok) ?_; repeat (first | exact Ent.refl _ | exact Ent.nil | refine Ent.pick ?_ | refine Ent.nilS ?_ | refine Ent.nilM ?_ | refine Ent.drop ?_)
                · refine S.bs1 (cs := mailC (voteN n.txn 8)) rfl rfl rfl rfl rfl (fun bE => ?_)
                  refine Q.r ?_; (repeat (intro b1; refine Q.r ?_))
                  repeat (first | refine D.endA ?_ | refine Q.dy rfl rfl rfl ?_ | refine Q.dp rfl rfl rfl ?_ | refine D.end_ ?_ | refine Q.endH ?_ | (refine D.e rfl rfl rfl ?_; (first | refine S.gskip1 rfl ?_ | refine S.gskip rfl ?_ | refine S.y (Y.gskipU rfl) ?_); refine opsS_nil ?_; refine N.tn ?_))
                  refine D.two 9 13 [13, 18, 19] [9, 18, 19] (by kernel_rfl) rfl rfl rfl rfl (by kernel_rfl) (by kernel_rfl) ?_ ?_
                  · refine S.bs1 (cs := (⟨12, n.txn, 0, 0, n.after, 0, 0, 0, 0, 0, 0, 0, n.pa, n.pc, n.parts, n.oa, n.oc, n.ops, none, 0, [], none, 0, []⟩ : NV).cells) rfl rfl rfl rfl rfl (fun bR => ?_)
                    refine Q.r ?_; (repeat (intro b1; refine Q.r ?_))
                    repeat (first | refine D.endA ?_ | refine Q.dy rfl rfl rfl ?_ | refine Q.dp rfl rfl rfl ?_ | refine D.end_ ?_ | refine Q.endH ?_ | (refine D.e rfl rfl rfl ?_; (first | refine S.gskip1 rfl ?_ | refine S.gskip rfl ?_ | refine S.y (Y.gskipU rfl) ?_); refine opsS_nil ?_; refine N.tn ?_))
                    refine D.e rfl rfl rfl ?_
                    refine S.bs1 (cs := mailC (voteN n.txn 0)) rfl rfl rfl rfl rfl (fun bM => ?_)
                    refine Q.r ?_; (repeat (intro b1; refine Q.r ?_))
                    repeat (first | refine D.endA ?_ | refine Q.dy rfl rfl rfl ?_ | refine Q.dp rfl rfl rfl ?_ | refine D.end_ ?_ | refine Q.endH ?_ | (refine D.e rfl rfl rfl ?_; (first | refine S.gskip1 rfl ?_ | refine S.gskip rfl ?_ | refine S.y (Y.gskipU rfl) ?_); refine opsS_nil ?_; refine N.tn ?_))
                    refine Q.rd ?_; (repeat (intro b1; refine Q.rd ?_))
                    refine Q.r ?_; (repeat (intro b1; refine Q.r ?_))
                    refine N.r1 (by apply RV.cellN; rfl; exact RdC.row; rfl; exact RV.nil) ?_ ⟨some ⟨bR, 0, none⟩, 1, some ⟨bM, 0, none⟩, 1, some ⟨bE, 0, none⟩, 1, rfl, rfl⟩; show Ent _ (slO 36 16 (some ⟨bR, 0, none⟩) 1 1 (⟨12, n.txn, 0, 0, n.after, 0, 0, 0, 0, 0, 0, 0, n.pa, n.pc, n.parts, n.oa, n.oc, n.ops, none, 0, [], none, 0, []⟩ : NV).cells :: slO 135 17 (some ⟨bM, 0, none⟩) 1 1 (mailC (voteN n.txn 0)) :: slO 135 17 (some ⟨bE, 0, none⟩) 1 1 (mailC (voteN n.txn 8)) :: rjH p j :: roM M0 :: L); refine Ent.trans (rjc (p := p) (v := v) (sf := sf) (pa := pa) (pc := pc) (ps := ps) (da := da) (dc := dc) (ds := ds) (a := a) (a' := a') (c := c) (c' := c') (es := es) (is := is) hq hok) ?_; repeat (first | exact Ent.refl _ | exact Ent.nil | refine Ent.pick ?_ | refine Ent.nilS ?_ | refine Ent.nilM ?_ | refine Ent.drop ?_)
                  · refine S.bs1 (cs := mailC (voteN n.txn 0)) rfl rfl rfl rfl rfl (fun bM => ?_)
                    refine Q.r ?_; (repeat (intro b1; refine Q.r ?_))
                    repeat (first | refine D.endA ?_ | refine Q.dy rfl rfl rfl ?_ | refine Q.dp rfl rfl rfl ?_ | refine D.end_ ?_ | refine Q.endH ?_ | (refine D.e rfl rfl rfl ?_; (first | refine S.gskip1 rfl ?_ | refine S.gskip rfl ?_ | refine S.y (Y.gskipU rfl) ?_); refine opsS_nil ?_; refine N.tn ?_))
                    refine D.e rfl rfl rfl ?_
                    refine S.bs1 (cs := (⟨12, n.txn, 0, 0, n.after, 0, 0, 0, 0, 0, 0, 0, n.pa, n.pc, n.parts, n.oa, n.oc, n.ops, none, 0, [], none, 0, []⟩ : NV).cells) rfl rfl rfl rfl rfl (fun bR => ?_)
                    refine Q.r ?_; (repeat (intro b1; refine Q.r ?_))
                    repeat (first | refine D.endA ?_ | refine Q.dy rfl rfl rfl ?_ | refine Q.dp rfl rfl rfl ?_ | refine D.end_ ?_ | refine Q.endH ?_ | (refine D.e rfl rfl rfl ?_; (first | refine S.gskip1 rfl ?_ | refine S.gskip rfl ?_ | refine S.y (Y.gskipU rfl) ?_); refine opsS_nil ?_; refine N.tn ?_))
                    refine Q.rd ?_; (repeat (intro b1; refine Q.rd ?_))
                    refine Q.r ?_; (repeat (intro b1; refine Q.r ?_))
                    refine N.r1 (by apply RV.cellN; rfl; exact RdC.row; rfl; exact RV.nil) ?_ ⟨some ⟨bR, 0, none⟩, 1, some ⟨bM, 0, none⟩, 1, some ⟨bE, 0, none⟩, 1, rfl, rfl⟩; show Ent _ (slO 36 16 (some ⟨bR, 0, none⟩) 1 1 (⟨12, n.txn, 0, 0, n.after, 0, 0, 0, 0, 0, 0, 0, n.pa, n.pc, n.parts, n.oa, n.oc, n.ops, none, 0, [], none, 0, []⟩ : NV).cells :: slO 135 17 (some ⟨bM, 0, none⟩) 1 1 (mailC (voteN n.txn 0)) :: slO 135 17 (some ⟨bE, 0, none⟩) 1 1 (mailC (voteN n.txn 8)) :: rjH p j :: roM M0 :: L); refine Ent.trans (rjc (p := p) (v := v) (sf := sf) (pa := pa) (pc := pc) (ps := ps) (da := da) (dc := dc) (ds := ds) (a := a) (a' := a') (c := c) (c' := c') (es := es) (is := is) hq hok) ?_; repeat (first | exact Ent.refl _ | exact Ent.nil | refine Ent.pick ?_ | refine Ent.nilS ?_ | refine Ent.nilM ?_ | refine Ent.drop ?_)
    · rw [if_neg hf]
      refine Q.r ?_; (repeat (intro b1; refine Q.r ?_))
      refine N.r1 (by apply RV.cellN; rfl; exact RdC.row; rfl; exact RV.nil) ?_ ⟨none, 0, none, 0, none, 0, rfl, rfl⟩; show Ent _ (qR :: qM :: qM :: rjH p j :: roM M0 :: L); refine Ent.trans (rjc (p := p) (v := v) (sf := sf) (pa := pa) (pc := pc) (ps := ps) (da := da) (dc := dc) (ds := ds) (a := a) (a' := a') (c := c) (c' := c') (es := es) (is := is) hq hok) ?_; repeat (first | exact Ent.refl _ | exact Ent.nil | refine Ent.pick ?_ | refine Ent.nilS ?_ | refine Ent.nilM ?_ | refine Ent.drop ?_)
  rw [if_neg h3]
  by_cases h5 : n.kind = 5
  · rw [if_pos h5]
    unfold deciV
    by_cases hc : n.code = 0
    · rw [if_neg (fun h => h hc)]
      cases hd : lkL j.done n.txn with
      | some s =>
        have hs := hj.p _ _ hd
        dsimp only [Option.getD_some]
        by_cases he : s = n.stamp
        · rw [if_pos he]
          refine Q.r ?_; (repeat (intro b1; refine Q.r ?_))
          refine N.r1 (by apply RV.cellN; rfl; exact RdC.row; rfl; exact RV.nil) ?_ ⟨none, 0, some ⟨b1, 0, none⟩, 1, none, 0, rfl, rfl⟩; show Ent _ (qR :: slO 135 17 (some ⟨b1, 0, none⟩) 1 1 (mailC (ackN n.txn)) :: qM :: rjH p j :: roM M0 :: L); refine Ent.nilS ?_; refine Ent.trans ?_ (slO_fold rfl); refine Ent.trans (rjc (p := p) (v := v) (sf := sf) (pa := pa) (pc := pc) (ps := ps) (da := da) (dc := dc) (ds := ds) (a := a) (a' := a') (c := c) (c' := c') (es := es) (is := is) hq hok) ?_; repeat (first | exact Ent.refl _ | exact Ent.nil | refine Ent.pick ?_ | refine Ent.nilS ?_ | refine Ent.nilM ?_ | refine Ent.drop ?_)
        · rw [if_neg he]
          refine Q.r ?_; (repeat (intro b1; refine Q.r ?_))
          refine N.r1 (by apply RV.cellN; rfl; exact RdC.row; rfl; exact RV.nil) ?_ ⟨none, 0, none, 0, none, 0, rfl, rfl⟩; show Ent _ (qR :: qM :: qM :: rjH p j :: roM M0 :: L); refine Ent.trans (rjc (p := p) (v := v) (sf := sf) (pa := pa) (pc := pc) (ps := ps) (da := da) (dc := dc) (ds := ds) (a := a) (a' := a') (c := c) (c' := c') (es := es) (is := is) hq hok) ?_; repeat (first | exact Ent.refl _ | exact Ent.nil | refine Ent.pick ?_ | refine Ent.nilS ?_ | refine Ent.nilM ?_ | refine Ent.drop ?_)
      | none =>
        dsimp only [Option.getD_none]
        rcases hz with ⟨ki, i, rfl, hi, hit, hlk⟩ | ⟨rfl, hlk⟩
        · rw [hlk]
          dsimp only
          have hki : ki < is.length := (List.getElem?_eq_some_iff.1 hi).1
          have hmi : i ∈ is := List.mem_of_getElem? hi
          have hio := hopl i hmi
          obtain ⟨bi, oi, hia, cr⟩ := SlM.cm (g := IV.cells) (fun _ => rfl) hok.sI hi rfl
          by_cases g1 : i.after < n.stamp
          · by_cases g2 : j.v.mark < n.stamp
            · rw [hia]
              refine Q.r ?_; (repeat (intro b1; refine Q.r ?_))
              revert b1
              intro bA
              refine D.start [] [] [0, 1, 2, 3, 4, 5, 6, 7, 8, 9, 10, 11, 12, 13, 14, 15, 16, 17, 18, 19, 20, 21, 22, 23, 24, 25, 26, 27, 28, 29] _ [] rfl (by kernel_rfl) rfl (by kernel_rfl) NoPanic.no (Ent.refl _) ?_
              repeat (first | refine Q.dyn rfl rfl rfl ?_ | refine Q.dyl rfl rfl rfl ?_ | refine D.y rfl rfl rfl (by kernel_rfl) (by first | exact (Y.ldRj rfl (by first | assumption | exact RdC.sub (by assumption)) rfl) | exact Y.guard rfl (Y.ldRj rfl (by first | assumption | exact RdC.sub (by assumption)) rfl)) ?_ | refine D.endA ?_ | refine Q.dp rfl rfl rfl ?_ | refine Q.dy rfl rfl rfl ?_ | refine D.end_ ?_ | refine Q.endH ?_ | (refine D.e rfl rfl rfl ?_; (first | refine S.gskip1 rfl ?_ | refine S.gskip rfl ?_ | refine S.y (Y.gskipU rfl) ?_); refine opsS_nil ?_; refine N.tn ?_) | refine Q.dT rfl rfl rfl ?_ | refine Q.dF rfl rfl rfl ?_ | (refine D.e rfl rfl rfl ?_; (first | (refine GQ.a ?_; refine Q.al (fun b1 => ?_)) | (refine GQ.s ?_; refine Q.st ?_)); refine opsS_nil ?_; refine N.tn ?_))
              refine Q.r ?_; (repeat (intro b1; refine Q.r ?_))
              rw [← hia]
              have hio2 : ∀ o ∈ i.ops, (chV j.v.ch o.id).length ≤ 10000 := fun o _ => by
                unfold chV
                cases hz : lkL j.v.ch o.id with
                | none => exact Nat.zero_le _
                | some w => exact Nat.le_trans (hj.w.wf.co _ (lk_memL hz)).2.1 hk
              refine swp_cutB (σ := Unit) (fun _ => [(5, .pointer (some ⟨b0, 0, none⟩)), (6, .pointer (some ⟨bp, 0, none⟩)), (13, .slice (some ⟨bA, 0, none⟩) 1 1)]) (fun _ => pt bA (cl (mailC (ackN n.txn)) 135) :: pt bp (cl [.slice none 0 0, .slice none 0 0, .slice none 0 0] 97) :: pt b0 (cl n.cells 36) :: rjP p sf v pa ps pc da ds dc :: rP v j.v.dim a es c a' is c' j.v.mark :: roM Mv :: roM M :: roM M0 :: L) (fun _ => (i.ops.any fun o => (chV j.v.ch o.id).any fun v => decide (n.stamp ≤ v.1)) = false) ?_ ?_
              · refine swp_loop (σ := Nat) (fun m => [(0, .pointer (some ⟨p, 0, none⟩)), (5, .pointer (some ⟨b0, 0, none⟩)), (6, .pointer (some ⟨bp, 0, none⟩)), (13, .slice (some ⟨bA, 0, none⟩) 1 1), (195, .slice i.a i.ops.length i.c), (196, .int .i64 i.ops.length), (197, .int .i64 m)])
                  (fun _ => pt bA (cl (mailC (ackN n.txn)) 135) :: pt bp (cl [.slice none 0 0, .slice none 0 0, .slice none 0 0] 97) :: pt b0 (cl n.cells 36) :: rjP p sf v pa ps pc da ds dc :: rP v j.v.dim a es c a' is c' j.v.mark :: roM Mv :: roM M :: roM M0 :: L)
                  (fun m => m ≤ i.ops.length ∧ ((i.ops.take m).any fun o => (chV j.v.ch o.id).any fun v => decide (n.stamp ≤ v.1)) = false) (fun m => i.ops.length - m) 0 ⟨rfl, rfl, rfl, rfl, rfl, rfl, rfl, trivial⟩ (by repeat (first | exact Ent.refl _ | exact Ent.nil | refine Ent.pick ?_ | refine Ent.nilS ?_ | refine Ent.nilM ?_ | refine Ent.drop ?_)) ⟨by omega, by simp⟩ ?_
                rintro m ⟨hm1, hm2⟩
                by_cases hmt : m < i.ops.length
                · obtain ⟨o, ho⟩ := mem_get hmt
                  have hmo : o ∈ i.ops := List.mem_of_getElem? ho
                  have hcl2 := hio2 o hmo
                  obtain ⟨bo, oo, hoa, cro⟩ := SlM.cm (g := OV.cells) (fun _ => rfl) (hok.oi i hmi).1 ho rfl
                  rw [hoa]
                  refine Q.r ?_; (repeat (intro b1; refine Q.r ?_))
                  refine Q.dgo [true, true, true, true, true] [6] [] [0, 1, 2, 3, 4, 5, 8, 6, 7] ?_
                  refine Q.rd ?_; (repeat (intro b1; refine Q.rd ?_))
                  refine D.e rfl rfl rfl ?_
                  refine S.cr rfl (RChain_spec v j.v.dim a es c a' is c' j.v.mark o.id Mv _ hok.sE (by omega)) ?_
                  rintro w _ ⟨hv, rfl⟩
                  obtain ⟨ca, cc, vs, rfl, hcs, hvs⟩ : ∃ (ca : Option Addr) (cc : Nat) (vs : List OV), w = .slice ca vs.length cc ∧ SlM Mv ca vs.length 2 (vs.flatMap OV.cells) ∧ vs.map OV.abs = chV j.v.ch o.id := by
                    rcases hv with ⟨e, he, hid, rfl⟩ | ⟨rfl, hno⟩
                    · refine ⟨_, _, _, rfl, (hok.oe e he).1, ?_⟩
                      unfold chV
                      rw [← hid, (lkL_iff hok.k1).2 (hok.ch.mem_iff.1 (List.mem_map_of_mem (f := EV.abs) he))]; rfl
                    · refine ⟨none, 0, [], rfl, SlM.nil0, ?_⟩
                      unfold chV
                      rw [← lkL_perm hok.k1 hok.ch, lkL_none (fun u hu => by obtain ⟨e, he, rfl⟩ := List.mem_map.1 hu; exact hno e he)]; rfl
                  have hvl : vs.length ≤ 10000 := by rw [← hvs, List.length_map] at hcl2; exact hcl2
                  have hst : ((chV j.v.ch o.id).any fun v => decide (n.stamp ≤ v.1)) = vs.any fun v => decide (n.stamp ≤ v.id) := by rw [← hvs, List.any_map]; rfl
                  clear hv cro
                  refine Q.r ?_; (repeat (intro b1; refine Q.r ?_))
                  refine Q.rd ?_; (repeat (intro b1; refine Q.rd ?_))
                  refine Q.r ?_; (repeat (intro b1; refine Q.r ?_))
                  refine swp_loop (σ := Nat) (fun q => [(0, .pointer (some ⟨p, 0, none⟩)), (5, .pointer (some ⟨b0, 0, none⟩)), (6, .pointer (some ⟨bp, 0, none⟩)), (13, .slice (some ⟨bA, 0, none⟩) 1 1), (195, .slice (some ⟨bo, oo, none⟩) i.ops.length i.c), (196, .int .i64 i.ops.length), (197, .int .i64 m), (207, .slice ca vs.length cc), (208, .int .i64 vs.length), (209, .int .i64 q)])
                    (fun _ => pt bA (cl (mailC (ackN n.txn)) 135) :: pt bp (cl [.slice none 0 0, .slice none 0 0, .slice none 0 0] 97) :: pt b0 (cl n.cells 36) :: rjP p sf v pa ps pc da ds dc :: rP v j.v.dim a es c a' is c' j.v.mark :: roM Mv :: roM M :: roM M0 :: L)
                    (fun q => q ≤ vs.length ∧ ((vs.take q).any fun v => decide (n.stamp ≤ v.id)) = false) (fun q => vs.length - q) 0 ⟨rfl, rfl, rfl, rfl, rfl, rfl, rfl, rfl, rfl, rfl, trivial⟩ (by repeat (first | exact Ent.refl _ | exact Ent.nil | refine Ent.pick ?_ | refine Ent.nilS ?_ | refine Ent.nilM ?_ | refine Ent.drop ?_)) ⟨by omega, by simp⟩ ?_
                  rintro q ⟨hq1, hq2⟩
                  by_cases hqt : q < vs.length
                  · obtain ⟨y, hy⟩ := mem_get hqt
                    have hmy : y ∈ vs := List.mem_of_getElem? hy
                    obtain ⟨by_, oy, hya, cry⟩ := SlM.cm (g := OV.cells) (fun _ => rfl) hcs hy rfl
                    rw [hya]
                    by_cases hle : n.stamp ≤ y.id
                    · refine Q.r ?_; (repeat (intro b1; refine Q.r ?_))
                      have hab : aboveV j.v n.stamp (i.ops.map OV.abs) = false := by
                        rw [above_ref hj.w hj.ne, List.any_map]
                        have : (i.ops.any ((fun o => (chV j.v.ch o.1).any fun v => decide (n.stamp ≤ v.1)) ∘ OV.abs)) = true := List.any_eq_true.2 ⟨o, hmo, by show ((chV j.v.ch o.id).any fun v => decide (n.stamp ≤ v.1)) = true; rw [hst]; exact List.any_eq_true.2 ⟨y, hmy, decide_eq_true hle⟩⟩
                        rw [this]; rfl
                      rw [if_neg (fun h => by have := h.2; rw [show aboveV j.v n.abs.stamp (i.ops.map OV.abs) = false from hab] at this; cases this)]
                      refine N.r1 (by apply RV.cellN; rfl; exact RdC.row; rfl; exact RV.nil) ?_ ⟨none, 0, none, 0, none, 0, rfl, rfl⟩; show Ent _ (qR :: qM :: qM :: rjH p j :: roM M0 :: L); refine Ent.trans (rjc (p := p) (v := v) (sf := sf) (pa := pa) (pc := pc) (ps := ps) (da := da) (dc := dc) (ds := ds) (a := a) (a' := a') (c := c) (c' := c') (es := es) (is := is) hq hok) ?_; repeat (first | exact Ent.refl _ | exact Ent.nil | refine Ent.pick ?_ | refine Ent.nilS ?_ | refine Ent.nilM ?_ | refine Ent.drop ?_)
                    · refine Q.r ?_; (repeat (intro b1; refine Q.r ?_))
                      refine ⟨q + 1, ⟨rfl, rfl, rfl, rfl, rfl, rfl, rfl, by rw [← hya]; rfl, rfl, rfl, trivial⟩, by repeat (first | exact Ent.refl _ | exact Ent.nil | refine Ent.pick ?_ | refine Ent.nilS ?_ | refine Ent.nilM ?_ | refine Ent.drop ?_), ⟨by omega, ?_⟩, by omega⟩
                      rw [take_snoc hy, List.any_append, hq2, List.any_cons, decide_eq_false hle]; rfl
                  · have hqe : q = vs.length := by omega
                    subst hqe
                    rw [List.take_length] at hq2
                    refine Q.r ?_; (repeat (intro b1; refine Q.r ?_))
                    refine ⟨m + 1, ⟨rfl, rfl, rfl, rfl, rfl, rfl, rfl, trivial⟩, by repeat (first | exact Ent.refl _ | exact Ent.nil | refine Ent.pick ?_ | refine Ent.nilS ?_ | refine Ent.nilM ?_ | refine Ent.drop ?_), ⟨by omega, ?_⟩, by omega⟩
                    rw [take_snoc ho, List.any_append, hm2, List.any_cons, hst, hq2]; rfl
                · have hme : m = i.ops.length := by omega
                  subst hme
                  rw [List.take_length] at hm2
                  refine Q.r ?_; (repeat (intro b1; refine Q.r ?_))
                  exact ⟨(), ⟨rfl, rfl, rfl, trivial⟩, by repeat (first | exact Ent.refl _ | exact Ent.nil | refine Ent.pick ?_ | refine Ent.nilS ?_ | refine Ent.nilM ?_ | refine Ent.drop ?_), hm2⟩
              · intro _ hall
                have hab : aboveV j.v n.stamp (i.ops.map OV.abs) = true := by
                  rw [above_ref hj.w hj.ne, List.any_map]
                  have : (i.ops.any ((fun o => (chV j.v.ch o.1).any fun v => decide (n.stamp ≤ v.1)) ∘ OV.abs)) = false := hall
                  rw [this]; rfl
                rw [if_pos ⟨show max i.after j.v.mark < n.stamp by omega, hab⟩]
                refine Q.r ?_; (repeat (intro b1; refine Q.r ?_))
                refine N.r1 (by apply RV.cellN; rfl; exact RdC.row; rfl; exact RV.nil) ?_ ⟨some ⟨b1, 0, none⟩, 1, some ⟨bA, 0, none⟩, 1, none, 0, rfl, rfl⟩
                show Ent _ (slO 36 16 (some ⟨b1, 0, none⟩) 1 1 (comN n.txn n.stamp).nv.cells :: slO 135 17 (some ⟨bA, 0, none⟩) 1 1 (mailC (ackN n.txn)) :: qM :: rjH p j :: roM M0 :: L)
                refine Ent.trans ?_ (slO_fold rfl)
                refine Ent.trans ?_ (Ent.cons (slO_fold rfl))
                refine Ent.trans (rjc (p := p) (v := v) (sf := sf) (pa := pa) (pc := pc) (ps := ps) (da := da) (dc := dc) (ds := ds) (a := a) (a' := a') (c := c) (c' := c') (es := es) (is := is) hq hok) ?_
                repeat (first | exact Ent.refl _ | exact Ent.nil | refine Ent.pick ?_ | refine Ent.nilS ?_ | refine Ent.nilM ?_ | refine Ent.drop ?_)
            · rw [if_neg (fun h => absurd h.1 (show ¬ max i.after j.v.mark < n.stamp by omega)), hia]
              refine Q.r ?_; (repeat (intro b1; refine Q.r ?_))
              refine D.start [] [] [0, 1, 2, 3, 4, 5, 6, 7, 8, 9, 10, 11, 12, 13, 14, 15, 16, 17, 18, 19, 20, 21, 22, 23, 24, 25, 26, 27, 28, 29] _ [] rfl (by kernel_rfl) rfl (by kernel_rfl) NoPanic.no (Ent.refl _) ?_
              repeat (first | refine Q.dyn rfl rfl rfl ?_ | refine Q.dyl rfl rfl rfl ?_ | refine D.y rfl rfl rfl (by kernel_rfl) (by first | exact (Y.ldRj rfl (by first | assumption | exact RdC.sub (by assumption)) rfl) | exact Y.guard rfl (Y.ldRj rfl (by first | assumption | exact RdC.sub (by assumption)) rfl)) ?_ | refine D.endA ?_ | refine Q.dp rfl rfl rfl ?_ | refine Q.dy rfl rfl rfl ?_ | refine D.end_ ?_ | refine Q.endH ?_ | (refine D.e rfl rfl rfl ?_; (first | refine S.gskip1 rfl ?_ | refine S.gskip rfl ?_ | refine S.y (Y.gskipU rfl) ?_); refine opsS_nil ?_; refine N.tn ?_) | refine Q.dT rfl rfl rfl ?_ | refine Q.dF rfl rfl rfl ?_ | (refine D.e rfl rfl rfl ?_; (first | (refine GQ.a ?_; refine Q.al (fun b1 => ?_)) | (refine GQ.s ?_; refine Q.st ?_)); refine opsS_nil ?_; refine N.tn ?_))
              refine Q.r ?_; (repeat (intro b1; refine Q.r ?_))
              rw [← hia]
              refine N.r1 (by apply RV.cellN; rfl; exact RdC.row; rfl; exact RV.nil) ?_ ⟨none, 0, none, 0, none, 0, rfl, rfl⟩; show Ent _ (qR :: qM :: qM :: rjH p j :: roM M0 :: L); refine Ent.trans (rjc (p := p) (v := v) (sf := sf) (pa := pa) (pc := pc) (ps := ps) (da := da) (dc := dc) (ds := ds) (a := a) (a' := a') (c := c) (c' := c') (es := es) (is := is) hq hok) ?_; repeat (first | exact Ent.refl _ | exact Ent.nil | refine Ent.pick ?_ | refine Ent.nilS ?_ | refine Ent.nilM ?_ | refine Ent.drop ?_)
          · rw [if_neg (fun h => absurd h.1 (show ¬ max i.after j.v.mark < n.stamp by omega)), hia]
            refine Q.r ?_; (repeat (intro b1; refine Q.r ?_))
            refine D.start [] [] [0, 1, 2, 3, 4, 5, 6, 7, 8, 9, 10, 11, 12, 13, 14, 15, 16, 17, 18, 19, 20, 21, 22, 23, 24, 25, 26, 27, 28, 29] _ [] rfl (by kernel_rfl) rfl (by kernel_rfl) NoPanic.no (Ent.refl _) ?_
            repeat (first | refine Q.dyn rfl rfl rfl ?_ | refine Q.dyl rfl rfl rfl ?_ | refine D.y rfl rfl rfl (by kernel_rfl) (by first | exact (Y.ldRj rfl (by first | assumption | exact RdC.sub (by assumption)) rfl) | exact Y.guard rfl (Y.ldRj rfl (by first | assumption | exact RdC.sub (by assumption)) rfl)) ?_ | refine D.endA ?_ | refine Q.dp rfl rfl rfl ?_ | refine Q.dy rfl rfl rfl ?_ | refine D.end_ ?_ | refine Q.endH ?_ | (refine D.e rfl rfl rfl ?_; (first | refine S.gskip1 rfl ?_ | refine S.gskip rfl ?_ | refine S.y (Y.gskipU rfl) ?_); refine opsS_nil ?_; refine N.tn ?_) | refine Q.dT rfl rfl rfl ?_ | refine Q.dF rfl rfl rfl ?_ | (refine D.e rfl rfl rfl ?_; (first | (refine GQ.a ?_; refine Q.al (fun b1 => ?_)) | (refine GQ.s ?_; refine Q.st ?_)); refine opsS_nil ?_; refine N.tn ?_))
            refine Q.r ?_; (repeat (intro b1; refine Q.r ?_))
            rw [← hia]
            refine N.r1 (by apply RV.cellN; rfl; exact RdC.row; rfl; exact RV.nil) ?_ ⟨none, 0, none, 0, none, 0, rfl, rfl⟩; show Ent _ (qR :: qM :: qM :: rjH p j :: roM M0 :: L); refine Ent.trans (rjc (p := p) (v := v) (sf := sf) (pa := pa) (pc := pc) (ps := ps) (da := da) (dc := dc) (ds := ds) (a := a) (a' := a') (c := c) (c' := c') (es := es) (is := is) hq hok) ?_; repeat (first | exact Ent.refl _ | exact Ent.nil | refine Ent.pick ?_ | refine Ent.nilS ?_ | refine Ent.nilM ?_ | refine Ent.drop ?_)
        · rw [hlk]
          refine Q.r ?_; (repeat (intro b1; refine Q.r ?_))
          refine D.start [] [] [0, 1, 2, 3, 4, 5, 6, 7, 8, 9, 10, 11, 12, 13, 14, 15, 16, 17, 18, 19, 20, 21, 22, 23, 24, 25, 26, 27, 28, 29] _ [] rfl (by kernel_rfl) rfl (by kernel_rfl) NoPanic.no (Ent.refl _) ?_
          repeat (first | refine Q.dyn rfl rfl rfl ?_ | refine Q.dyl rfl rfl rfl ?_ | refine D.y rfl rfl rfl (by kernel_rfl) (by first | exact (Y.ldRj rfl (by first | assumption | exact RdC.sub (by assumption)) rfl) | exact Y.guard rfl (Y.ldRj rfl (by first | assumption | exact RdC.sub (by assumption)) rfl)) ?_ | refine D.endA ?_ | refine Q.dp rfl rfl rfl ?_ | refine Q.dy rfl rfl rfl ?_ | refine D.end_ ?_ | refine Q.endH ?_ | (refine D.e rfl rfl rfl ?_; (first | refine S.gskip1 rfl ?_ | refine S.gskip rfl ?_ | refine S.y (Y.gskipU rfl) ?_); refine opsS_nil ?_; refine N.tn ?_) | refine Q.dT rfl rfl rfl ?_ | refine Q.dF rfl rfl rfl ?_ | (refine D.e rfl rfl rfl ?_; (first | (refine GQ.a ?_; refine Q.al (fun b1 => ?_)) | (refine GQ.s ?_; refine Q.st ?_)); refine opsS_nil ?_; refine N.tn ?_))
          refine Q.r ?_; (repeat (intro b1; refine Q.r ?_))
          refine N.r1 (by apply RV.cellN; rfl; exact RdC.row; rfl; exact RV.nil) ?_ ⟨none, 0, none, 0, none, 0, rfl, rfl⟩; show Ent _ (qR :: qM :: qM :: rjH p j :: roM M0 :: L); refine Ent.trans (rjc (p := p) (v := v) (sf := sf) (pa := pa) (pc := pc) (ps := ps) (da := da) (dc := dc) (ds := ds) (a := a) (a' := a') (c := c) (c' := c') (es := es) (is := is) hq hok) ?_; repeat (first | exact Ent.refl _ | exact Ent.nil | refine Ent.pick ?_ | refine Ent.nilS ?_ | refine Ent.nilM ?_ | refine Ent.drop ?_)
    · rw [if_pos hc]
      rcases hz with ⟨ki, i, rfl, hi, hit, hlk⟩ | ⟨rfl, hlk⟩
      · have hsm : (lkL j.v.its n.txn).isSome = true := by rw [hlk]; rfl
        by_cases hf : fr = 0
        · rw [if_pos ⟨hsm, hf⟩]
          refine Q.r ?_; (repeat (intro b1; refine Q.r ?_))
          refine N.r1 (by apply RV.cellN; rfl; exact RdC.row; rfl; exact RV.nil) ?_ ⟨some ⟨b1, 0, none⟩, 1, none, 0, none, 0, rfl, rfl⟩; show Ent _ (slO 36 16 (some ⟨b1, 0, none⟩) 1 1 (aboN n.txn).nv.cells :: qM :: qM :: rjH p j :: roM M0 :: L); refine Ent.trans ?_ (slO_fold rfl); refine Ent.trans (rjc (p := p) (v := v) (sf := sf) (pa := pa) (pc := pc) (ps := ps) (da := da) (dc := dc) (ds := ds) (a := a) (a' := a') (c := c) (c' := c') (es := es) (is := is) hq hok) ?_; repeat (first | exact Ent.refl _ | exact Ent.nil | refine Ent.pick ?_ | refine Ent.nilS ?_ | refine Ent.nilM ?_ | refine Ent.drop ?_)
        · rw [if_neg (fun h => hf h.2)]
          refine Q.r ?_; (repeat (intro b1; refine Q.r ?_))
          refine N.r1 (by apply RV.cellN; rfl; exact RdC.row; rfl; exact RV.nil) ?_ ⟨none, 0, none, 0, none, 0, rfl, rfl⟩; show Ent _ (qR :: qM :: qM :: rjH p j :: roM M0 :: L); refine Ent.trans (rjc (p := p) (v := v) (sf := sf) (pa := pa) (pc := pc) (ps := ps) (da := da) (dc := dc) (ds := ds) (a := a) (a' := a') (c := c) (c' := c') (es := es) (is := is) hq hok) ?_; repeat (first | exact Ent.refl _ | exact Ent.nil | refine Ent.pick ?_ | refine Ent.nilS ?_ | refine Ent.nilM ?_ | refine Ent.drop ?_)
      · have hsm : ¬ (lkL j.v.its n.txn).isSome = true := by rw [hlk]; decide
        rw [if_neg (fun h => hsm h.1)]
        refine Q.r ?_; (repeat (intro b1; refine Q.r ?_))
        refine N.r1 (by apply RV.cellN; rfl; exact RdC.row; rfl; exact RV.nil) ?_ ⟨none, 0, none, 0, none, 0, rfl, rfl⟩; show Ent _ (qR :: qM :: qM :: rjH p j :: roM M0 :: L); refine Ent.trans (rjc (p := p) (v := v) (sf := sf) (pa := pa) (pc := pc) (ps := ps) (da := da) (dc := dc) (ds := ds) (a := a) (a' := a') (c := c) (c' := c') (es := es) (is := is) hq hok) ?_; repeat (first | exact Ent.refl _ | exact Ent.nil | refine Ent.pick ?_ | refine Ent.nilS ?_ | refine Ent.nilM ?_ | refine Ent.drop ?_)
  rw [if_neg h5]
  by_cases h7 : n.kind = 7
  · rw [if_pos h7]
    cases hd : lkL j.done n.txn with
    | some s =>
      have hs := hj.p _ _ hd
      dsimp only [Option.getD_some]
      refine Q.r ?_; (repeat (intro b1; refine Q.r ?_))
      refine N.r1 (by apply RV.cellN; rfl; exact RdC.row; rfl; exact RV.nil) ?_ ⟨none, 0, some ⟨b1, 0, none⟩, 1, none, 0, rfl, rfl⟩; show Ent _ (qR :: slO 135 17 (some ⟨b1, 0, none⟩) 1 1 (mailC ((fr, { NA.zero with kind := 5, txn := n.txn, stamp := s }))) :: qM :: rjH p j :: roM M0 :: L); refine Ent.nilS ?_; refine Ent.trans ?_ (slO_fold rfl); refine Ent.trans (rjc (p := p) (v := v) (sf := sf) (pa := pa) (pc := pc) (ps := ps) (da := da) (dc := dc) (ds := ds) (a := a) (a' := a') (c := c) (c' := c') (es := es) (is := is) hq hok) ?_; repeat (first | exact Ent.refl _ | exact Ent.nil | refine Ent.pick ?_ | refine Ent.nilS ?_ | refine Ent.nilM ?_ | refine Ent.drop ?_)
    | none =>
      dsimp only [Option.getD_none]
      refine Q.r ?_; (repeat (intro b1; refine Q.r ?_))
      refine N.r1 (by apply RV.cellN; rfl; exact RdC.row; rfl; exact RV.nil) ?_ ⟨none, 0, none, 0, none, 0, rfl, rfl⟩; show Ent _ (qR :: qM :: qM :: rjH p j :: roM M0 :: L); refine Ent.trans (rjc (p := p) (v := v) (sf := sf) (pa := pa) (pc := pc) (ps := ps) (da := da) (dc := dc) (ds := ds) (a := a) (a' := a') (c := c) (c' := c') (es := es) (is := is) hq hok) ?_; repeat (first | exact Ent.refl _ | exact Ent.nil | refine Ent.pick ?_ | refine Ent.nilS ?_ | refine Ent.nilM ?_ | refine Ent.drop ?_)
  · rw [if_neg h7]
    refine Q.r ?_; (repeat (intro b1; refine Q.r ?_))
    refine N.r1 (by apply RV.cellN; rfl; exact RdC.row; rfl; exact RV.nil) ?_ ⟨none, 0, none, 0, none, 0, rfl, rfl⟩; show Ent _ (qR :: qM :: qM :: rjH p j :: roM M0 :: L); refine Ent.trans (rjc (p := p) (v := v) (sf := sf) (pa := pa) (pc := pc) (ps := ps) (da := da) (dc := dc) (ds := ds) (a := a) (a' := a') (c := c) (c' := c') (es := es) (is := is) hq hok) ?_; repeat (first | exact Ent.refl _ | exact Ent.nil | refine Ent.pick ?_ | refine Ent.nilS ?_ | refine Ent.nilM ?_ | refine Ent.drop ?_)
end Go.Proofs.YtjidejcehmamkaaGreatDoor
