/- Chains: what they are; Len, Last, Search, after, At. No condition. -/
import Derived.Test.YtieejgbjgcbbjaaVecB
import Derived.Test.YtieejgbjgcbbjaaSxQ
set_option linter.unusedVariables false
set_option linter.unusedSimpArgs false
namespace Go.Proofs.Ytieejgbjgcbbjaa
open Go Go.SX
attribute [local irreducible] swp opsS thenS blockS retS CallsS St Ent YieldS anyS drawS
abbrev VL := List (Int × List Int)
def okR (M : Nat → Option Obj) (ovs : List OV) : Prop := ∀ o ∈ ovs, SlM M o.a o.vec.length 1 (o.vec.map I32)
def chainP (M : Nat → Option Obj) (p : Nat) (a : Option Addr) (c : Nat) (ovs : List OV) : List HP := [pt p (cl [.slice a ovs.length c] 142), slO 78 2 a ovs.length c (ovs.flatMap OV.cells)]
/-- A chain at a block: its versions, their vectors in M. -/
def chainH (M : Nat → Option Obj) (p : Nat) (vs : VL) : HP := exH fun x : (Option Addr × Nat) × List OV => allH (pureH (x.2.map OV.abs = vs ∧ okR M x.2) :: chainP M p x.1.1 x.1.2 x.2)
theorem chain_shut {M : Nat → Option Obj} {p : Nat} {a : Option Addr} {c : Nat} {ovs : List OV} {L : List HP} (h : okR M ovs) : Ent (pt p (cl [.slice a ovs.length c] 142) :: slO 78 2 a ovs.length c (ovs.flatMap OV.cells) :: L) (chainH M p (ovs.map OV.abs) :: L) :=
  Ent.trans (Ent.shut_pure ⟨rfl, h⟩) (Ent.trans (Ent.shut_all (L := pureH (ovs.map OV.abs = ovs.map OV.abs ∧ okR M ovs) :: chainP M p a c ovs)) (Ent.shut_ex (P := fun x : (Option Addr × Nat) × List OV => allH (pureH (x.2.map OV.abs = ovs.map OV.abs ∧ okR M x.2) :: chainP M p x.1.1 x.1.2 x.2)) ((a, c), ovs)))
theorem calls_chain {g : FuncId} {args : List Value} {R : Value → List HP → Prop} {M : Nat → Option Obj} {p : Nat} {vs : VL} {L : List HP}
    (h : ∀ a c ovs, ovs.map OV.abs = vs → okR M ovs → CallsS Try.prog g args (pt p (cl [.slice a ovs.length c] 142) :: slO 78 2 a ovs.length c (ovs.flatMap OV.cells) :: L) R) : CallsS Try.prog g args (chainH M p vs :: L) R :=
  CallsS.ex fun x => CallsS.all (CallsS.pure fun hx => h x.1.1 x.1.2 x.2 hx.1 hx.2)
theorem chain_rd {p b c k : Nat} {ovs : List OV} {o : OV} {L : List HP} (h : ovs[k]? = some o) : RdC (pt p (cl [.slice (some ⟨b, 0, none⟩) ovs.length c] 142) :: slO 78 2 (some ⟨b, 0, none⟩) ovs.length c (ovs.flatMap OV.cells) :: L) b (0 + k * 2) (OV.cells o) :=
  RdC.elem (g := OV.cells) (fun _ => rfl) RdC.ofS h
/-- The last stamp. -/
def lastS (vs : VL) : Int := ((vs.getLast?).map (·.1)).getD 0
theorem LenN_spec (L : List HP) : CallsS Try.prog 49 [.pointer none] L (fun v L' => v = .int .i64 0 ∧ L' = L) := by
  refine CallsS.of_body Try.func49 rfl rfl rfl ?_
  repeat (first | (refine GQ.y ?_; refine Q.y ?_) | refine N.tn ?_ | refine N.tr ?_ | refine N.te ?_ | refine N.bn ?_ | refine N.br ?_ | refine N.be ?_ | refine N.bx rfl ?_ | refine swp_seq ?_ | refine swp_region ?_ | refine opsS_nil ?_ | refine swp_ret ?_ | refine swp_skip ?_ | refine swp_exit ?_ | refine swp_block ?_ | refine swp_cond_true rfl ?_ | refine swp_cond_false rfl ?_ | (refine GQ.g ?_; refine Q.gq ?_) | (refine GQ.s ?_; refine Q.st ?_) | (refine GQ.g ?_; refine Q.gd ?_) | refine Q.ct rfl ?_ | refine Q.cf rfl ?_ | (refine GQ.a ?_; refine Q.al (fun b1 => ?_)))
  exact N.r1 (RV.tmp rfl RV.nil) (Ent.refl _) ⟨rfl, rfl⟩
theorem LastN_spec (L : List HP) : CallsS Try.prog 41 [.pointer none] L (fun v L' => v = .int .u64 0 ∧ L' = L) := by
  refine CallsS.of_body Try.func41 rfl rfl rfl ?_
  repeat (first | (refine GQ.y ?_; refine Q.y ?_) | refine N.tn ?_ | refine N.tr ?_ | refine N.te ?_ | refine N.bn ?_ | refine N.br ?_ | refine N.be ?_ | refine N.bx rfl ?_ | refine swp_seq ?_ | refine swp_region ?_ | refine opsS_nil ?_ | refine swp_ret ?_ | refine swp_skip ?_ | refine swp_exit ?_ | refine swp_block ?_ | refine swp_cond_true rfl ?_ | refine swp_cond_false rfl ?_ | (refine GQ.g ?_; refine Q.gq ?_) | (refine GQ.s ?_; refine Q.st ?_) | (refine GQ.g ?_; refine Q.gd ?_) | refine Q.ct rfl ?_ | refine Q.cf rfl ?_ | (refine GQ.a ?_; refine Q.al (fun b1 => ?_)))
  refine S.cr rfl (LenN_spec _) ?_
  rintro _ _ ⟨rfl, rfl⟩
  repeat (first | (refine GQ.y ?_; refine Q.y ?_) | refine N.tn ?_ | refine N.tr ?_ | refine N.te ?_ | refine N.bn ?_ | refine N.br ?_ | refine N.be ?_ | refine N.bx rfl ?_ | refine swp_seq ?_ | refine swp_region ?_ | refine opsS_nil ?_ | refine swp_ret ?_ | refine swp_skip ?_ | refine swp_exit ?_ | refine swp_block ?_ | refine swp_cond_true rfl ?_ | refine swp_cond_false rfl ?_ | (refine GQ.g ?_; refine Q.gq ?_) | (refine GQ.s ?_; refine Q.st ?_) | (refine GQ.g ?_; refine Q.gd ?_) | refine Q.ct rfl ?_ | refine Q.cf rfl ?_ | (refine GQ.a ?_; refine Q.al (fun b1 => ?_)))
  exact N.r1 (RV.tmp rfl RV.nil) (Ent.refl _) ⟨rfl, rfl⟩
theorem AtN_spec (st : Int) (L : List HP) : CallsS Try.prog 47 [.pointer none, .int .u64 st] L (fun v L' => v = .tuple #[.slice none 0 0, .bool false] ∧ L' = L) := by
  refine CallsS.of_body Try.func47 rfl rfl rfl ?_
  repeat (first | (refine GQ.y ?_; refine Q.y ?_) | refine N.tn ?_ | refine N.tr ?_ | refine N.te ?_ | refine N.bn ?_ | refine N.br ?_ | refine N.be ?_ | refine N.bx rfl ?_ | refine swp_seq ?_ | refine swp_region ?_ | refine opsS_nil ?_ | refine swp_ret ?_ | refine swp_skip ?_ | refine swp_exit ?_ | refine swp_block ?_ | refine swp_cond_true rfl ?_ | refine swp_cond_false rfl ?_ | (refine GQ.g ?_; refine Q.gq ?_) | (refine GQ.s ?_; refine Q.st ?_) | (refine GQ.g ?_; refine Q.gd ?_) | refine Q.ct rfl ?_ | refine Q.cf rfl ?_ | (refine GQ.a ?_; refine Q.al (fun b1 => ?_)))
  exact N.r2 (RV.tmp rfl (RV.tmp rfl RV.nil)) (Ent.refl _) ⟨rfl, rfl⟩
theorem Len_spec' (p : Nat) (a : Option Addr) (m c : Nat) (L : List HP) : CallsS Try.prog 49 [.pointer (some ⟨p, 0, none⟩)] (pt p (cl [.slice a m c] 142) :: L) (fun v L' => v = .int .i64 m ∧ L' = pt p (cl [.slice a m c] 142) :: L) := by
  refine CallsS.of_body Try.func49 rfl rfl rfl ?_
  repeat (first | (refine GQ.y ?_; refine Q.y ?_) | refine N.tn ?_ | refine N.tr ?_ | refine N.te ?_ | refine N.bn ?_ | refine N.br ?_ | refine N.be ?_ | refine N.bx rfl ?_ | refine swp_seq ?_ | refine swp_region ?_ | refine opsS_nil ?_ | refine swp_ret ?_ | refine swp_skip ?_ | refine swp_exit ?_ | refine swp_block ?_ | refine swp_cond_true rfl ?_ | refine swp_cond_false rfl ?_ | (refine GQ.g ?_; refine Q.gq ?_) | (refine GQ.s ?_; refine Q.st ?_) | (refine GQ.g ?_; refine Q.gd ?_) | refine Q.ct rfl ?_ | refine Q.cf rfl ?_ | (refine GQ.a ?_; refine Q.al (fun b1 => ?_)))
  exact N.r1 (RV.tmp rfl RV.nil) (Ent.refl _) ⟨rfl, rfl⟩
theorem ChLen_spec (M : Nat → Option Obj) (p : Nat) (vs : VL) (L : List HP) : CallsS Try.prog 49 [.pointer (some ⟨p, 0, none⟩)] (chainH M p vs :: L) (fun v L' => v = .int .i64 vs.length ∧ L' = chainH M p vs :: L) := by
  refine calls_chain fun a c ovs h1 h2 => ?_
  subst h1
  exact (Len_spec' p a ovs.length c _).weak (Ent.refl _) (by rintro _ _ ⟨rfl, rfl⟩; exact ⟨_, chain_shut h2, by simp, rfl⟩)
theorem ChLast_spec (M : Nat → Option Obj) (p : Nat) (vs : VL) (L : List HP) (hn : vs.length ≤ 1000000) : CallsS Try.prog 41 [.pointer (some ⟨p, 0, none⟩)] (chainH M p vs :: L) (fun v L' => v = .int .u64 (lastS vs) ∧ L' = chainH M p vs :: L) := by
  refine calls_chain fun a c ovs h1 h2 => ?_
  subst h1
  rw [List.length_map] at hn
  refine CallsS.of_body Try.func41 rfl rfl rfl ?_
  repeat (first | (refine GQ.y ?_; refine Q.y ?_) | refine N.tn ?_ | refine N.tr ?_ | refine N.te ?_ | refine N.bn ?_ | refine N.br ?_ | refine N.be ?_ | refine N.bx rfl ?_ | refine swp_seq ?_ | refine swp_region ?_ | refine opsS_nil ?_ | refine swp_ret ?_ | refine swp_skip ?_ | refine swp_exit ?_ | refine swp_block ?_ | refine swp_cond_true rfl ?_ | refine swp_cond_false rfl ?_ | (refine GQ.g ?_; refine Q.gq ?_) | (refine GQ.s ?_; refine Q.st ?_) | (refine GQ.g ?_; refine Q.gd ?_) | refine Q.ct rfl ?_ | refine Q.cf rfl ?_ | (refine GQ.a ?_; refine Q.al (fun b1 => ?_)))
  refine S.cr rfl (Len_spec' p a ovs.length c _) ?_
  rintro _ _ ⟨rfl, rfl⟩
  by_cases h0 : ovs.length = 0
  · have hx : ovs = [] := List.eq_nil_of_length_eq_zero h0
    repeat (first | (refine GQ.y ?_; refine Q.y ?_) | refine N.tn ?_ | refine N.tr ?_ | refine N.te ?_ | refine N.bn ?_ | refine N.br ?_ | refine N.be ?_ | refine N.bx rfl ?_ | refine swp_seq ?_ | refine swp_region ?_ | refine opsS_nil ?_ | refine swp_ret ?_ | refine swp_skip ?_ | refine swp_exit ?_ | refine swp_block ?_ | refine swp_cond_true rfl ?_ | refine swp_cond_false rfl ?_ | (refine GQ.g ?_; refine Q.gq ?_) | (refine GQ.s ?_; refine Q.st ?_) | (refine GQ.g ?_; refine Q.gd ?_) | refine Q.ct rfl ?_ | refine Q.cf rfl ?_ | (refine GQ.a ?_; refine Q.al (fun b1 => ?_)))
    exact N.r1 (RV.tmp rfl RV.nil) (chain_shut h2) ⟨by rw [hx]; rfl, rfl⟩
  · obtain ⟨o, ho⟩ := mem_get (l := ovs) (k := ovs.length - 1) (by omega)
    have hl : lastS (ovs.map OV.abs) = o.id := by
      unfold lastS
      rw [List.getLast?_map, List.getLast?_eq_getElem?, ho]; rfl
    repeat (first | (refine GQ.y ?_; refine Q.y ?_) | refine N.tn ?_ | refine N.tr ?_ | refine N.te ?_ | refine N.bn ?_ | refine N.br ?_ | refine N.be ?_ | refine N.bx rfl ?_ | refine swp_seq ?_ | refine swp_region ?_ | refine opsS_nil ?_ | refine swp_ret ?_ | refine swp_skip ?_ | refine swp_exit ?_ | refine swp_block ?_ | refine swp_cond_true rfl ?_ | refine swp_cond_false rfl ?_ | (refine GQ.g ?_; refine Q.gq ?_) | (refine GQ.s ?_; refine Q.st ?_) | (refine GQ.g ?_; refine Q.gd ?_) | refine Q.ct rfl ?_ | refine Q.cf rfl ?_ | (refine GQ.a ?_; refine Q.al (fun b1 => ?_)))
    refine swp_addr a (fun ha => ?_)
    rcases ha with ha | ⟨b, rfl⟩
    · omega
    have hr := chain_rd (p := p) (b := b) (c := c) (L := L) ho
    refine D.start [] [] [0, 1, 2, 3, 4, 5, 6, 7, 8, 9, 10, 11, 12, 13] _ [] rfl (by kernel_rfl) rfl (by kernel_rfl) NoPanic.no (Ent.refl _) ?_
    repeat (first | refine D.yp rfl rfl rfl (by first | exact Y.addN rfl rfl (by omega) | exact Y.addC rfl rfl (by omega) | exact Y.subN rfl rfl (by omega) | exact Y.subC rfl rfl (by omega) | exact Y.iaN rfl rfl (by omega) | exact Y.mulC rfl rfl (by omega) | exact Y.mulD rfl rfl (by omega) | exact Y.quoC rfl rfl (by omega) | exact Y.guard rfl (by first | exact Y.addN rfl rfl (by omega) | exact Y.addC rfl rfl (by omega) | exact Y.subN rfl rfl (by omega) | exact Y.subC rfl rfl (by omega) | exact Y.iaN rfl rfl (by omega) | exact Y.mulC rfl rfl (by omega) | exact Y.mulD rfl rfl (by omega) | exact Y.quoC rfl rfl (by omega))) ?_ | refine D.y rfl rfl rfl (by kernel_rfl) (by first | exact Y.ldI rfl (by omega) | exact Y.guard rfl (Y.ldI rfl (by omega))) ?_ | refine D.y rfl rfl rfl (by kernel_rfl) (by first | exact (Y.ldRj rfl (by first | assumption | exact RdC.sub (by assumption)) rfl) | exact Y.guard rfl (Y.ldRj rfl (by first | assumption | exact RdC.sub (by assumption)) rfl)) ?_ | refine D.endA ?_ | refine Q.dy rfl rfl rfl ?_ | refine Q.dp rfl rfl rfl ?_ | refine D.end_ ?_ | refine Q.endH ?_ | (refine D.e rfl rfl rfl ?_; (first | refine S.gskip1 rfl ?_ | refine S.gskip rfl ?_ | refine S.y (Y.gskipU rfl) ?_); refine opsS_nil ?_; refine N.tn ?_) | refine Q.dT rfl rfl rfl ?_ | refine Q.dF rfl rfl rfl ?_ | (refine D.e rfl rfl rfl ?_; (first | (refine GQ.a ?_; refine Q.al (fun b1 => ?_)) | (refine GQ.s ?_; refine Q.st ?_)); refine opsS_nil ?_; refine N.tn ?_))
    repeat (first | (refine GQ.y ?_; refine Q.y ?_) | refine N.tn ?_ | refine N.tr ?_ | refine N.te ?_ | refine N.bn ?_ | refine N.br ?_ | refine N.be ?_ | refine N.bx rfl ?_ | refine swp_seq ?_ | refine swp_region ?_ | refine opsS_nil ?_ | refine swp_ret ?_ | refine swp_skip ?_ | refine swp_exit ?_ | refine swp_block ?_ | refine swp_cond_true rfl ?_ | refine swp_cond_false rfl ?_ | (refine GQ.g ?_; refine Q.gq ?_) | (refine GQ.s ?_; refine Q.st ?_) | (refine GQ.g ?_; refine Q.gd ?_) | refine Q.ct rfl ?_ | refine Q.cf rfl ?_ | (refine GQ.a ?_; refine Q.al (fun b1 => ?_)))
    exact N.r1 (RV.tmp rfl RV.nil) (chain_shut h2) ⟨by rw [hl], rfl⟩
/-- How many have a stamp that is at most that. -/
def aftN (vs : VL) (st : Int) : Nat := (vs.filter fun v => decide (v.1 ≤ st)).length
theorem Search_spec (f : FuncId) (fs cs : List Value) [he : Enters Try.prog f] (p : Nat → Bool) (m r : Nat) (A : List HP) (hm : m ≤ 4611686018427387904) (hf : ∀ i, i < m → CallsS Try.prog f (fs ++ [.int .i64 i] ++ cs) A (fun v L' => v = .bool (p i) ∧ L' = A))
    (hr : r ≤ m) (hlo : ∀ i, i < r → p i = false) (hhi : ∀ i, r ≤ i → i < m → p i = true) :
    CallsS Try.prog 86 [.int .i64 m, .func (.func f) fs.toArray cs.toArray] A (fun v L' => v = .int .i64 r ∧ L' = A) := by
  refine CallsS.of_body Try.func86 rfl rfl rfl ?_
  repeat (first | (refine GQ.y ?_; refine Q.y ?_) | refine N.tn ?_ | refine N.tr ?_ | refine N.te ?_ | refine N.bn ?_ | refine N.br ?_ | refine N.be ?_ | refine N.bx rfl ?_ | refine swp_seq ?_ | refine swp_region ?_ | refine opsS_nil ?_ | refine swp_ret ?_ | refine swp_skip ?_ | refine swp_exit ?_ | refine swp_block ?_ | refine swp_cond_true rfl ?_ | refine swp_cond_false rfl ?_ | (refine GQ.g ?_; refine Q.gq ?_) | (refine GQ.s ?_; refine Q.st ?_) | (refine GQ.g ?_; refine Q.gd ?_) | refine Q.ct rfl ?_ | refine Q.cf rfl ?_ | (refine GQ.a ?_; refine Q.al (fun b1 => ?_)))
  refine swp_loop (σ := Nat × Nat) (fun s => [(1, .func (.func f) fs.toArray cs.toArray), (5, .int .i64 s.1), (6, .int .i64 s.2)]) (fun _ => A) (fun s => s.1 ≤ r ∧ r ≤ s.2 ∧ s.2 ≤ m) (fun s => s.2 - s.1) (0, m) ⟨rfl, rfl, rfl, trivial⟩ (Ent.refl _) ⟨by dsimp only; omega, by dsimp only; omega, by dsimp only; omega⟩ ?_
  rintro ⟨i, j⟩ ⟨h1, h2, h3⟩
  dsimp only at h1 h2 h3 ⊢
  by_cases hij : i < j
  · repeat (first | refine S.y (by first | exact Y.addN rfl rfl (by omega) | exact Y.addC rfl rfl (by omega) | exact Y.subN rfl rfl (by omega) | exact Y.subC rfl rfl (by omega) | exact Y.iaN rfl rfl (by omega) | exact Y.mulC rfl rfl (by omega) | exact Y.mulD rfl rfl (by omega) | exact Y.quoC rfl rfl (by omega) | exact Y.ldI rfl (by omega)) ?_ | refine S.stI rfl rfl (by first | omega | (rw [Array.size_setIfInBounds]; omega)) ?_ | (refine GQ.y ?_; refine Q.y ?_) | refine N.tn ?_ | refine N.tr ?_ | refine N.te ?_ | refine N.bn ?_ | refine N.br ?_ | refine N.be ?_ | refine N.bx rfl ?_ | refine swp_seq ?_ | refine swp_region ?_ | refine opsS_nil ?_ | refine swp_ret ?_ | refine swp_skip ?_ | refine swp_exit ?_ | refine swp_block ?_ | refine swp_cond_true rfl ?_ | refine swp_cond_false rfl ?_ | (refine GQ.g ?_; refine Q.gq ?_) | (refine GQ.s ?_; refine Q.st ?_) | (refine GQ.g ?_; refine Q.gd ?_) | refine Q.ct rfl ?_ | refine Q.cf rfl ?_ | (refine GQ.a ?_; refine Q.al (fun b1 => ?_)))
    refine S.y (Y.cvi rfl) ?_
    rw [wrap_u64 (by omega) (by omega)]
    refine S.y (Y.shr (a := i + j) (b := 1) rfl rfl (by decide)) ?_
    rw [show (i + j) / 2 ^ 1 = (i + j) / 2 by simp]
    refine S.y (Y.cvi rfl) ?_
    rw [wrap_i64 (by omega) (by omega)]
    obtain ⟨h, hh⟩ : ∃ h, h = (i + j) / 2 := ⟨_, rfl⟩
    have hh1 : i ≤ h := by omega
    have hh2 : h < j := by omega
    rw [← hh]
    repeat (first | refine S.y (by first | exact Y.addN rfl rfl (by omega) | exact Y.addC rfl rfl (by omega) | exact Y.subN rfl rfl (by omega) | exact Y.subC rfl rfl (by omega) | exact Y.iaN rfl rfl (by omega) | exact Y.mulC rfl rfl (by omega) | exact Y.mulD rfl rfl (by omega) | exact Y.quoC rfl rfl (by omega) | exact Y.ldI rfl (by omega)) ?_ | refine S.stI rfl rfl (by first | omega | (rw [Array.size_setIfInBounds]; omega)) ?_ | (refine GQ.y ?_; refine Q.y ?_) | refine N.tn ?_ | refine N.tr ?_ | refine N.te ?_ | refine N.bn ?_ | refine N.br ?_ | refine N.be ?_ | refine N.bx rfl ?_ | refine swp_seq ?_ | refine swp_region ?_ | refine opsS_nil ?_ | refine swp_ret ?_ | refine swp_skip ?_ | refine swp_exit ?_ | refine swp_block ?_ | refine swp_cond_true rfl ?_ | refine swp_cond_false rfl ?_ | (refine GQ.g ?_; refine Q.gq ?_) | (refine GQ.s ?_; refine Q.st ?_) | (refine GQ.g ?_; refine Q.gd ?_) | refine Q.ct rfl ?_ | refine Q.cf rfl ?_ | (refine GQ.a ?_; refine Q.al (fun b1 => ?_)))
    refine S.crF (fs := fs) (cs := cs) rfl rfl (hf h (by omega)) ?_
    rintro _ _ ⟨rfl, rfl⟩
    cases hp : p h with
    | true =>
      have hrh : r ≤ h := by
        by_cases hc : r ≤ h
        · exact hc
        · rw [hlo h (by omega)] at hp; cases hp
      repeat (first | refine S.y (by first | exact Y.addN rfl rfl (by omega) | exact Y.addC rfl rfl (by omega) | exact Y.subN rfl rfl (by omega) | exact Y.subC rfl rfl (by omega) | exact Y.iaN rfl rfl (by omega) | exact Y.mulC rfl rfl (by omega) | exact Y.mulD rfl rfl (by omega) | exact Y.quoC rfl rfl (by omega) | exact Y.ldI rfl (by omega)) ?_ | refine S.stI rfl rfl (by first | omega | (rw [Array.size_setIfInBounds]; omega)) ?_ | (refine GQ.y ?_; refine Q.y ?_) | refine N.tn ?_ | refine N.tr ?_ | refine N.te ?_ | refine N.bn ?_ | refine N.br ?_ | refine N.be ?_ | refine N.bx rfl ?_ | refine swp_seq ?_ | refine swp_region ?_ | refine opsS_nil ?_ | refine swp_ret ?_ | refine swp_skip ?_ | refine swp_exit ?_ | refine swp_block ?_ | refine swp_cond_true rfl ?_ | refine swp_cond_false rfl ?_ | (refine GQ.g ?_; refine Q.gq ?_) | (refine GQ.s ?_; refine Q.st ?_) | (refine GQ.g ?_; refine Q.gd ?_) | refine Q.ct rfl ?_ | refine Q.cf rfl ?_ | (refine GQ.a ?_; refine Q.al (fun b1 => ?_)))
      exact ⟨(i, h), ⟨rfl, rfl, rfl, trivial⟩, Ent.refl _, ⟨h1, hrh, by dsimp only; omega⟩, by dsimp only; omega⟩
    | false =>
      have hrh : h < r := by
        by_cases hc : h < r
        · exact hc
        · rw [hhi h (by omega) (by omega)] at hp; cases hp
      repeat (first | refine S.y (by first | exact Y.addN rfl rfl (by omega) | exact Y.addC rfl rfl (by omega) | exact Y.subN rfl rfl (by omega) | exact Y.subC rfl rfl (by omega) | exact Y.iaN rfl rfl (by omega) | exact Y.mulC rfl rfl (by omega) | exact Y.mulD rfl rfl (by omega) | exact Y.quoC rfl rfl (by omega) | exact Y.ldI rfl (by omega)) ?_ | refine S.stI rfl rfl (by first | omega | (rw [Array.size_setIfInBounds]; omega)) ?_ | (refine GQ.y ?_; refine Q.y ?_) | refine N.tn ?_ | refine N.tr ?_ | refine N.te ?_ | refine N.bn ?_ | refine N.br ?_ | refine N.be ?_ | refine N.bx rfl ?_ | refine swp_seq ?_ | refine swp_region ?_ | refine opsS_nil ?_ | refine swp_ret ?_ | refine swp_skip ?_ | refine swp_exit ?_ | refine swp_block ?_ | refine swp_cond_true rfl ?_ | refine swp_cond_false rfl ?_ | (refine GQ.g ?_; refine Q.gq ?_) | (refine GQ.s ?_; refine Q.st ?_) | (refine GQ.g ?_; refine Q.gd ?_) | refine Q.ct rfl ?_ | refine Q.cf rfl ?_ | (refine GQ.a ?_; refine Q.al (fun b1 => ?_)))
      exact ⟨(h + 1, j), ⟨rfl, rfl, rfl, trivial⟩, Ent.refl _, ⟨hrh, h2, h3⟩, by dsimp only; omega⟩
  · have : i = r := by omega
    subst this
    repeat (first | refine S.y (by first | exact Y.addN rfl rfl (by omega) | exact Y.addC rfl rfl (by omega) | exact Y.subN rfl rfl (by omega) | exact Y.subC rfl rfl (by omega) | exact Y.iaN rfl rfl (by omega) | exact Y.mulC rfl rfl (by omega) | exact Y.mulD rfl rfl (by omega) | exact Y.quoC rfl rfl (by omega) | exact Y.ldI rfl (by omega)) ?_ | refine S.stI rfl rfl (by first | omega | (rw [Array.size_setIfInBounds]; omega)) ?_ | (refine GQ.y ?_; refine Q.y ?_) | refine N.tn ?_ | refine N.tr ?_ | refine N.te ?_ | refine N.bn ?_ | refine N.br ?_ | refine N.be ?_ | refine N.bx rfl ?_ | refine swp_seq ?_ | refine swp_region ?_ | refine opsS_nil ?_ | refine swp_ret ?_ | refine swp_skip ?_ | refine swp_exit ?_ | refine swp_block ?_ | refine swp_cond_true rfl ?_ | refine swp_cond_false rfl ?_ | (refine GQ.g ?_; refine Q.gq ?_) | (refine GQ.s ?_; refine Q.st ?_) | (refine GQ.g ?_; refine Q.gd ?_) | refine Q.ct rfl ?_ | refine Q.cf rfl ?_ | (refine GQ.a ?_; refine Q.al (fun b1 => ?_)))
    exact N.r1 (RV.tmp rfl RV.nil) (Ent.refl _) ⟨rfl, rfl⟩
end Go.Proofs.Ytieejgbjgcbbjaa
