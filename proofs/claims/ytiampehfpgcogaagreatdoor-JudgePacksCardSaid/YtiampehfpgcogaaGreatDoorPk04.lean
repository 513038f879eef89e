/- slices.Sort's parts at numbers of type uint64, walked: breakPatterns. slices.Sort's parts at numbers of type uint64, walked: pdqsort. slices.Sort, slices.Sorted(maps.Keys(..)) at numbers of type uint64. The vault: ids, Dump (its length), Intents (its length), Get, Last. The vault: Get, Last. The vault's law: Few, awake. VaultApplies, walked. The ref's vault: what it is; Right, Check, Holds, Find, last, Chain, SameOps. The ref's vault: Free, SameOps, Check. The ref's vault: SameOps, Check. A slice's length is at most its capacity, as an entailment. The ref's vault: Lock. The ref's vault: Put, set. The ref's vault: Apply. The ref's vault: Apply, walked. Chains: Clone of versions, Sweep. The vault: Sweep. The ref's vault: the chain's Sweep, set of nothing. The ref's vault: Sweep. The vault's law: do. The vault: what every step keeps. Notes: as they lie; sorted, held. Notes: bare, bounded, sorted, Right. Notes: sorted, Right. The juror: notes, plans and records as laws of states. The juror: what it plans can be applied; what is over stays so. The vault: what Intents gives. VaultHolds: what is kept; the law, walked. The juror: what every record keeps, also one that was never planned. The ref's vault: At, Blocked, Get, Scan. The vault and the ref's: Get, Scan; SameHits, Mark. The vault: Scan. The vault: Intents, Dump, as what they give is owned. What is asked of vaults: Last, SameIntents, SameEntries, intents, entries. The juror as it lies; its simple calls. The juror: intent, taken, above. The juror: prepare. The juror: decide. The juror: Plan. The juror: Apply. The juror: New; the law's example. The document's note, cut: Hits, Few. No condition. -/
import Derived.Sort.AssemblyPlain
import Derived.Test.YtiampehfpgcogaaGreatDoorPk03
set_option linter.unusedVariables false
set_option linter.unusedSimpArgs false
set_option linter.unusedSectionVars false
namespace Go.Proofs.YtiampehfpgcogaaGreatDoor
open Go Go.SX
attribute [local irreducible] swp opsS thenS blockS retS CallsS St Ent YieldS anyS drawS
attribute [local irreducible] ar
def bkIt (a l m base : Nat) (d : Array Int) : Nat → UInt64 × Array Int
 | 0 => (UInt64.ofNat l,d)
 | k + 1 => Sort.breakStep a l m (bkIt a l m base d k) (base + k)
theorem bkIt_size (a l m base : Nat) (d : Array Int) : ∀ k,(bkIt a l m base d k).2.size = d.size
 | 0 => rfl
 | k + 1 => by simp only [bkIt,Sort.breakStep,swp_size];exact bkIt_size a l m base d k
set_option maxHeartbeats 8000000 in
theorem breakPatterns_spec (bk n c a b : Nat) (d : Array Int) (rs : List Value) (L : List HP) (hd : d.size = n) (h8 : a + 8 ≤ b) (hb : b ≤ n) (hn : n ≤ 17592186044416) :
  CallsS Tryz.prog 145 [SV bk n c,.int .i64 a,.int .i64 b] (AR bk d rs :: L) (fun v L' => v = .tuple #[] ∧ L' = AR bk (Sort.breakPatterns d a b) rs :: L) := by
 have hl : Sort.bitsLen (b - a) ≤ 45 := (Sort.bitsLen_le_iff (b - a) 45).2 (by omega)
 have hp : 1 <<< Sort.bitsLen (b - a) ≤ 2 ^ 45 := by rw [Nat.one_shiftLeft];exact Nat.pow_le_pow_right (by omega) hl
 have hp2 : 1 <<< Sort.bitsLen (b - a) ≤ 2 * (b - a) := by rw [Nat.one_shiftLeft];exact Sort.two_pow_bitsLen_le (by omega)
 have hp0 : 0 < 1 <<< Sort.bitsLen (b - a) := by rw [Nat.one_shiftLeft];exact Nat.two_pow_pos _
 have hres : Sort.breakPatterns d a b = (bkIt a (b - a) (1 <<< Sort.bitsLen (b - a)) (a + (b - a) / 4 * 2 - 1) d 3).2 := by
  unfold Sort.breakPatterns
  rw [if_pos (show b - a ≥ 8 by omega)]
  rfl
 rw [hres]
 clear hres
 obtain ⟨md,hmd⟩ : ∃ md,md = 1 <<< Sort.bitsLen (b - a) := ⟨_,rfl⟩
 have hu : IntKind.u64.wrap ((b - a : Nat) : Int) = ((UInt64.ofNat (b - a)).toNat : Int) := by
  rw [wrap_u64 (by omega) (by omega)];simp;omega
 refine CallsS.of_body Tryz.func145 rfl rfl rfl ?_
 refine Q.rn ?_;(repeat (intro b1;refine Q.rn ?_))
 refine S.y (Y.cvi rfl) ?_
 rw [hu]
 refine Q.rn ?_;(repeat (intro b1;refine Q.rn ?_))
 refine S.cr rfl (npow_spec (b - a) (by omega) _) ?_
 rintro _ _ ⟨rfl,rfl⟩
 rw [← hmd] at hp hp2 hp0 ⊢
 refine Q.rn ?_;(repeat (intro b1;refine Q.rn ?_))
 obtain ⟨base,hbase⟩ : ∃ base,base = a + (b - a) / 4 * 2 - 1 := ⟨_,rfl⟩
 rw [← hbase]
 refine swp_loop (σ := Nat) (fun k => [(0,SV bk n c),(1,.int .i64 a),(6,.int .i64 (b - a : Nat)),(7,.pointer (some ⟨b1,0,none⟩)),(8,.int .u64 md),(9,.int .i64 (base + k : Nat))])
  (fun k => RN b1 (bkIt a (b - a) md base d k).1 :: AR bk (bkIt a (b - a) md base d k).2 rs :: L) (fun k => k ≤ 3) (fun k => 3 - k) 0 ⟨rfl,rfl,rfl,rfl,rfl,rfl,trivial⟩ (Ent.refl _) (by omega) ?_
 intro k hk
 have hsz := bkIt_size a (b - a) md base d k
 rw [hd] at hsz
 by_cases hk3 : k = 3
 ·subst hk3
  refine Q.rn ?_;(repeat (intro b1;refine Q.rn ?_))
  refine N.n0 RV.nil (Ent.drop (Ent.refl _)) ⟨rfl,rfl⟩
 ·have hnx : bkIt a (b - a) md base d (k + 1) = Sort.breakStep a (b - a) md (bkIt a (b - a) md base d k) (base + k) := rfl
  have hgoal : ∀ r e,(Sort.xorNext (bkIt a (b - a) md base d k).1) = r → (bkIt a (b - a) md base d k).2 = e → bkIt a (b - a) md base d (k + 1) = (r,Sort.swp e (base + k) (a + (if r.toNat &&& (md - 1) ≥ b - a then (r.toNat &&& (md - 1)) - (b - a) else r.toNat &&& (md - 1)))) := fun r e h1 h2 => by rw [hnx,← h1,← h2];rfl
  refine Q.rn ?_;(repeat (intro b1;refine Q.rn ?_))
  refine S.cr rfl (Next_spec b1 _ _) ?_
  rintro _ _ ⟨rfl,rfl⟩
  generalize hr : Sort.xorNext (bkIt a (b - a) md base d k).1 = r at hgoal
  generalize he : (bkIt a (b - a) md base d k).2 = e at hgoal hsz
  have hg := hgoal r e rfl rfl
  have hand : r.toNat &&& (md - 1) ≤ md - 1 := Nat.and_le_right
  refine Q.rn ?_;(repeat (intro b1;refine Q.rn ?_))
  refine S.y (Y.sub rfl rfl) ?_
  rw [show ((md : Int) - 1) = ((md - 1 : Nat) : Int) by omega,wrap_u64 (by omega) (by omega)]
  refine S.y (Y.and rfl rfl) ?_
  rw [and64 _ _ (by have := r.toNat_lt;omega) (by omega)]
  refine S.y (Y.cvi rfl) ?_
  rw [wrap_i64 (by omega) (by omega)]
  obtain ⟨o,ho⟩ : ∃ o,o = r.toNat &&& (md - 1) := ⟨_,rfl⟩
  rw [← ho] at hand hg ⊢
  by_cases hol : o ≥ b - a
  ·rw [if_pos hol] at hg
   refine Q.rn ?_;(repeat (intro b1;refine Q.rn ?_))
   refine Q.dgo [false,true] [17,19] [17] [0,1,2,3,4,5,6,7,8,9,10,11,12,13,14,15,16,17,18,19] ?_
   (refine Q.rdn ?_;(repeat (intro b1;refine Q.rdn ?_)));refine Q.dc rfl rfl rfl rfl ?_;(refine Q.rn ?_;(repeat (intro b1;refine Q.rn ?_)));(refine Q.rdn ?_;(repeat (intro b1;refine Q.rdn ?_)));refine D.e rfl rfl rfl ?_;(refine Q.rn ?_;(repeat (intro b1;refine Q.rn ?_)));(refine Q.rdn ?_;(repeat (intro b1;refine Q.rdn ?_)));(refine Q.rn ?_;(repeat (intro b1;refine Q.rn ?_)))
   refine ⟨k + 1,⟨rfl,rfl,rfl,rfl,rfl,rfl,trivial⟩,?_,by omega,by omega⟩
   rw [hg]
   exact Ent.perm (.swap _ _ _)
  ·rw [if_neg hol] at hg
   refine Q.rn ?_;(repeat (intro b1;refine Q.rn ?_))
   refine Q.dgo [false,true] [17,19] [17] [0,1,2,3,4,5,6,7,8,9,10,11,12,13,14,15,16,17,18,19] ?_
   (refine Q.rdn ?_;(repeat (intro b1;refine Q.rdn ?_)));refine Q.dc rfl rfl rfl rfl ?_;(refine Q.rn ?_;(repeat (intro b1;refine Q.rn ?_)));(refine Q.rdn ?_;(repeat (intro b1;refine Q.rdn ?_)));refine D.e rfl rfl rfl ?_;(refine Q.rn ?_;(repeat (intro b1;refine Q.rn ?_)));(refine Q.rdn ?_;(repeat (intro b1;refine Q.rdn ?_)));(refine Q.rn ?_;(repeat (intro b1;refine Q.rn ?_)))
   refine ⟨k + 1,⟨rfl,rfl,rfl,rfl,rfl,rfl,trivial⟩,?_,by omega,by omega⟩
   rw [hg]
   exact Ent.perm (.swap _ _ _)
abbrev lI := Sort.ltInt
theorem below_perm {a b : Nat} {d d' : Array Int} (h : Sort.Below lI a b d) (hb : b ≤ d.size) (hp : Sort.PermIn a b d d') : Sort.Below lI a b d' := Sort.Below.permA Sort.permIn_all hb h hp
set_option maxHeartbeats 20000000 in
theorem pdq_spec (bk n c : Nat) (rs : List Value) (L : List HP) (hn : n ≤ 17592186044416) : ∀ (k a b lim : Nat) (d : Array Int),b - a = k → d.size = n → a ≤ b → b ≤ n → lim ≤ 1000 → Sort.Below lI a b d →
  CallsS Tryz.prog 129 [SV bk n c,.int .i64 a,.int .i64 b,.int .i64 lim] (AR bk d rs :: L) (fun v L' => v = .tuple #[] ∧ ∃ e,L' = AR bk e rs :: L ∧ Sort.PermIn a b d e ∧ Sort.SortedIn lI a b e) := by
 intro k
 induction k using Nat.strongRecOn with
 | _ k ih =>
 intro a b lim d hk hd hab hb hlim hbel
 refine CallsS.of_body Tryz.func129 rfl rfl rfl ?_
 refine Q.rn ?_;(repeat (intro b1;refine Q.rn ?_))
 refine swp_loop (σ := Nat × Nat × Nat × Bool × Bool × Array Int) (fun s => [(0,SV bk n c),(1,.int .i64 s.1),(2,.int .i64 s.2.1),(3,.int .i64 s.2.2.1),(8,.bool s.2.2.2.1),(9,.bool s.2.2.2.2.1)]) (fun s => AR bk s.2.2.2.2.2 rs :: L)
  (fun s => s.1 ≤ s.2.1 ∧ s.2.1 ≤ n ∧ s.2.1 - s.1 ≤ k ∧ s.2.2.1 ≤ 1000 ∧ s.2.2.2.2.2.size = n ∧ Sort.Below lI s.1 s.2.1 s.2.2.2.2.2 ∧ ∀ R,Sort.PermIn s.1 s.2.1 s.2.2.2.2.2 R → Sort.SortedIn lI s.1 s.2.1 R → Sort.PermIn a b d R ∧ Sort.SortedIn lI a b R)
  (fun s => s.2.1 - s.1) (a,b,lim,true,true,d) ⟨rfl,rfl,rfl,rfl,rfl,rfl,trivial⟩ (Ent.refl _) ⟨hab,hb,Nat.le_of_eq hk,hlim,hd,hbel,fun R h1 h2 => ⟨h1,h2⟩⟩ ?_
 rintro ⟨a1,b1,lm,wb,wp,e⟩ ⟨g1,g2,g3,g4,g5,g6,g7⟩
 dsimp only at g1 g2 g3 g4 g5 g6 g7 ⊢
 by_cases h12 : b1 - a1 ≤ 12
 ·refine Q.rn ?_;(repeat (intro b1;refine Q.rn ?_))
  refine S.cr rfl (insertionSort_spec bk n c a1 b1 e rs L g5 (by omega) g2 (by omega)) ?_
  rintro _ _ ⟨rfl,rfl⟩
  refine Q.rn ?_;(repeat (intro b1;refine Q.rn ?_))
  have := Sort.insertionSort_holds Sort.swo_ltInt e a1 b1 g1 (by omega)
  exact N.r0 RV.nil (Ent.refl _) ⟨rfl,_,rfl,g7 _ this.1 this.2⟩
 by_cases hl0 : lm = 0
 ·subst hl0
  refine Q.rn ?_;(repeat (intro b1;refine Q.rn ?_))
  refine S.cr rfl (heapSort_spec bk n c a1 b1 e rs L g5 (by omega) g2 hn) ?_
  rintro _ _ ⟨rfl,rfl⟩
  refine Q.rn ?_;(repeat (intro b1;refine Q.rn ?_))
  have := Sort.heapSort_holds Sort.swo_ltInt e a1 b1 g1 (by omega)
  exact N.r0 RV.nil (Ent.refl _) ⟨rfl,_,rfl,g7 _ this.1 this.2⟩
 refine Q.rn ?_;(repeat (intro b1;refine Q.rn ?_))
 refine swp_cutT (σ := Nat × Array Int) (fun s => [(0,SV bk n c),(1,.int .i64 a1),(2,.int .i64 b1),(3,.int .i64 s.1),(8,.bool wb),(9,.bool wp),(10,.int .i64 (b1 - a1 : Nat))]) (fun s => AR bk s.2 rs :: L) (fun s => s.1 ≤ 1000 ∧ Sort.PermIn a1 b1 e s.2) ?_ ?_
 ·cases wb with
  | true =>
   refine Q.rn ?_;(repeat (intro b1;refine Q.rn ?_))
   first | refine N.tn ?_ | skip
   exact ⟨(lm,e),⟨rfl,rfl,rfl,rfl,rfl,rfl,rfl,trivial⟩,Ent.refl _,g4,Sort.permIn_refl _ _ _⟩
  | false =>
   refine Q.rn ?_;(repeat (intro b1;refine Q.rn ?_))
   refine S.cr rfl (breakPatterns_spec bk n c a1 b1 e rs L g5 (by omega) g2 hn) ?_
   rintro _ _ ⟨rfl,rfl⟩
   refine Q.rn ?_;(repeat (intro b1;refine Q.rn ?_))
   first | refine N.tn ?_ | skip
   exact ⟨(lm - 1,_),⟨rfl,rfl,rfl,rfl,rfl,rfl,rfl,trivial⟩,Ent.refl _,by dsimp only;omega,Sort.breakPatterns_holds _ _ _ g1 (by omega)⟩
 rintro ⟨l1,e1⟩ ⟨q1,q2⟩
 dsimp only at q1 q2 ⊢
 have q3 : e1.size = n := by rw [q2.1];exact g5
 refine Q.rn ?_;(repeat (intro b1;refine Q.rn ?_))
 refine S.cr rfl (choosePivot_spec bk n c a1 b1 e1 rs L q3 (by omega) g2 hn) ?_
 rintro _ _ ⟨rfl,rfl⟩
 have hcp := Sort.choosePivot_holds Sort.ltInt e1 a1 b1 (by omega)
 generalize Sort.choosePivot Sort.ltInt e1 a1 b1 = cp at hcp
 obtain ⟨pv,hint⟩ := cp
 dsimp only at hcp ⊢
 refine Q.rn ?_;(repeat (intro b1;refine Q.rn ?_))
 refine swp_cutT (σ := Nat × Int × Array Int) (fun s => [(0,SV bk n c),(1,.int .i64 a1),(2,.int .i64 b1),(3,.int .i64 l1),(8,.bool wb),(9,.bool wp),(10,.int .i64 (b1 - a1 : Nat)),(11,.int .i64 s.1),(12,.int .i64 s.2.1)]) (fun s => AR bk s.2.2 rs :: L) (fun s => a1 ≤ s.1 ∧ s.1 < b1 ∧ Sort.PermIn a1 b1 e1 s.2.2) ?_ ?_
 ·by_cases hdec : hintN hint = 2
  ·refine Q.rn ?_;(repeat (intro b1;refine Q.rn ?_))
   refine S.cr rfl (reverseRange_spec bk n c a1 b1 e1 rs L q3 (by omega) g2 hn) ?_
   rintro _ _ ⟨rfl,rfl⟩
   refine Q.rn ?_;(repeat (intro b1;refine Q.rn ?_))
   first | refine N.tn ?_ | skip
   exact ⟨(b1 - 1 - (pv - a1),1,_),⟨rfl,rfl,rfl,rfl,rfl,rfl,rfl,rfl,rfl,trivial⟩,Ent.refl _,by dsimp only;omega,by dsimp only;omega,Sort.reverseRange_holds _ _ _ g1 (by omega)⟩
  ·refine Q.rn ?_;(repeat (intro b1;refine Q.rn ?_))
   first | refine N.tn ?_ | skip
   exact ⟨(pv,hintN hint,e1),⟨rfl,rfl,rfl,rfl,rfl,rfl,rfl,rfl,rfl,trivial⟩,Ent.refl _,hcp.1,hcp.2,Sort.permIn_refl _ _ _⟩
 clear hcp
 rintro ⟨p,hh,e2⟩ ⟨p1,p2,p3⟩
 dsimp only at p1 p2 p3 ⊢
 have p4 : e2.size = n := by rw [p3.1];exact q3
 have p5 : Sort.PermIn a1 b1 e e2 := Sort.permIn_trans _ _ _ a1 b1 q2 p3
 have p6 : Sort.Below lI a1 b1 e2 := below_perm g6 (by omega) p5
 clear p3 q2 q3
 repeat (refine swp_seq ?_)
 refine swp_cutT (σ := Bool) (fun s => [(0,SV bk n c),(1,.int .i64 a1),(2,.int .i64 b1),(3,.int .i64 l1),(8,.bool wb),(9,.bool wp),(10,.int .i64 (b1 - a1 : Nat)),(11,.int .i64 p),(68,.bool s)]) (fun s => AR bk e2 rs :: L) (fun s => True) ?_ ?_
 ·cases wb with
  | false =>
   refine Q.rn ?_;(repeat (intro b1;refine Q.rn ?_))
   exact ⟨_,⟨rfl,rfl,rfl,rfl,rfl,rfl,rfl,rfl,rfl,trivial⟩,Ent.refl _,trivial⟩
  | true =>
   cases wp with
   | false =>
    refine Q.rn ?_;(repeat (intro b1;refine Q.rn ?_))
    exact ⟨_,⟨rfl,rfl,rfl,rfl,rfl,rfl,rfl,rfl,rfl,trivial⟩,Ent.refl _,trivial⟩
   | true =>
    refine Q.rn ?_;(repeat (intro b1;refine Q.rn ?_))
    exact ⟨_,⟨rfl,rfl,rfl,rfl,rfl,rfl,rfl,rfl,rfl,trivial⟩,Ent.refl _,trivial⟩
 intro t68 _
 refine swp_cutT (σ := Array Int) (fun s => [(0,SV bk n c),(1,.int .i64 a1),(2,.int .i64 b1),(3,.int .i64 l1),(8,.bool wb),(9,.bool wp),(10,.int .i64 (b1 - a1 : Nat)),(11,.int .i64 p)]) (fun s => AR bk s rs :: L) (fun s => Sort.PermIn a1 b1 e s) ?_ ?_
 ·cases t68 with
  | false =>
   refine Q.rn ?_;(repeat (intro b1;refine Q.rn ?_))
   first | refine N.tn ?_ | skip
   exact ⟨e2,⟨rfl,rfl,rfl,rfl,rfl,rfl,rfl,rfl,trivial⟩,Ent.refl _,p5⟩
  | true =>
   refine Q.rn ?_;(repeat (intro b1;refine Q.rn ?_))
   refine S.cr rfl (partialInsertionSort_spec bk n c a1 b1 e2 rs L p4 (by omega) g2 hn) ?_
   rintro _ _ ⟨rfl,rfl⟩
   have hpi := Sort.partialInsertionSort_holds Sort.swo_ltInt e2 a1 b1 (by omega) (by omega) p6
   have hpp := Sort.permIn_trans _ _ _ a1 b1 p5 hpi.1
   cases hr : (Sort.partialInsertionSort Sort.ltInt e2 a1 b1).2 with
   | true =>
    refine Q.rn ?_;(repeat (intro b1;refine Q.rn ?_))
    exact N.r0 RV.nil (Ent.refl _) ⟨rfl,_,rfl,g7 _ hpp (hpi.2 hr)⟩
   | false =>
    refine Q.rn ?_;(repeat (intro b1;refine Q.rn ?_))
    first | refine N.tn ?_ | skip
    exact ⟨_,⟨rfl,rfl,rfl,rfl,rfl,rfl,rfl,rfl,trivial⟩,Ent.refl _,hpp⟩
 clear p4 p5 p6
 intro e3 p5
 have p4 : e3.size = n := by rw [p5.1];exact g5
 have p6 : Sort.Below lI a1 b1 e3 := below_perm g6 (by omega) p5
 repeat (refine swp_seq ?_)
 refine swp_cutT (σ := Bool) (fun s => [(0,SV bk n c),(1,.int .i64 a1),(2,.int .i64 b1),(3,.int .i64 l1),(8,.bool wb),(9,.bool wp),(10,.int .i64 (b1 - a1 : Nat)),(11,.int .i64 p),(87,.bool s)]) (fun s => AR bk e3 rs :: L) (fun s => s = (decide (a1 > 0) && !lI e3[a1 - 1]! e3[p]!)) ?_ ?_
 ·by_cases ha0 : 0 < a1
  ·refine Q.rn ?_;(repeat (intro b1;refine Q.rn ?_))
   refine Q.dgo [true] [12] [] [0,1,2,3,4,5,6,7,8,9,10,11,12,13,14] ?_
   refine Q.rdn ?_;(repeat (intro b1;refine Q.rdn ?_))
   refine D.e rfl rfl rfl ?_
   refine S.guard rfl ?_
   refine S.cr rfl (Less_spec _ _ _) ?_
   rintro _ M ⟨rfl,rfl⟩
   refine Q.rn ?_;(repeat (intro b1;refine Q.rn ?_))
   refine Q.rdn ?_;(repeat (intro b1;refine Q.rdn ?_))
   first | refine N.tn ?_ | skip
   exact ⟨_,⟨rfl,rfl,rfl,rfl,rfl,rfl,rfl,rfl,rfl,trivial⟩,Ent.refl _,by simp [ha0]⟩
  ·refine Q.rn ?_;(repeat (intro b1;refine Q.rn ?_))
   refine Q.dgo [true] [12] [] [0,1,2,3,4,5,6,7,8,9,10,11,12,13,14] ?_
   refine Q.rdn ?_;(repeat (intro b1;refine Q.rdn ?_))
   first | refine N.tn ?_ | skip
   exact ⟨_,⟨rfl,rfl,rfl,rfl,rfl,rfl,rfl,rfl,rfl,trivial⟩,Ent.refl _,by simp [ha0]⟩
 intro s hs
 cases s with
 | true =>
  symm at hs
  simp only [Bool.and_eq_true,decide_eq_true_eq,Bool.not_eq_true'] at hs
  refine Q.rn ?_;(repeat (intro b1;refine Q.rn ?_))
  refine S.cr rfl (partitionEqual_spec bk n c a1 b1 p e3 rs L p4 p1 p2 g2 hn) ?_
  rintro _ _ ⟨rfl,rfl⟩
  cases hx : Sort.partitionEqual Sort.ltInt e3 a1 b1 p with
  | mk mid e4 =>
  obtain ⟨r1,r2,r3,r4,r5⟩ := Sort.round_eq Sort.swo_ltInt (Sort.partitionEqual_holds Sort.ltInt) hs.1 p1 p2 (by omega) p6 hs.2 hx
  refine Q.rn ?_;(repeat (intro b1;refine Q.rn ?_))
  refine ⟨(mid,b1,l1,wb,wp,e4),⟨rfl,rfl,rfl,rfl,rfl,rfl,trivial⟩,Ent.refl _,⟨by dsimp only;omega,g2,by dsimp only;omega,q1,by dsimp only;omega,r4,fun R h1 h2 => ?_⟩,by dsimp only;omega⟩
  have := r5 R h1 h2
  exact g7 R (Sort.permIn_trans _ _ _ a1 b1 p5 this.1) this.2
 | false =>
  clear hs
  refine Q.rn ?_;(repeat (intro b1;refine Q.rn ?_))
  refine S.cr rfl (partition_spec bk n c a1 b1 p e3 rs L p4 p1 p2 g2 hn) ?_
  rintro _ _ ⟨rfl,rfl⟩
  rcases hx : Sort.partition Sort.ltInt e3 a1 b1 p with ⟨mid,ap,e4⟩
  obtain ⟨r1,r2,r3,r4,r5,r6,r7⟩ := Sort.round_part Sort.swo_ltInt (Sort.partition_holds Sort.ltInt) p1 p2 (by omega) p6 hx
  refine Q.rn ?_;(repeat (intro b1;refine Q.rn ?_))
  by_cases hlt : mid - a1 < b1 - mid
  ·refine Q.rn ?_;(repeat (intro b1;refine Q.rn ?_))
   refine S.cr rfl (ih (mid - a1) (by omega) a1 mid l1 e4 rfl (by omega) r1 (by omega) q1 r4) ?_
   rintro _ _ ⟨rfl,e5,rfl,u1,u2⟩
   obtain ⟨w1,w2⟩ := r6 e5 u1 u2
   refine Q.rn ?_;(repeat (intro b1;refine Q.rn ?_))
   refine ⟨(mid + 1,b1,l1,_,ap,e5),⟨rfl,rfl,rfl,rfl,rfl,rfl,trivial⟩,Ent.refl _,⟨by dsimp only;omega,g2,by dsimp only;omega,q1,by dsimp only;rw [u1.1];omega,w1,fun R h1 h2 => ?_⟩,by dsimp only;omega⟩
   have := w2 R h1 h2
   exact g7 R (Sort.permIn_trans _ _ _ a1 b1 p5 this.1) this.2
  ·refine Q.rn ?_;(repeat (intro b1;refine Q.rn ?_))
   refine S.cr rfl (ih (b1 - (mid + 1)) (by omega) (mid + 1) b1 l1 e4 rfl (by omega) (by omega) g2 q1 r5) ?_
   rintro _ _ ⟨rfl,e5,rfl,u1,u2⟩
   obtain ⟨w1,w2⟩ := r7 e5 u1 u2
   refine Q.rn ?_;(repeat (intro b1;refine Q.rn ?_))
   refine ⟨(a1,mid,l1,_,ap,e5),⟨rfl,rfl,rfl,rfl,rfl,rfl,trivial⟩,Ent.refl _,⟨r1,by dsimp only;omega,by dsimp only;omega,q1,by dsimp only;rw [u1.1];omega,w1,fun R h1 h2 => ?_⟩,by dsimp only;omega⟩
   have := w2 R h1 h2
   exact g7 R (Sort.permIn_trans _ _ _ a1 b1 p5 this.1) this.2
end Go.Proofs.YtiampehfpgcogaaGreatDoor
namespace Go.Proofs.YtiampehfpgcogaaGreatDoor
open Go Go.SX
attribute [local irreducible] swp opsS thenS blockS retS CallsS St Ent YieldS anyS drawS
def sortL (xs : List Int) : List Int := xs.mergeSort fun x y => decide (x ≤ y)
theorem sortL_perm (xs : List Int) : (sortL xs).Perm xs := List.mergeSort_perm _ _
theorem sortL_len (xs : List Int) : (sortL xs).length = xs.length := (sortL_perm xs).length_eq
theorem sortL_sorted (xs : List Int) : (sortL xs).Pairwise (· ≤ ·) := by
 have := List.pairwise_mergeSort (le := fun x y : Int => decide (x ≤ y)) (fun a b c h1 h2 => by simp at *;omega) (fun a b => by simp;omega) xs
 exact this.imp fun h => by simpa using h
theorem sorted_uniq : ∀ {l1 l2 : List Int},l1.Perm l2 → l1.Pairwise (· ≤ ·) → l2.Pairwise (· ≤ ·) → l1 = l2
 | [],l2,h,_,_ => by simpa using h
 | x :: l1,[],h,_,_ => by simp at h
 | x :: l1,y :: l2,h,h1,h2 => by
  have hx : x ∈ y :: l2 := h.subset (by simp)
  have hy : y ∈ x :: l1 := h.symm.subset (by simp)
  have e : x = y := by
   rcases List.mem_cons.1 hx with e | hx
   ·exact e
   ·rcases List.mem_cons.1 hy with e | hy
    ·exact e.symm
    ·have a := (List.pairwise_cons.1 h2).1 x hx
     have b := (List.pairwise_cons.1 h1).1 y hy
     omega
  subst e
  rw [sorted_uniq ((List.perm_cons x).1 h) (List.pairwise_cons.1 h1).2 (List.pairwise_cons.1 h2).2]
theorem sortL_eq {xs ys : List Int} (h : xs.Perm ys) : sortL xs = sortL ys := sorted_uniq ((sortL_perm xs).trans (h.trans (sortL_perm ys).symm)) (sortL_sorted _) (sortL_sorted _)
theorem insertionSort_zero (sv : Value) (L : List HP) : CallsS Tryz.prog 143 [sv,.int .i64 (0 : Nat),.int .i64 (0 : Nat)] L (fun v L' => v = .tuple #[] ∧ L' = L) := by
 refine CallsS.of_body Tryz.func143 rfl rfl rfl ?_
 refine Q.rn ?_;(repeat (intro b1;refine Q.rn ?_))
 refine swp_loop (σ := Unit) (fun s => [(2,.int .i64 (0 : Nat)),(6,.int .i64 (1 : Nat))]) (fun s => L) (fun s => True) (fun s => 0) () ⟨rfl,rfl,trivial⟩ (Ent.refl _) trivial ?_
 intro _ _
 refine Q.rn ?_;(repeat (intro b1;refine Q.rn ?_))
 exact N.n0 RV.nil (Ent.refl _) ⟨rfl,rfl⟩
theorem pdq_zero (sv : Value) (lim : Nat) (L : List HP) : CallsS Tryz.prog 129 [sv,.int .i64 (0 : Nat),.int .i64 (0 : Nat),.int .i64 lim] L (fun v L' => v = .tuple #[] ∧ L' = L) := by
 refine CallsS.of_body Tryz.func129 rfl rfl rfl ?_
 refine Q.rn ?_;(repeat (intro b1;refine Q.rn ?_))
 refine swp_loop (σ := Unit) (fun s => [(0,sv),(1,.int .i64 (0 : Nat)),(2,.int .i64 (0 : Nat))]) (fun s => L) (fun s => True) (fun s => 0) () ⟨rfl,rfl,rfl,trivial⟩ (Ent.refl _) trivial ?_
 intro _ _
 refine Q.rn ?_;(repeat (intro b1;refine Q.rn ?_))
 refine S.cr rfl (insertionSort_zero _ _) ?_
 rintro _ _ ⟨rfl,rfl⟩
 refine Q.rn ?_;(repeat (intro b1;refine Q.rn ?_))
 exact N.r0 RV.nil (Ent.refl _) ⟨rfl,rfl⟩
theorem ar_toList {k : IntKind} {d : Array Int} {rs : List Value} : ar k d rs = d.toList.map (Value.int k) ++ rs := rfl
set_option maxHeartbeats 2000000 in
theorem Sort_spec (a : Option Addr) (m c : Nat) (xs : List Int) (L : List HP) (hm : m = xs.length) (hn : m ≤ 17592186044416) :
  CallsS Tryz.prog 106 [.slice a m c] (slO 29 1 a m c (xs.map U64) :: L) (fun v L' => v = .tuple #[] ∧ L' = slO 29 1 a m c ((sortL xs).map U64) :: L) := by
 have hu : IntKind.u64.wrap (m : Int) = (m : Int) := wrap_u64 (by omega) (by omega)
 have hl : Sort.bitsLen m ≤ 45 := (Sort.bitsLen_le_iff m 45).2 (by omega)
 by_cases h0 : m = 0
 ·have hx : xs = [] := List.eq_nil_of_length_eq_zero (by omega)
  subst hx
  have hs : sortL [] = [] := by simp [sortL]
  rw [hs]
  refine CallsS.of_body Tryz.func106 rfl rfl rfl ?_
  refine Q.rn ?_;(repeat (intro b1;refine Q.rn ?_))
  refine S.y (Y.cvi rfl) ?_
  rw [hu]
  refine Q.rn ?_;(repeat (intro b1;refine Q.rn ?_))
  refine S.cr rfl (Len_spec m (by omega) _) ?_
  rintro _ _ ⟨rfl,rfl⟩
  subst h0
  refine S.cr rfl (pdq_zero _ (Sort.bitsLen 0) _) ?_
  rintro _ _ ⟨rfl,rfl⟩
  refine Q.rn ?_;(repeat (intro b1;refine Q.rn ?_))
  exact N.n0 RV.nil (Ent.refl _) ⟨rfl,rfl⟩
 refine CallsS.slO (by omega) fun b rest ha hmc hlen => ?_
 subst ha
 refine CallsS.of_body Tryz.func106 rfl rfl rfl ?_
 refine Q.rn ?_;(repeat (intro b1;refine Q.rn ?_))
 refine S.y (Y.cvi rfl) ?_
 rw [hu]
 refine Q.rn ?_;(repeat (intro b1;refine Q.rn ?_))
 refine S.cr rfl (Len_spec m (by omega) _) ?_
 rintro _ _ ⟨rfl,rfl⟩
 have hd : xs.toArray.size = m := by simp [hm]
 refine S.cr rfl (pdq_spec b m c rest _ hn m 0 m (Sort.bitsLen m) xs.toArray (by omega) hd (by omega) (Nat.le_refl _) (by omega) (.inl rfl)) ?_
 rintro _ _ ⟨rfl,e,rfl,h1,h2⟩
 have he : e.toList = sortL xs := by
  have := Sort.sorted_unique_holds (lt := Sort.ltInt) Sort.swo_ltInt (fun x y h1 h2 => by simp [Sort.ltInt] at h1 h2;omega) xs.toArray e (by rw [hd];exact h1) (by rw [hd];exact h2)
  rw [this]
  unfold sortL
  congr 1
  funext x y
  simp [Sort.ltInt]
  by_cases h : x ≤ y <;> simp [h] <;> omega
 refine Q.rn ?_;(repeat (intro b1;refine Q.rn ?_))
 refine N.n0 RV.nil ?_ ⟨rfl,rfl⟩
 have hen : (ar .u64 e rest) = (sortL xs).map U64 ++ rest := by rw [ar_toList,he]
 unfold AR
 rw [hen]
 exact slO_shut (by simp [sortL_len,hm]) hmc (by simpa [sortL_len] using hlen)
theorem Sorted_spec (gf : FuncId) (lb : List Value) [he : Enters Tryz.prog gf] (ks : List Int) (A A' : List HP) (hk : ks.length ≤ 17592186044416) (hseq : SeqS Tryz.prog gf lb U64 ks.length (fun xs => xs.Perm ks) A A') :
  CallsS Tryz.prog 62 [.func (.func gf) #[] lb.toArray] A (fun v L' => ∃ a c,v = .slice a ks.length c ∧ L' = slO 29 1 a ks.length c ((sortL ks).map U64) :: A') := by
 refine CallsS.of_body Tryz.func62 rfl rfl rfl ?_
 refine Q.r ?_;(repeat (intro b1;refine Q.r ?_))
 refine S.cr rfl (Collect_spec gf lb _ A A' (hseq.mono hk)) ?_
 rintro _ _ ⟨xs,a,c,hp,rfl,rfl⟩
 have hl := hp.length_eq
 refine Q.r ?_;(repeat (intro b1;refine Q.r ?_))
 refine S.cr rfl (Sort_spec a xs.length c xs A' rfl (by omega)) ?_
 rintro _ _ ⟨rfl,rfl⟩
 rw [sortL_eq hp,hl]
 refine Q.r ?_;(repeat (intro b1;refine Q.r ?_))
 exact N.r1 (RV.tmp rfl RV.nil) (Ent.refl _) ⟨a,c,rfl,rfl⟩
def fewV (k : Nat) (ops : VL) : VL := (ops.take k).map fun o => (o.1,o.2.take 10)
theorem fewV_all {n : Nat} {l : VL} (h : l.length ≤ n) : fewV n l = l.map fun o => (o.1,o.2.take 10) := by unfold fewV;rw [List.take_of_length_le h]
set_option maxHeartbeats 1000000 in
theorem FewA_spec (n : Nat) (a : Option Addr) (c : Nat) (ops : List OV) (A : List HP) (h : RdO A a ops) (hc : ∀ o ∈ ops,o.vec.length ≤ o.c) (hn : ops.length ≤ 9223372036854775807) (hnn : n ≤ 1000000) :
  CallsS Tryz.prog 41 [.slice a ops.length c,.int .i64 n] A (fun v L' => ∃ (a' : Option Addr) (c' : Nat) (us : List OV),us.map OV.abs = fewV n (ops.map OV.abs) ∧ (∀ o ∈ us,o.vec.length = 0 ∨ ∃ b,o.a = some ⟨b,0,none⟩) ∧ v = .slice a' us.length c' ∧ L' = slO 77 2 a' us.length c' (us.flatMap OV.cells) :: vecsH us :: A) := by
 refine CallsS.of_body Tryz.func41 rfl rfl rfl ?_
 refine Q.r ?_;(repeat (intro b1;refine Q.r ?_))
 refine swp_loop (σ := Nat × Option Addr × Nat × List OV) (fun s => [(1,.int .i64 n),(8,.slice a ops.length c),(9,.int .i64 ops.length),(5,.slice s.2.1 s.2.2.2.length s.2.2.1),(10,.int .i64 s.1)])
  (fun s => slO 77 2 s.2.1 s.2.2.2.length s.2.2.1 (s.2.2.2.flatMap OV.cells) :: vecsH s.2.2.2 :: A)
  (fun s => s.1 ≤ ops.length ∧ s.2.2.2.map OV.abs = fewV n ((ops.take s.1).map OV.abs) ∧ ∀ o ∈ s.2.2.2,o.vec.length = 0 ∨ ∃ b,o.a = some ⟨b,0,none⟩) (fun s => ops.length - s.1) (0,none,0,[]) ⟨rfl,rfl,rfl,rfl,rfl,trivial⟩ ?_ ⟨by omega,by simp [fewV],by simp⟩ ?_
 ·exact Ent.trans (Ent.trans bodV_nil slO_nil) (Ent.refl _)
 rintro ⟨k,a3,c3,us⟩ ⟨hk,hus,hua⟩
 dsimp only at hk hus hua ⊢
 have hul : us.length = min n k := by
  have := congrArg List.length hus
  simp [fewV] at this;omega
 by_cases hlt : k < ops.length
 ·obtain ⟨o,ho⟩ := mem_get hlt
  have hmo : o ∈ ops := List.mem_of_getElem? ho
  obtain ⟨b,oo,hia,hr⟩ := RdS.elem (g := OV.cells) (fun _ => rfl) h.1 ho rfl
  rw [hia]
  repeat (first | (refine GQ.y ?_;refine Q.y ?_) | refine Q.go ?_ | (refine GQ.g ?_;refine Q.gq ?_) | (refine GQ.s ?_;refine Q.st ?_) | (refine GQ.a ?_;refine Q.al (fun b1 => ?_)))
  by_cases hkn : k < n
  ·refine Q.r ?_;(repeat (intro b1;refine Q.r ?_))
   refine Q.dgo [true,false,false] [5,7,8] [] [0,1,2,3,4,5,6,7,8,9] ?_
   refine Q.rd ?_;(repeat (intro b1;refine Q.rd ?_))
   refine D.e rfl rfl rfl ?_
   refine S.cr rfl (CutVec_spec o.a o.c 10 o.vec _ ((h.2 o hmo).sub) (hc o hmo) (by omega)) ?_
   rintro _ _ ⟨a',c',rfl,rfl⟩
   refine opsS_addr a' (fun ha' => ?_)
   refine Q.r ?_;(repeat (intro b1;refine Q.r ?_))
   refine Q.rd ?_;(repeat (intro b1;refine Q.rd ?_))
   refine D.e rfl rfl rfl ?_
   refine S.app rfl rfl (SrcS.sl RdC.row (by rfl) (by rfl)) (by rfl) (by omega) (by omega) (fun a4 c4 => ?_)
   refine Q.r ?_;(repeat (intro b1;refine Q.r ?_))
   refine Q.rd ?_;(repeat (intro b1;refine Q.rd ?_))
   refine Q.r ?_;(repeat (intro b1;refine Q.r ?_))
   refine ⟨(k + 1,a4,c4,us ++ [⟨o.id,a',c',o.vec.take 10⟩]),⟨rfl,rfl,rfl,congrArg some (by simp),rfl,trivial⟩,?_,⟨by dsimp only;omega,?_,?_⟩,by dsimp only;omega⟩
   ·dsimp only
    rw [len_snoc,flat_snoc]
    refine Ent.pick (Ent.trans ?_ (vecs_snoc (o := ⟨o.id,a',c',o.vec.take 10⟩) rfl))
    exact Go.SX.Ent.go
   ·dsimp only
    rw [List.map_append,hus,fewV_all (l := (ops.take k).map OV.abs) (by simp;omega),fewV_all (l := (ops.take (k + 1)).map OV.abs) (by simp;omega),take_snoc ho,List.map_append,List.map_append];rfl
   ·intro u hu
    rcases List.mem_append.1 hu with hu | hu
    ·exact hua u hu
    ·obtain rfl := List.mem_singleton.1 hu
     exact ha'
  ·refine Q.r ?_;(repeat (intro b1;refine Q.r ?_))
   refine ⟨(k + 1,a3,c3,us),⟨rfl,rfl,rfl,rfl,rfl,trivial⟩,by exact Go.SX.Ent.go,⟨by dsimp only;omega,?_,hua⟩,by dsimp only;omega⟩
   dsimp only
   rw [hus]
   unfold fewV
   rw [← List.map_take,← List.map_take,List.take_take,List.take_take,show min n k = min n (k + 1) by omega]
 ·have hke : k = ops.length := by omega
  subst hke
  rw [List.take_length] at hus
  refine Q.r ?_;(repeat (intro b1;refine Q.r ?_))
  exact N.r1 (RV.tmp rfl RV.nil) (by exact Go.SX.Ent.go) ⟨a3,c3,us,hus,hua,rfl,rfl⟩
structure EV where
 id : Int
 a : Option Addr
 c : Nat
 vs : List OV
abbrev EV.cells (e : EV) : List Value := [.int .u64 e.id,.slice e.a e.vs.length e.c]
abbrev EV.abs (e : EV) : Int × VL := (e.id,e.vs.map OV.abs)
def okE (M : Nat → Option Obj) (e : EV) : Prop := SlM M e.a e.vs.length 2 (e.vs.flatMap OV.cells) ∧ okR M e.vs
theorem okE.mono {M M' : Nat → Option Obj} {e : EV} (h : okE M e) (hl : leM M M') : okE M' e := ⟨h.1.mono hl,fun o ho => (h.2 o ho).mono hl⟩
structure ROK (M : Nat → Option Obj) (st : VS) (a : Option Addr) (c : Nat) (es : List EV) (a' : Option Addr) (c' : Nat) (is : List IV) : Prop where
 ch : (es.map EV.abs).Perm st.ch
 cs : (es.map (·.id)).Pairwise (· < ·)
 its : (is.map IV.abs).Perm st.its
 ss : (is.map (·.txn)).Pairwise (· < ·)
 oe : ∀ e ∈ es,okE M e
 oi : ∀ i ∈ is,okI M i
 sE : SlM M a es.length 2 (es.flatMap EV.cells)
 sI : SlM M a' is.length 3 (is.flatMap IV.cells)
 cE : es.length ≤ c
 cI : is.length ≤ c'
 k1 : keysOK st.ch
 k2 : keysOK st.its
 oc : ∀ i ∈ is,∀ o ∈ i.ops,o.vec.length ≤ o.c
structure RX where
 a : Option Addr
 c : Nat
 es : List EV
 a' : Option Addr
 c' : Nat
 is : List IV
 M : Nat → Option Obj
section
variable {n : Nat} {ops rest : List Oper} {cd : Code} {Q : Post} {f : Env} {L L0 : List HP} {st : VS}
end
theorem RRight_spec (a : Option Addr) (c : Nat) (xs : List Int) (A : List HP) (h : RdS A a xs.length 1 (xs.map I32)) (hn : xs.length ≤ 4611686018427387904) :
  CallsS Tryz.prog 51 [.slice a xs.length c] A (fun v L' => v = .bool (rightV xs) ∧ L' = A) := by
 refine CallsS.of_body Tryz.func51 rfl rfl rfl ?_
 unfold rightV
 refine Q.r ?_;(repeat (intro b1;refine Q.r ?_))
 refine swp_loop (σ := Nat) (fun k => [(0,.slice a xs.length c),(5,.slice a xs.length c),(6,.int .i64 xs.length),(7,.int .i64 k)]) (fun _ => A)
  (fun k => k ≤ xs.length ∧ (xs.take k).any badC = false) (fun k => xs.length - k) 0 ⟨rfl,rfl,rfl,rfl,trivial⟩ (Ent.refl _) ⟨by omega,by simp⟩ ?_
 rintro k ⟨hk,hany⟩
 by_cases hlt : k < xs.length
 ·obtain ⟨x,hx⟩ := mem_get hlt
  have hmx : x ∈ xs := List.mem_of_getElem? hx
  obtain ⟨b,o,rfl,hr⟩ := RdS.elem (g := cI) (l := xs) (fun _ => rfl) (by rw [flat_I];exact h) hx rfl
  by_cases h1 : 268435456 < x
  ·have hb : badC x = true := by simp [badC];omega
   refine Q.r ?_;(repeat (intro b1;refine Q.r ?_))
   exact N.r1 (RV.tmp rfl RV.nil) (Ent.refl _) ⟨by rw [show xs.any badC = true from List.any_eq_true.2 ⟨x,hmx,hb⟩];simp,rfl⟩
  by_cases h2 : x < -268435456
  ·have hb : badC x = true := by simp [badC];omega
   refine Q.r ?_;(repeat (intro b1;refine Q.r ?_))
   exact N.r1 (RV.tmp rfl RV.nil) (Ent.refl _) ⟨by rw [show xs.any badC = true from List.any_eq_true.2 ⟨x,hmx,hb⟩];simp,rfl⟩
  ·have hb : badC x = false := by simp [badC];omega
   refine Q.r ?_;(repeat (intro b1;refine Q.r ?_))
   exact ⟨k + 1,⟨rfl,rfl,rfl,rfl,trivial⟩,Ent.refl _,⟨by omega,by rw [take_snoc hx,List.any_append,hany,List.any_cons,hb];rfl⟩,by omega⟩
 ·have hke : k = xs.length := by omega
  subst hke
  rw [List.take_length] at hany
  rw [hany]
  by_cases h0 : 0 < xs.length
  ·by_cases h8 : xs.length ≤ 8
   ·refine Q.r ?_;(repeat (intro b1;refine Q.r ?_))
    exact N.r1 (RV.tmp rfl RV.nil) (Ent.refl _) ⟨by simp [h0,h8];try omega,rfl⟩
   ·refine Q.r ?_;(repeat (intro b1;refine Q.r ?_))
    exact N.r1 (RV.tmp rfl RV.nil) (Ent.refl _) ⟨by simp [h0,h8];try omega,rfl⟩
  ·refine Q.r ?_;(repeat (intro b1;refine Q.r ?_))
   exact N.r1 (RV.tmp rfl RV.nil) (Ent.refl _) ⟨by simp [h0],rfl⟩
theorem flat_take {α : Type} {g : α → List Value} {sz : Nat} (hg : ∀ x,(g x).length = sz) : ∀ (l : List α) (k : Nat),(l.flatMap g).take (k * sz) = (l.take k).flatMap g
 | [],k => by simp
 | x :: l,0 => by simp
 | x :: l,k + 1 => by
  rw [List.flatMap_cons,List.take_succ_cons,List.flatMap_cons,← flat_take hg l k,Nat.add_mul,Nat.one_mul,Nat.add_comm,← hg x,List.take_length_add_append]
theorem flat_drop {α : Type} {g : α → List Value} {sz : Nat} (hg : ∀ x,(g x).length = sz) : ∀ (l : List α) (k : Nat),(l.flatMap g).drop (k * sz) = (l.drop k).flatMap g
 | [],k => by simp
 | x :: l,0 => by simp
 | x :: l,k + 1 => by
  rw [List.flatMap_cons,List.drop_succ_cons,← flat_drop hg l k,Nat.add_mul,Nat.one_mul,Nat.add_comm,← hg x,List.drop_length_add_append]
theorem lkL_iff {κ α : Type} [DecidableEq κ] {m : List (κ × α)} (h : keysOK m) {x : κ} {a : α} : lkL m x = some a ↔ (x,a) ∈ m := by
 refine ⟨lk_memL,fun hm => ?_⟩
 rcases keyCase m h x with ⟨p,b,q,rfl,hp,hq⟩ | hn
 ·rw [lkL_mid hp]
  rcases List.mem_append.1 hm with hm | hm
  ·exact absurd rfl (hp _ hm)
  rcases List.mem_cons.1 hm with hm | hm
  ·cases hm;rfl
  ·exact absurd rfl (hq _ hm)
 ·exact absurd rfl (hn _ hm)
theorem keys_perm {κ α : Type} [DecidableEq κ] {m m' : List (κ × α)} (h : keysOK m) (hp : m'.Perm m) : keysOK m' := (hp.map (fun u : κ × α => u.1)).nodup_iff.2 h
theorem lkL_perm {κ α : Type} [DecidableEq κ] {m m' : List (κ × α)} (h : keysOK m) (hp : m'.Perm m) (x : κ) : lkL m' x = lkL m x := by
 apply Option.ext
 intro a
 rw [lkL_iff (keys_perm h hp),lkL_iff h,hp.mem_iff]
theorem pw_filter {α : Type} {key : α → Int} {l : List α} (h : (l.map key).Pairwise (· < ·)) (p : α → Bool) : ((l.filter p).map key).Pairwise (· < ·) := by
 rw [List.pairwise_map] at h ⊢
 exact h.filter p
theorem ROK.len {M : Nat → Option Obj} {st : VS} {a a' : Option Addr} {c c' : Nat} {es : List EV} {is : List IV} (h : ROK M st a c es a' c' is) : is.length = st.its.length ∧ es.length = st.ch.length := by
 have h1 := h.its.length_eq
 have h2 := h.ch.length_eq
 simp at h1 h2
 exact ⟨h1,h2⟩
set_option maxHeartbeats 1000000 in
theorem SameOps_spec (a : Option Addr) (c : Nat) (xs : List OV) (a' : Option Addr) (c' : Nat) (ys : List OV) (A : List HP) (h : RdO A a xs) (h' : RdO A a' ys) (hn : xs.length ≤ 1000000) (hv : ∀ o ∈ xs,o.vec.length ≤ 1000000) (he : xs.map OV.abs = ys.map OV.abs) :
  CallsS Tryz.prog 78 [.slice a xs.length c,.slice a' ys.length c'] A (fun v L' => v = .bool true ∧ L' = A) := by
 have hl : ys.length = xs.length := by
  have := congrArg List.length he
  simp at this;omega
 refine CallsS.of_body Tryz.func78 rfl rfl rfl ?_
 refine Q.r ?_;(repeat (intro b1;refine Q.r ?_))
 refine swp_loop (σ := Nat) (fun k => [(0,.slice a xs.length c),(1,.slice a' ys.length c'),(12,.int .i64 xs.length),(13,.int .i64 k)]) (fun _ => A)
  (fun k => k ≤ xs.length) (fun k => xs.length - k) 0 ⟨rfl,rfl,rfl,rfl,trivial⟩ (Ent.refl _) (by omega) ?_
 intro k hk
 by_cases hlt : k < xs.length
 ·obtain ⟨x,hx⟩ := mem_get hlt
  obtain ⟨y,hy⟩ := mem_get (l := ys) (k := k) (by omega)
  have hxy : x.abs = y.abs := by
   have h1 : (xs.map OV.abs)[k]? = some x.abs := by simp [hx]
   have h2 : (ys.map OV.abs)[k]? = some y.abs := by simp [hy]
   rw [he,h2] at h1
   exact (Option.some.inj h1).symm
  have hid : x.id = y.id := congrArg Prod.fst hxy
  have hvc : x.vec = y.vec := congrArg Prod.snd hxy
  have hmx : x ∈ xs := List.mem_of_getElem? hx
  have hmy : y ∈ ys := List.mem_of_getElem? hy
  have hrx := h.2 x hmx
  have hry := h'.2 y hmy
  have hvx := hv x hmx
  obtain ⟨b,o,rfl,hr⟩ := RdS.elem (g := OV.cells) (l := xs) (fun _ => rfl) h.1 hx rfl
  obtain ⟨b',o',rfl,hr'⟩ := RdS.elem (g := OV.cells) (l := ys) (fun _ => rfl) h'.1 hy rfl
  clear hx hy hmx hmy hxy he
  obtain ⟨xi,xa,xc,xv⟩ := x
  obtain ⟨yi,ya,yc,yv⟩ := y
  dsimp only at hid hvc hrx hry hvx
  subst hid hvc
  replace hr : RdC A b (o + k * 2) [.int .u64 xi,.slice xa xv.length xc] := hr
  replace hr' : RdC A b' (o' + k * 2) [.int .u64 xi,.slice ya xv.length yc] := hr'
  refine Q.r ?_;(repeat (intro b1;refine Q.r ?_))
  refine D.start [22] [22] [0,1,2,3,4,5,6,7,8,9,10,11,12,13,14,15,16,17,18,19,20,21,22,23,24] _ [] rfl (by kernel_rfl) rfl (by kernel_rfl) NoPanic.no (Ent.refl _) ?_
  repeat (first | refine Q.dyn rfl rfl rfl ?_ | refine Q.dyl rfl rfl rfl ?_ | refine D.y rfl rfl rfl (by kernel_rfl) (by first | exact (Y.ldRj rfl (by first | assumption | exact RdC.sub (by assumption)) rfl) | exact Y.guard rfl (Y.ldRj rfl (by first | assumption | exact RdC.sub (by assumption)) rfl)) ?_ | refine D.endA ?_ | refine Q.dp rfl rfl rfl ?_ | refine Q.dy rfl rfl rfl ?_ | refine D.end_ ?_ | refine Q.endH ?_ | (refine D.e rfl rfl rfl ?_;(first | refine S.gskip1 rfl ?_ | refine S.gskip rfl ?_ | refine S.y (Y.gskipU rfl) ?_);refine opsS_nil ?_;refine N.tn ?_) | refine Q.dT rfl rfl rfl ?_ | refine Q.dF rfl rfl rfl ?_ | (refine D.e rfl rfl rfl ?_;(first | (refine GQ.a ?_;refine Q.al (fun b1 => ?_)) | (refine GQ.s ?_;refine Q.st ?_));refine opsS_nil ?_;refine N.tn ?_))
  refine Q.dF rfl rfl rfl ?_ (by simp)
  repeat (first | refine Q.dyn rfl rfl rfl ?_ | refine Q.dyl rfl rfl rfl ?_ | refine D.y rfl rfl rfl (by kernel_rfl) (by first | exact (Y.ldRj rfl (by first | assumption | exact RdC.sub (by assumption)) rfl) | exact Y.guard rfl (Y.ldRj rfl (by first | assumption | exact RdC.sub (by assumption)) rfl)) ?_ | refine D.endA ?_ | refine Q.dp rfl rfl rfl ?_ | refine Q.dy rfl rfl rfl ?_ | refine D.end_ ?_ | refine Q.endH ?_ | (refine D.e rfl rfl rfl ?_;(first | refine S.gskip1 rfl ?_ | refine S.gskip rfl ?_ | refine S.y (Y.gskipU rfl) ?_);refine opsS_nil ?_;refine N.tn ?_) | refine Q.dT rfl rfl rfl ?_ | refine Q.dF rfl rfl rfl ?_ | (refine D.e rfl rfl rfl ?_;(first | (refine GQ.a ?_;refine Q.al (fun b1 => ?_)) | (refine GQ.s ?_;refine Q.st ?_));refine opsS_nil ?_;refine N.tn ?_))
  refine Q.dc rfl rfl rfl rfl ?_
  rw [List.append_nil]
  refine S.guard rfl ?_
  refine S.cr rfl (SameVec_spec xa xc xv ya yc xv _ hrx.sub hry.sub (by omega)) ?_
  rintro _ _ ⟨rfl,rfl⟩
  refine Q.r ?_;(repeat (intro b1;refine Q.r ?_))
  repeat (first | refine Q.dyn rfl rfl rfl ?_ | refine Q.dyl rfl rfl rfl ?_ | refine D.y rfl rfl rfl (by kernel_rfl) (by first | exact (Y.ldRj rfl (by first | assumption | exact RdC.sub (by assumption)) rfl) | exact Y.guard rfl (Y.ldRj rfl (by first | assumption | exact RdC.sub (by assumption)) rfl)) ?_ | refine D.endA ?_ | refine Q.dp rfl rfl rfl ?_ | refine Q.dy rfl rfl rfl ?_ | refine D.end_ ?_ | refine Q.endH ?_ | (refine D.e rfl rfl rfl ?_;(first | refine S.gskip1 rfl ?_ | refine S.gskip rfl ?_ | refine S.y (Y.gskipU rfl) ?_);refine opsS_nil ?_;refine N.tn ?_) | refine Q.dT rfl rfl rfl ?_ | refine Q.dF rfl rfl rfl ?_ | (refine D.e rfl rfl rfl ?_;(first | (refine GQ.a ?_;refine Q.al (fun b1 => ?_)) | (refine GQ.s ?_;refine Q.st ?_));refine opsS_nil ?_;refine N.tn ?_))
  refine Q.r ?_;(repeat (intro b1;refine Q.r ?_))
  exact ⟨k + 1,⟨rfl,rfl,rfl,rfl,trivial⟩,Ent.refl _,by omega,by omega⟩
 ·have hke : k = xs.length := by omega
  subst hke
  refine Q.r ?_;(repeat (intro b1;refine Q.r ?_))
  exact N.r1 (RV.tmp rfl RV.nil) (Ent.refl _) ⟨rfl,rfl⟩
set_option maxHeartbeats 2000000 in
theorem RCheck_spec (dim : Int) (a : Option Addr) (c : Nat) (ops : List OV) (A : List HP) (h : RdO A a ops) (hc : ops.length ≤ c) (hn : ops.length ≤ 1000000) (hv : ∀ o ∈ ops,o.vec.length ≤ 1000000) (hd : -9223372036854775808 ≤ dim ∧ dim ≤ 9223372036854775807) :
  CallsS Tryz.prog 114 [.int .i64 dim,.slice a ops.length c] A (fun v L' => v = .int .i64 (checkV dim (ops.map OV.abs)) ∧ L' = A) := by
 unfold checkV
 rw [List.length_map]
 refine CallsS.of_body Tryz.func114 rfl rfl rfl ?_
 by_cases h1 : dim < 1 ∨ 8 < dim
 ·rw [if_pos h1]
  by_cases h1a : dim < 1
  ·refine Q.r ?_;(repeat (intro b1;refine Q.r ?_))
   exact N.r1 (RV.tmp rfl RV.nil) (Ent.refl _) ⟨rfl,rfl⟩
  ·refine Q.r ?_;(repeat (intro b1;refine Q.r ?_))
   exact N.r1 (RV.tmp rfl RV.nil) (Ent.refl _) ⟨rfl,rfl⟩
 rw [if_neg h1]
 by_cases h2 : ops.length = 0
 ·rw [if_pos h2]
  refine Q.r ?_;(repeat (intro b1;refine Q.r ?_))
  exact N.r1 (RV.tmp rfl RV.nil) (Ent.refl _) ⟨rfl,rfl⟩
 rw [if_neg h2]
 by_cases h3 : 16 < ops.length
 ·rw [if_pos h3]
  refine Q.r ?_;(repeat (intro b1;refine Q.r ?_))
  exact N.r1 (RV.tmp rfl RV.nil) (Ent.refl _) ⟨rfl,rfl⟩
 rw [if_neg h3]
 have hall : (ops.map OV.abs).any (badO dim) = ops.any fun o => badO dim o.abs := by rw [List.any_map];rfl
 rw [hall]
 refine Q.r ?_;(repeat (intro b1;refine Q.r ?_))
 refine swp_cutB (σ := Unit) (fun _ => [(1,.slice a ops.length c)]) (fun _ => A) (fun _ => (ops.any fun o => badO dim o.abs) = false) ?_ ?_
 ·refine swp_loop (σ := Nat) (fun k => [(0,.int .i64 dim),(1,.slice a ops.length c),(23,.slice a ops.length c),(24,.int .i64 ops.length),(25,.int .i64 k)]) (fun _ => A)
   (fun k => k ≤ ops.length ∧ (ops.take k).any (fun o => badO dim o.abs) = false) (fun k => ops.length - k) 0 ⟨rfl,rfl,rfl,rfl,rfl,trivial⟩ (Ent.refl _) ⟨by omega,by simp⟩ ?_
  rintro k ⟨hk,hany⟩
  by_cases hlt : k < ops.length
  ·obtain ⟨o,ho⟩ := mem_get hlt
   have hmo : o ∈ ops := List.mem_of_getElem? ho
   have hlen := hv o hmo
   obtain ⟨b2,o2,hia,hr⟩ := RdS.elem (g := OV.cells) (fun _ => rfl) h.1 ho rfl
   rw [hia]
   have hT : badO dim o.abs = true → (ops.any fun o => badO dim o.abs) = true := fun hb => List.any_eq_true.2 ⟨o,hmo,hb⟩
   have hF : badO dim o.abs = false → (ops.take (k + 1)).any (fun o => badO dim o.abs) = false := fun hb => by rw [take_snoc ho,List.any_append,hany,List.any_cons,hb];rfl
   by_cases c1 : 1099511627776 < o.id
   ·rw [hT (by simp [badO,c1])]
    refine Q.r ?_;(repeat (intro b1;refine Q.r ?_))
    exact N.r1 (RV.tmp rfl RV.nil) (by exact Go.SX.Ent.go) ⟨rfl,rfl⟩
   by_cases c2 : 0 < o.vec.length
   ·refine Q.r ?_;(repeat (intro b1;refine Q.r ?_))
    refine S.cr rfl (RRight_spec o.a o.c o.vec _ ((h.2 o hmo).sub) (by omega)) ?_
    rintro _ _ ⟨rfl,rfl⟩
    cases hrt : rightV o.vec with
    | false =>
     rw [hT (by simp [badO,c1,c2,hrt])]
     refine Q.r ?_;(repeat (intro b1;refine Q.r ?_))
     exact N.r1 (RV.tmp rfl RV.nil) (by exact Go.SX.Ent.go) ⟨rfl,rfl⟩
    | true =>
     by_cases c3 : (o.vec.length : Int) = dim
     ·have := hF (by simp [badO,c1,c2,hrt,c3])
      refine Q.r ?_;(repeat (intro b1;refine Q.r ?_))
      exact ⟨k + 1,⟨rfl,rfl,rfl,rfl,rfl,trivial⟩,by exact Go.SX.Ent.go,⟨by omega,this⟩,by omega⟩
     ·rw [hT (by simp [badO,c1,c2,hrt,c3])]
      refine Q.r ?_;(repeat (intro b1;refine Q.r ?_))
      exact N.r1 (RV.tmp rfl RV.nil) (by exact Go.SX.Ent.go) ⟨rfl,rfl⟩
   ·have := hF (by simp [badO,c1,c2])
    refine Q.r ?_;(repeat (intro b1;refine Q.r ?_))
    exact ⟨k + 1,⟨rfl,rfl,rfl,rfl,rfl,trivial⟩,by exact Go.SX.Ent.go,⟨by omega,this⟩,by omega⟩
  ·have hke : k = ops.length := by omega
   subst hke
   rw [List.take_length] at hany
   refine Q.r ?_;(repeat (intro b1;refine Q.r ?_))
   exact ⟨(),⟨rfl,trivial⟩,Ent.refl _,hany⟩
 intro uu hany
 rw [hany]
 simp only [Bool.false_eq_true,if_false]
 have hmm : (ops.map OV.abs).map (·.1) = ops.map (·.id) := by rw [List.map_map];rfl
 rw [hmm]
 refine Q.r ?_;(repeat (intro b1;refine Q.r ?_))
 refine swp_loop (σ := Nat) (fun k => [(1,.slice a ops.length c),(52,.slice a ops.length c),(53,.int .i64 ops.length),(54,.int .i64 k)]) (fun _ => A)
  (fun k => k ≤ ops.length ∧ ((ops.take k).map (·.id)).Nodup) (fun k => ops.length - k) 0 ⟨rfl,rfl,rfl,rfl,trivial⟩ (Ent.refl _) ⟨by omega,by simp⟩ ?_
 rintro k ⟨hk,hnd⟩
 by_cases hlt : k < ops.length
 ·obtain ⟨o,ho⟩ := mem_get hlt
  obtain ⟨b2,o2,hia,hr⟩ := RdS.elem (g := OV.cells) (fun _ => rfl) h.1 ho rfl
  rw [hia]
  refine Q.r ?_;(repeat (intro b1;refine Q.r ?_))
  refine S.y (Y.slT (h := k) rfl rfl rfl (by omega)) ?_
  refine Q.r ?_;(repeat (intro b1;refine Q.r ?_))
  refine swp_loop (σ := Nat) (fun j => [(1,.slice (some ⟨b2,o2,none⟩) ops.length c),(8,.pointer (some ⟨b1,0,none⟩)),(52,.slice (some ⟨b2,o2,none⟩) ops.length c),(53,.int .i64 ops.length),(54,.int .i64 k),(61,.slice (some ⟨b2,o2,none⟩) k c),(62,.int .i64 k),(63,.int .i64 j)]) (fun _ => pt b1 (cl o.cells 77) :: A)
    (fun j => j ≤ k ∧ o.id ∉ (ops.take j).map (·.id)) (fun j => k - j) 0 ⟨rfl,rfl,rfl,rfl,rfl,rfl,rfl,rfl,trivial⟩ (Ent.refl _) ⟨by omega,by simp⟩ ?_
  rintro j ⟨hj,hno⟩
  by_cases hjk : j < k
  ·obtain ⟨u,hu⟩ := mem_get (l := ops) (k := j) (by omega)
   obtain ⟨b3,o3,hia3,hr3⟩ := RdS.elem (g := OV.cells) (fun _ => rfl) h.1 hu rfl
   rw [hia] at hia3
   cases hia3
   by_cases he : u.id = o.id
   ·have hnn : ¬ (ops.map (·.id)).Nodup := fun hh => by
     have h1' : (ops.map (·.id))[j]? = some o.id := by simp [hu,he]
     have h2' : (ops.map (·.id))[k]? = some o.id := by simp [ho]
     have := (List.getElem?_inj (by simp;omega) hh).1 (h1'.trans h2'.symm)
     omega
    rw [if_neg hnn]
    refine Q.r ?_;(repeat (intro b1;refine Q.r ?_))
    exact N.r1 (RV.tmp rfl RV.nil) (by exact Go.SX.Ent.go) ⟨rfl,rfl⟩
   ·refine Q.r ?_;(repeat (intro b1;refine Q.r ?_))
    refine ⟨j + 1,⟨rfl,rfl,rfl,rfl,rfl,rfl,rfl,rfl,trivial⟩,by exact Go.SX.Ent.go,⟨by omega,?_⟩,by omega⟩
    rw [take_snoc hu,List.map_append]
    intro hm
    rcases List.mem_append.1 hm with hm | hm
    ·exact hno hm
    ·simp at hm;exact he hm.symm
  ·have hke : j = k := by omega
   subst hke
   refine Q.r ?_;(repeat (intro b1;refine Q.r ?_))
   refine ⟨j + 1,⟨rfl,rfl,rfl,rfl,trivial⟩,by exact Go.SX.Ent.go,⟨by omega,?_⟩,by omega⟩
   rw [take_snoc ho,List.map_append,List.nodup_append]
   refine ⟨hnd,by simp,fun x hx y hy => ?_⟩
   simp at hy
   subst hy
   exact fun e => hno (e ▸ hx)
 ·have hke : k = ops.length := by omega
  subst hke
  rw [List.take_length] at hnd
  rw [if_pos hnd]
  refine Q.r ?_;(repeat (intro b1;refine Q.r ?_))
  exact N.r1 (RV.tmp rfl RV.nil) (Ent.refl _) ⟨rfl,rfl⟩
end Go.Proofs.YtiampehfpgcogaaGreatDoor
namespace Go.SX
open Go
theorem slO_cap {t sz m c : Nat} {a : Option Addr} {cs : List Value} {L : List HP} : Ent (slO t sz a m c cs :: L) (pureH (m ≤ c) :: slO t sz a m c cs :: L) := fun w F H => by
 have hc : m ≤ c := UpdS.cap (a := a) (L := slO t sz a m c cs :: L) inferInstance H
 have e : Ent (slO t sz a m c cs :: L) (pureH (m ≤ c) :: slO t sz a m c cs :: L) := Ent.shut_pure hc
 exact e w F H
end Go.SX
namespace Go.Proofs.YtiampehfpgcogaaGreatDoor
open Go Go.SX
attribute [local irreducible] swp opsS thenS blockS retS CallsS St Ent YieldS anyS drawS
theorem keys_snoc {κ α : Type} [DecidableEq κ] {m : List (κ × α)} (h : keysOK m) {x : κ} (a : α) (hx : lkL m x = none) : keysOK (m ++ [(x,a)]) := by
 have hn := lk_none' hx
 unfold keysOK
 rw [List.map_append,List.nodup_append]
 refine ⟨h,by simp,fun y hy z hz => ?_⟩
 simp at hz
 subst hz
 obtain ⟨u,hu,rfl⟩ := List.mem_map.1 hy
 exact hn u hu
theorem vecs_abs2 {L L0 : List HP} {M : Nat → Option Obj} [hp : PickM L M L0] : ∀ us : List OV,Ent (vecsH us :: L) (exH (fun M' => allH [pureH (leM M M' ∧ okR M' us ∧ ∀ o ∈ us,o.vec.length ≤ o.c),roM M']) :: L0) := by
 intro us
 induction us generalizing M L with
 | nil =>
  refine Ent.drop (hp.ent.trans ?_)
  refine Ent.trans ?_ (Ent.shut_ex M)
  refine Ent.trans ?_ Ent.shut_all
  exact Ent.shut_pure ⟨leM.refl M,fun o ho => by (cases ho),fun o ho => by (cases ho)⟩
 | cons o us ih =>
  have h1 : Ent (vecsH (o :: us) :: L) (slO 21 1 o.a o.vec.length o.c (o.vec.map I32) :: vecsH us :: L) := by
   unfold vecsH
   exact bodV_out' (p := []) (by simp)
  refine h1.trans (slO_cap.trans (Ent.pure fun hc => ?_))
  have hp2 : PickM (vecsH us :: L) M (vecsH us :: L0) := inferInstance
  refine (Ent.absorb (h := hp2)).trans ?_
  refine Ent.ex fun M1 => Ent.open_all.trans (Ent.pure fun hs => ?_)
  refine Ent.trans (Ent.perm (.swap _ _ _)) ?_
  refine (ih (M := M1) (L := roM M1 :: L0) (hp := inferInstance)).trans ?_
  refine Ent.ex fun M2 => Ent.open_all.trans (Ent.pure fun hs2 => ?_)
  refine Ent.trans ?_ (Ent.shut_ex M2)
  refine Ent.trans ?_ Ent.shut_all
  refine Ent.shut_pure ⟨hs.1.trans hs2.1,fun u hu => ?_,fun u hu => ?_⟩
  ·rcases List.mem_cons.1 hu with rfl | hu
   ·exact hs.2.mono hs2.1
   ·exact hs2.2.1 u hu
  ·rcases List.mem_cons.1 hu with rfl | hu
   ·exact hc
   ·exact hs2.2.2 u hu
theorem check_ok {dim : Int} {ops : VL} (h : checkV dim ops = 0) : 1 ≤ dim ∧ dim ≤ 8 ∧ 1 ≤ ops.length ∧ ops.length ≤ 16 ∧ (ops.map (·.1)).Nodup ∧ ∀ o ∈ ops,o.2.length ≤ 8 ∧ (0 < o.2.length → rightV o.2 = true) := by
 unfold checkV at h
 by_cases h1 : dim < 1 ∨ 8 < dim
 ·rw [if_pos h1] at h;cases h
 rw [if_neg h1] at h
 by_cases h3 : ops.length = 0
 ·rw [if_pos h3] at h;cases h
 rw [if_neg h3] at h
 by_cases h4 : 16 < ops.length
 ·rw [if_pos h4] at h;cases h
 rw [if_neg h4] at h
 by_cases h5 : ops.any (badO dim) = true
 ·rw [if_pos h5] at h;cases h
 rw [if_neg h5] at h
 by_cases h6 : (ops.map (·.1)).Nodup
 ·refine ⟨by omega,by omega,by omega,by omega,h6,fun o ho => ?_⟩
  have hb : badO dim o = false := by
   cases hb : badO dim o with
   | false => rfl
   | true => exact absurd (List.any_eq_true.2 ⟨o,ho,hb⟩) h5
  unfold badO at hb
  simp only [Bool.or_eq_false_iff,Bool.and_eq_false_iff,decide_eq_false_iff_not,Bool.not_eq_false',Decidable.not_not] at hb
  obtain ⟨_,hb⟩ := hb
  rcases hb with hb | hb
  ·exact ⟨by omega,fun h => absurd h hb⟩
  ·exact ⟨by omega,fun _ => hb.1⟩
 ·rw [if_neg h6] at h;cases h
def subA (a : Option Addr) (c l sz : Nat) : Option Addr := if l = 0 then a else a.map fun ad => ⟨ad.block,if c = l then ad.off else ad.off + l * sz,ad.spot⟩
section
variable {P : Program} {n : Nat} {ops : List Oper} {f : Env} {A : List HP} {d : Tmp} {ty : TypeId} {pos : String} {af : Array Edge}
theorem Y.slFa {x lo : Operand} {t e : TypeId} {a : Option Addr} {m c sz bts l : Nat} {ag : Bool} {zs : List Value} {i : Int} {kl : IntKind} [hs : SlTy P t e] [h2 : Ty P e ag sz zs bts] (hx : ev f x = some (.slice a m c))
  (hl : ev f lo = some (.int kl i)) (el : i = (l : Int)) (h1 : l ≤ m) (ha : m = 0 ∨ ∃ b o,a = some ⟨b,o,none⟩) : YieldS P n ops ⟨some d,.slice t x (some lo) none none,ty,pos,af,none⟩ f A (.slice (subA a c l sz) (m - l) (c - l)) := by
 by_cases h0 : l = 0
 ·subst h0
  unfold subA
  rw [if_pos rfl,Nat.sub_zero,Nat.sub_zero]
  cases a with
  | none =>
   rcases ha with rfl | ⟨b,o,h⟩
   ·exact Y.slFn (hs := hs) (h2 := h2) hx hl el
   ·cases h
  | some ad =>
   refine Y.of (fun ac w s => ?_)
   subst el
   have e1 : ∀ ad : Addr,ad.add 0 = ad := fun _ => rfl
   by_cases hc : c = 0 <;> simp [execOp,s.eval hx,s.eval hl,Instr.sliceAt,hs.und,Instr.slice,Instr.sliceBounds,h2.size,Instr.sliceBound,asIntOf,hc,e1]
 ·rcases ha with rfl | ⟨b,o,rfl⟩
  ·omega
  ·unfold subA
   rw [if_neg h0]
   exact Y.slF (hs := hs) (h2 := h2) hx hl el h1
end
theorem RdS.fromA {L : List HP} {a : Option Addr} {m c l sz : Nat} {cs : List Value} (h : RdS L a m sz cs) (h1 : l ≤ m) (h2 : m ≤ c) : RdS L (subA a c l sz) (m - l) sz (cs.drop (l * sz)) := by
 by_cases h0 : l = 0
 ·subst h0
  unfold subA
  rw [if_pos rfl,Nat.zero_mul,List.drop_zero]
  exact h
 ·obtain ⟨b,o,rfl⟩ : ∃ b o,a = some ⟨b,o,none⟩ := by
   rcases h.2 with h3 | ⟨b,o,h3,_⟩
   ·omega
   ·exact ⟨b,o,h3⟩
  unfold subA
  rw [if_neg h0]
  exact RdS.from2 h h1 h2
theorem SlM.at {M : Nat → Option Obj} {a : Option Addr} {m sz : Nat} {cs : List Value} (h : SlM M a m sz cs) : m = 0 ∨ ∃ b o,a = some ⟨b,o,none⟩ := by
 have := h.rd (L := [roM M])
 rcases this.2 with h3 | ⟨b,o,h3,_⟩
 ·exact .inl h3
 ·exact .inr ⟨b,o,h3⟩
def insE (es : List EV) (nw : EV) : List EV := es.filter (fun e => decide (e.id < nw.id)) ++ nw :: es.filter (fun e => decide (nw.id < e.id))
theorem keys_nodup {κ α : Type} [DecidableEq κ] {m : List (κ × α)} (h : keysOK m) : m.Nodup := by
 unfold keysOK at h
 rw [List.nodup_iff_pairwise_ne,List.pairwise_map] at h
 rw [List.nodup_iff_pairwise_ne]
 exact h.imp fun h1 h2 => h1 (by rw [h2])
theorem keys_of_lt {m : List (Int × VL)} (h : (m.map (·.1)).Pairwise (· < ·)) : keysOK m := by
 unfold keysOK
 rw [List.nodup_iff_pairwise_ne]
 exact h.imp fun h1 h2 => by omega
theorem insE_sorted {es : List EV} {nw : EV} (hs : (es.map (·.id)).Pairwise (· < ·)) : ((insE es nw).map (·.id)).Pairwise (· < ·) := by
 unfold insE
 rw [List.map_append,List.map_cons,List.pairwise_append]
 refine ⟨pw_filter hs _,List.pairwise_cons.2 ⟨fun y hy => ?_,pw_filter hs _⟩,fun x hx y hy => ?_⟩
 ·obtain ⟨u,hu,rfl⟩ := List.mem_map.1 hy
  have h1 := (List.mem_filter.1 hu).2
  simpa using h1
 ·obtain ⟨u,hu,rfl⟩ := List.mem_map.1 hx
  have h1 := (List.mem_filter.1 hu).2
  simp at h1
  rcases List.mem_cons.1 hy with rfl | hy
  ·exact h1
  ·obtain ⟨w,hw,rfl⟩ := List.mem_map.1 hy
   have h3 := (List.mem_filter.1 hw).2
   simp at h3;omega
theorem insE_mem {es : List EV} {nw e : EV} (h : e ∈ insE es nw) : e = nw ∨ e ∈ es ∧ e.id ≠ nw.id := by
 unfold insE at h
 rcases List.mem_append.1 h with h | h
 ·have h1 := List.mem_filter.1 h
  have h2 := h1.2
  simp at h2
  exact .inr ⟨h1.1,by omega⟩
 rcases List.mem_cons.1 h with h | h
 ·exact .inl h
 ·have h1 := List.mem_filter.1 h
  have h2 := h1.2
  simp at h2
  exact .inr ⟨h1.1,by omega⟩
theorem insE_mem' {es : List EV} {nw e : EV} (h : e = nw ∨ e ∈ es ∧ e.id ≠ nw.id) : e ∈ insE es nw := by
 unfold insE
 rcases h with rfl | ⟨h1,h2⟩
 ·simp
 ·by_cases h3 : e.id < nw.id
  ·exact List.mem_append_left _ (List.mem_filter.2 ⟨h1,by simpa using h3⟩)
  ·refine List.mem_append_right _ (List.mem_cons_of_mem _ (List.mem_filter.2 ⟨h1,?_⟩))
   simp;omega
theorem map_id_key {es : List EV} : (es.map EV.abs).map (·.1) = es.map (·.id) := by rw [List.map_map];rfl
theorem insE_perm {es : List EV} {nw : EV} {ch : List (Int × VL)} (hp : (es.map EV.abs).Perm ch) (hk : keysOK ch) (hs : (es.map (·.id)).Pairwise (· < ·)) : ((insE es nw).map EV.abs).Perm (putL ch nw.id (nw.vs.map OV.abs)) := by
 have k1 : keysOK ((insE es nw).map EV.abs) := keys_of_lt (by rw [map_id_key];exact insE_sorted hs)
 have k2 := putL_ok hk nw.id (nw.vs.map OV.abs)
 rw [List.perm_ext_iff_of_nodup (keys_nodup k1) (keys_nodup k2)]
 rintro ⟨x,w⟩
 rw [← lkL_iff k2,lkL_put hk]
 constructor
 ·intro h
  obtain ⟨e,he,h2⟩ := List.mem_map.1 h
  clear h
  rcases insE_mem he with rfl | ⟨he1,he2⟩
  ·have hx : x = e.id := (congrArg Prod.fst h2).symm
   have hx2 : w = e.vs.map OV.abs := (congrArg Prod.snd h2).symm
   rw [if_pos hx,hx2]
  ·have hm : (x,w) ∈ ch := hp.mem_iff.1 (by rw [← h2];exact List.mem_map_of_mem he1)
   have hx : x = e.id := (congrArg Prod.fst h2).symm
   rw [if_neg (by rw [hx];exact he2)]
   exact (lkL_iff hk).2 hm
 ·intro h
  by_cases hx : x = nw.id
  ·rw [if_pos hx] at h
   cases h
   rw [hx]
   exact List.mem_map_of_mem (f := EV.abs) (insE_mem' (.inl rfl))
  ·rw [if_neg hx] at h
   obtain ⟨e,he,h2⟩ := List.mem_map.1 (hp.mem_iff.2 ((lkL_iff hk).1 h))
   rw [← h2]
   refine List.mem_map_of_mem (f := EV.abs) (insE_mem' (.inr ⟨he,?_⟩))
   have : x = e.id := (congrArg Prod.fst h2).symm
   rw [← this];exact hx
theorem ROK.put {M : Nat → Option Obj} {st : VS} {a a' : Option Addr} {c c' : Nat} {es : List EV} {is : List IV} (h : ROK M st a c es a' c' is) {M2 : Nat → Option Obj} (hl : leM M M2) {a2 : Option Addr} {c2 : Nat} {nw : EV} (hnw : okE M2 nw)
  (hs : SlM M2 a2 (insE es nw).length 2 ((insE es nw).flatMap EV.cells)) (hc : (insE es nw).length ≤ c2) : ROK M2 { st with ch := putL st.ch nw.id (nw.vs.map OV.abs) } a2 c2 (insE es nw) a' c' is :=
 ⟨insE_perm h.ch h.k1 h.cs,insE_sorted h.cs,h.its,h.ss,fun e he => by
  rcases insE_mem he with rfl | ⟨he,_⟩
  ·exact hnw
  ·exact (h.oe e he).mono hl,fun i hi => (h.oi i hi).mono hl,hs,h.sI.mono hl,hc,h.cI,putL_ok h.k1 _ _,h.k2,h.oc⟩
theorem sorted_last {vs : VL} (h : sortedV vs) : ∀ v ∈ vs,v.1 ≤ lastS vs := by
 intro v hv
 unfold lastS
 cases hg : vs.getLast? with
 | none => rw [List.getLast?_eq_none_iff] at hg;subst hg;cases hv
 | some l =>
  rw [List.getLast?_eq_some_iff] at hg
  obtain ⟨p,rfl⟩ := hg
  unfold sortedV at h
  rw [List.map_append,List.pairwise_append] at h
  rcases List.mem_append.1 hv with hv | hv
  ·have := h.2.2 v.1 (List.mem_map_of_mem hv) l.1 (by simp)
   simp;omega
  ·obtain rfl := List.mem_singleton.1 hv
   simp
def cutN (vs : VL) (s : Int) : Nat := if aftN vs s = 0 then 0 else if 0 < (((vs[aftN vs s - 1]?).map (·.2)).getD []).length then aftN vs s - 1 else aftN vs s
abbrev GL := List (Int × Int)
def sw1 (s : Int) (u : List (Int × VL) × GL) (id : Int) : List (Int × VL) × GL :=
 (if ((chV u.1 id).drop (cutN (chV u.1 id) s)).length = 0 then delL u.1 id else putL u.1 id ((chV u.1 id).drop (cutN (chV u.1 id) s)),u.2 ++ ((chV u.1 id).take (cutN (chV u.1 id) s)).map fun v => (id,v.1))
def swF (s : Int) (ks : List Int) (ch : List (Int × VL)) : List (Int × VL) × GL := ks.foldl (sw1 s) (ch,[])
def swIds (ch : List (Int × VL)) : List Int := sortL (ch.map (·.1))
def sweepS (st : VS) (s : Int) : VS := if min s 1099511627776 ≤ st.mark then st else { st with mark := min s 1099511627776,ch := (swF (min s 1099511627776) (swIds st.ch) st.ch).1 }
theorem lkL_del {κ α : Type} [DecidableEq κ] {m : List (κ × α)} (x y : κ) (h : y ≠ x) : lkL (delL m x) y = lkL m y := by
 unfold lkL delL
 rw [List.find?_filter]
 congr 2
 funext u
 by_cases hu : u.1 = y
 ·have : u.1 ≠ x := fun e => h (by rw [← hu,e])
  simp [hu,h]
 ·simp [hu]
theorem ROK.ids {M : Nat → Option Obj} {st : VS} {a a' : Option Addr} {c c' : Nat} {es : List EV} {is : List IV} (h : ROK M st a c es a' c' is) : swIds st.ch = es.map (·.id) := by
 refine sorted_uniq ((sortL_perm _).trans ?_) (sortL_sorted _) (h.cs.imp fun h => by omega)
 have := (h.ch.map (·.1)).symm
 rw [map_id_key] at this
 exact this
structure DV where
 d : Int
 txn : Int
 after : Int
 a : Option Addr
 c : Nat
 ops : List OV
 stamp : Int
 ask : Int
 id : Int
 ia : Option Addr
 ic : Nat
 ids : List Int
abbrev DV.cells (o : DV) : List Value := [.int .u8 o.d,.int .u64 o.txn,.int .u64 o.after,.slice o.a o.ops.length o.c,.int .u64 o.stamp,.int .u64 o.ask,.int .u64 o.id,.slice o.ia o.ids.length o.ic]
abbrev DV.val (o : DV) : Value := .agg #[.int .u8 o.d,.int .u64 o.txn,.int .u64 o.after,.slice o.a o.ops.length o.c,.int .u64 o.stamp,.int .u64 o.ask,.int .u64 o.id,.slice o.ia o.ids.length o.ic]
structure WFK (st : VS) (n : Nat) : Prop where
 wf : WF st n
 k1 : keysOK st.ch
 k2 : keysOK st.its
theorem WF.mono {st : VS} {n m : Nat} (h : WF st n) (hm : n ≤ m) : WF st m :=
 ⟨h.d1,h.d2,by have := h.il;omega,h.io,by have := h.cl;omega,fun c hc => ⟨(h.co c hc).1,by have := (h.co c hc).2.1;omega,(h.co c hc).2.2⟩⟩
theorem WFK.mono {st : VS} {n m : Nat} (h : WFK st n) (hm : n ≤ m) : WFK st m := ⟨h.wf.mono hm,h.k1,h.k2⟩
theorem WFK.free {st : VS} {n : Nat} (h : WFK st n) (t : Int) : WFK { st with its := delL st.its t } n :=
 ⟨⟨h.wf.d1,h.wf.d2,by have := h.wf.il;have e := List.length_filter_le (fun u : Int × Int × VL => !decide (u.1 = t)) st.its;exact Nat.le_trans e this,fun i hi => h.wf.io i (List.mem_filter.1 hi).1,h.wf.cl,h.wf.co⟩,h.k1,delL_ok h.k2 t⟩
theorem applyC_mem {s : Int} {c : Int × VL} : ∀ {ops : VL} {ch : List (Int × VL)},keysOK ch → (ops.map (·.1)).Nodup → c ∈ applyC s ch ops → c ∈ ch ∨ ∃ o ∈ ops,c = (o.1,chV ch o.1 ++ [(s,o.2)])
 | [],_,_,_,h => .inl h
 | o :: ops,ch,hk,hn,h => by
  simp only [List.map_cons,List.nodup_cons] at hn
  have hput : ∀ c ∈ putC s ch o,c ∈ ch ∨ c = (o.1,chV ch o.1 ++ [(s,o.2)]) := fun c hc => by
   unfold putC at hc
   rcases keyCase ch hk o.1 with ⟨p,b,q,rfl,hp,hq⟩ | hno
   ·rw [putL_mid hp hq] at hc
    rcases List.mem_append.1 hc with hc | hc
    ·exact .inl (List.mem_append_left _ hc)
    rcases List.mem_cons.1 hc with hc | hc
    ·exact .inr hc
    ·exact .inl (List.mem_append_right _ (List.mem_cons_of_mem _ hc))
   ·rw [putL_none hno] at hc
    rcases List.mem_append.1 hc with hc | hc
    ·exact .inl hc
    ·exact .inr (List.mem_singleton.1 hc)
  rcases applyC_mem (s := s) (ops := ops) (putL_ok' hk s o) hn.2 h with h | ⟨o',ho',h⟩
  ·rcases hput c h with h | h
   ·exact .inl h
   ·exact .inr ⟨o,by simp,h⟩
  ·refine .inr ⟨o',List.mem_cons_of_mem _ ho',?_⟩
   have hne : o'.1 ≠ o.1 := fun e => hn.1 (by rw [← e];exact List.mem_map_of_mem ho')
   have : chV (putC s ch o) o'.1 = chV ch o'.1 := by
    unfold chV putC
    rw [lkL_put hk,if_neg hne]
   rw [h,this]
theorem WFK.apply {st : VS} {n : Nat} (h : WFK st n) (t s : Int) : WFK (applyS st t s) (n + 1) := by
 unfold applyS
 cases hl : lkL st.its t with
 | none => exact h.mono (by omega)
 | some i =>
  dsimp only
  by_cases hE : applyE st t s = 0
  ·rw [if_pos hE]
   have hio := h.wf.io _ (lk_memL hl)
   dsimp only at hio
   have hany : ∀ o ∈ i.2,¬ s ≤ lastS (chV st.ch o.1) := by
    unfold applyE at hE
    rw [hl] at hE
    dsimp only at hE
    by_cases h1 : s = 0 ∨ 1099511627776 < s ∨ s ≤ i.1
    ·rw [if_pos h1] at hE;cases hE
    rw [if_neg h1] at hE
    by_cases h2 : (i.2.any fun o => decide (s ≤ lastS (chV st.ch o.1))) = true
    ·rw [if_pos h2] at hE;cases hE
    ·intro o ho hh
     exact h2 (List.any_eq_true.2 ⟨o,ho,decide_eq_true hh⟩)
   refine ⟨⟨h.wf.d1,h.wf.d2,?_,fun j hj => h.wf.io j (List.mem_filter.1 hj).1,?_,fun c hc => ?_⟩,applyC_ok h.k1,delL_ok h.k2 t⟩
   ·have e := List.length_filter_le (fun u : Int × Int × VL => !decide (u.1 = t)) st.its
    have := h.wf.il
    have e2 : (delL st.its t).length ≤ st.its.length := e
    dsimp only;omega
   ·have e := applyC_len (s := s) (ops := i.2) h.k1
    have := h.wf.cl
    dsimp only;omega
   ·rcases applyC_mem h.k1 hio.2.1 hc with hc | ⟨o,ho,rfl⟩
    ·have := h.wf.co c hc
     exact ⟨this.1,by omega,this.2.2⟩
    ·have hcv : sortedV (chV st.ch o.1) ∧ (chV st.ch o.1).length ≤ n ∧ ∀ v ∈ chV st.ch o.1,v.2.length ≤ 8 := by
      unfold chV
      cases hz : lkL st.ch o.1 with
      | none => exact ⟨List.Pairwise.nil,Nat.zero_le _,by simp⟩
      | some w => exact h.wf.co _ (lk_memL hz)
     have hla := sorted_last hcv.1
     have hs := hany o ho
     refine ⟨?_,by simp;omega,fun v hv => ?_⟩
     ·unfold sortedV at hcv ⊢
      rw [List.map_append,List.pairwise_append]
      refine ⟨hcv.1,by simp,fun x hx y hy => ?_⟩
      obtain ⟨w,hw,rfl⟩ := List.mem_map.1 hx
      simp at hy
      subst hy
      have := hla w hw
      omega
     ·rcases List.mem_append.1 hv with hv | hv
      ·exact hcv.2.2 v hv
      ·obtain rfl := List.mem_singleton.1 hv
       exact (hio.2.2 o ho).1
  ·rw [if_neg hE];exact h.mono (by omega)
theorem WFK.lock {st : VS} {n : Nat} (h : WFK st n) (t a : Int) (ops : VL) : WFK (lockS st t a ops) (n + 1) := by
 unfold lockS
 by_cases hE : lockE st t a ops = 0
 ·rw [if_pos hE]
  unfold lockE at hE
  by_cases h1 : 1099511627776 < a
  ·rw [if_pos h1] at hE;cases hE
  rw [if_neg h1] at hE
  by_cases h2 : checkV st.dim ops ≠ 0
  ·rw [if_pos h2] at hE;exact absurd hE h2
  rw [if_neg h2] at hE
  have h2' : checkV st.dim ops = 0 := Decidable.not_not.1 h2
  by_cases h3 : (lkL st.its t).isSome = true
  ·rw [if_pos h3] at hE;cases hE
  obtain ⟨_,_,c1,c2,c3,c4⟩ := check_ok h2'
  have hno : lkL st.its t = none := by
   cases hz : lkL st.its t with
   | none => rfl
   | some w => rw [hz] at h3;exact absurd rfl h3
  refine ⟨⟨h.wf.d1,h.wf.d2,?_,fun i hi => ?_,by have := h.wf.cl;dsimp only;omega,fun c hc => ?_⟩,h.k1,keys_snoc h.k2 _ hno⟩
  ·have := h.wf.il
   simp;omega
  ·rcases List.mem_append.1 hi with hi | hi
   ·exact h.wf.io i hi
   ·obtain rfl := List.mem_singleton.1 hi
    exact ⟨c2,c3,c4⟩
  ·have := h.wf.co c hc
   exact ⟨this.1,by omega,this.2.2⟩
 ·rw [if_neg hE];exact h.mono (by omega)
structure HV where
 id : Int
 dist : Int
 a : Option Addr
 c : Nat
 vec : List Int
abbrev HV.cells (h : HV) : List Value := [.int .u64 h.id,.int .u64 h.dist,.slice h.a h.vec.length h.c]
abbrev I64 : Int → Value := Value.int .i64
abbrev HV.val (h : HV) : Value := .agg #[.int .u64 h.id,.int .u64 h.dist,.slice h.a h.vec.length h.c]
abbrev HV.abs (h : HV) : Int × Int × List Int := (h.id,h.dist,h.vec)
structure NV where
 kind : Int
 txn : Int
 batch : Int
 stamp : Int
 after : Int
 mark : Int
 query : Int
 id : Int
 k : Int
 ef : Int
 code : Int
 who : Int
 pa : Option Addr
 pc : Nat
 parts : List Int
 oa : Option Addr
 oc : Nat
 ops : List OV
 va : Option Addr
 vc : Nat
 vec : List Int
 ha : Option Addr
 hc : Nat
 hits : List HV
abbrev NV.cells (n : NV) : List Value := [.int .u8 n.kind,.int .u64 n.txn,.int .u64 n.batch,.int .u64 n.stamp,.int .u64 n.after,.int .u64 n.mark,.int .u64 n.query,.int .u64 n.id,.int .i64 n.k,.int .i64 n.ef,.int .i64 n.code,.int .i64 n.who,
 .slice n.pa n.parts.length n.pc,.slice n.oa n.ops.length n.oc,.slice n.va n.vec.length n.vc,.slice n.ha n.hits.length n.hc]
abbrev NV.val (n : NV) : Value := .agg #[.int .u8 n.kind,.int .u64 n.txn,.int .u64 n.batch,.int .u64 n.stamp,.int .u64 n.after,.int .u64 n.mark,.int .u64 n.query,.int .u64 n.id,.int .i64 n.k,.int .i64 n.ef,.int .i64 n.code,.int .i64 n.who,
 .slice n.pa n.parts.length n.pc,.slice n.oa n.ops.length n.oc,.slice n.va n.vec.length n.vc,.slice n.ha n.hits.length n.hc]
def NV.bits (n : NV) : List Bool := [decide (0 < n.txn),decide (0 < n.batch),decide (0 < n.stamp),decide (0 < n.after),decide (0 < n.mark),decide (0 < n.query),decide (0 < n.id),!decide (n.k = 0),!decide (n.ef = 0),!decide (n.code = 0),!decide (n.who = 0),decide (0 < (n.parts.length : Int)),decide (0 < (n.ops.length : Int)),decide (0 < (n.vec.length : Int)),decide (0 < (n.hits.length : Int))]
structure NA where
 kind : Int
 txn : Int
 batch : Int
 stamp : Int
 after : Int
 mark : Int
 query : Int
 id : Int
 k : Int
 ef : Int
 code : Int
 who : Int
 parts : List Int
 ops : VL
 vec : List Int
 hits : List (Int × Int × List Int)
abbrev NA.zero : NA := ⟨0,0,0,0,0,0,0,0,0,0,0,0,[],[],[],[]⟩
def NA.bits (n : NA) : List Bool := [decide (0 < n.txn),decide (0 < n.batch),decide (0 < n.stamp),decide (0 < n.after),decide (0 < n.mark),decide (0 < n.query),decide (0 < n.id),!decide (n.k = 0),!decide (n.ef = 0),!decide (n.code = 0),!decide (n.who = 0),decide (0 < (n.parts.length : Int)),decide (0 < (n.ops.length : Int)),decide (0 < (n.vec.length : Int)),decide (0 < (n.hits.length : Int))]
def fldN : Nat → Nat
 | 1 => 4098 | 2 => 518 | 3 => 6153 | 4 => 513 | 5 => 517 | 6 => 1 | 7 => 1 | 8 => 8672 | 9 => 8692 | 10 => 16928 | 11 => 16932 | 12 => 6153 | 13 => 5 | 14 => 1 | 15 => 16 | 16 => 16 | 17 => 2055 | 18 => 1 | 19 => 7179 | 20 => 1025 | 21 => 1025 | 22 => 1 | _ => 0
def bareV (v : List Int) : Bool := decide (v.length = 0) || rightV v
def badOp (o : Int × List Int) : Bool := decide (1099511627776 < o.1) || !bareV o.2
def badHit (h : Int × Int × List Int) : Bool := decide (1099511627776 < h.1) || !rightV h.2.2
def okP (l : List Int) (k : Nat) : Bool := decide (0 ≤ l.getD k 0) && decide (l.getD k 0 < 16) && (decide (k = 0) || decide (l.getD (k - 1) 0 < l.getD k 0))
def partsV (l : List Int) : Bool := (List.range l.length).all (okP l)
def boundN (n : NA) : Bool :=
 !(decide (1099511627776 < max (max n.stamp n.after) n.mark) || decide (1099511627776 < n.id) || decide (min (min (min n.k n.ef) n.who) n.code < 0) || decide (16 < n.k) || decide (256 < n.ef) || decide (16 ≤ n.who) || decide (13 < n.code)) &&
 !(decide (4 < n.parts.length) || decide (16 < n.ops.length) || decide (16 < n.hits.length) || !bareV n.vec) && partsV n.parts && !n.ops.any badOp && !n.hits.any badHit
def rightN (n : NA) : Bool := decide (1 ≤ n.kind ∧ n.kind ≤ 22) && (n.bits.zipIdx.all fun b => !b.1 || (fldN n.kind.toNat).testBit b.2) && boundN n
abbrev NV.abs (n : NV) : NA := ⟨n.kind,n.txn,n.batch,n.stamp,n.after,n.mark,n.query,n.id,n.k,n.ef,n.code,n.who,n.parts,n.ops.map OV.abs,n.vec,n.hits.map HV.abs⟩
theorem NV.bits_abs (n : NV) : n.abs.bits = n.bits := by unfold NA.bits NV.bits;simp
structure RdN (A : List HP) (n : NV) : Prop where
 p : RdS A n.pa n.parts.length 1 (n.parts.map I64)
 o : RdO A n.oa n.ops
 v : RdS A n.va n.vec.length 1 (n.vec.map I32)
 h : RdS A n.ha n.hits.length 3 (n.hits.flatMap HV.cells)
 hv : ∀ h ∈ n.hits,RdS A h.a h.vec.length 1 (h.vec.map I32)
theorem RdN.sub {A L : List HP} {n : NV} (h : RdN A n) [s : Sub A L] : RdN L n := ⟨h.p.sub,h.o.sub,h.v.sub,h.h.sub,fun x hx => (h.hv x hx).sub⟩
structure OkN (n : NV) : Prop where
 p : n.parts.length ≤ 1000000
 o : n.ops.length ≤ 1000000
 ov : ∀ o ∈ n.ops,o.vec.length ≤ 1000000
 v : n.vec.length ≤ 1000000
 h : n.hits.length ≤ 1000000
 hv : ∀ h ∈ n.hits,h.vec.length ≤ 1000000
def bitsN : List Bool → Nat
 | [] => 0
 | b :: l => (if b then 1 else 0) + 2 * bitsN l
theorem fit15 (b0 b1 b2 b3 b4 b5 b6 b7 b8 b9 b10 b11 b12 b13 b14 : Bool) : fitsL (rowL 1 15) (15 * 1) (cellsOf [(0,Value.bool b0),(1,Value.bool b1),(2,Value.bool b2),(3,Value.bool b3),(4,Value.bool b4),(5,Value.bool b5),(6,Value.bool b6),(7,Value.bool b7),(8,Value.bool b8),(9,Value.bool b9),(10,Value.bool b10),(11,Value.bool b11),(12,Value.bool b12),(13,Value.bool b13),(14,Value.bool b14)]) = true := by rfl
theorem fill15 (b0 b1 b2 b3 b4 b5 b6 b7 b8 b9 b10 b11 b12 b13 b14 : Bool) : fillL (rowL 1 15) [Value.bool false,Value.bool false,Value.bool false,Value.bool false,Value.bool false,Value.bool false,Value.bool false,Value.bool false,Value.bool false,Value.bool false,Value.bool false,Value.bool false,Value.bool false,Value.bool false,Value.bool false] (cellsOf [(0,Value.bool b0),(1,Value.bool b1),(2,Value.bool b2),(3,Value.bool b3),(4,Value.bool b4),(5,Value.bool b5),(6,Value.bool b6),(7,Value.bool b7),(8,Value.bool b8),(9,Value.bool b9),(10,Value.bool b10),(11,Value.bool b11),(12,Value.bool b12),(13,Value.bool b13),(14,Value.bool b14)]) = [Value.bool b0,Value.bool b1,Value.bool b2,Value.bool b3,Value.bool b4,Value.bool b5,Value.bool b6,Value.bool b7,Value.bool b8,Value.bool b9,Value.bool b10,Value.bool b11,Value.bool b12,Value.bool b13,Value.bool b14] := by kernel_rfl
section
variable {P : Program} {n : Nat} {ops : List Oper} {f : Env} {A : List HP} {d : Tmp} {ty : TypeId} {pos : String} {af : Array Edge}
theorem Y.ixa {x y : Operand} {t e : TypeId} {len bts i : Nat} {k : IntKind} {zs : List Value} {cs : Array Value} {v : Value} [h : ArrTy P t len e] [h2 : Ty P e false 1 zs bts] (hx : ev f x = some (.agg cs)) (hy : ev f y = some (.int k (i : Int))) (hi : i < len) (hv : cs[i]? = some v) :
  YieldS P n ops ⟨some d,.index t x y,ty,pos,af,none⟩ f A v :=
 Y.of (fun _ w s => by
  have e1 : (0 : Int) ≤ (i : Int) ∧ (i : Int) < (len : Int) := ⟨by omega,by omega⟩
  simp [execOp,s.eval hx,s.eval hy,Instr.index,asIntOf,h.und,e1,part,h2.agg,h2.size,hv,hi])
theorem Y.or {x y : Operand} {t t' : TypeId} {k : IntKind} {a b : Int} (hx : ev f x = some (.int k a)) (hy : ev f y = some (.int k b)) : YieldS P n ops ⟨some d,.binOp .or t x y t',ty,pos,af,none⟩ f A ((.int k (k.wrap ((BitVec.ofInt k.bits a) ||| (BitVec.ofInt k.bits b)).toNat))) :=  Y.of (fun _ w s => by simp [execOp,s.eval hx,s.eval hy,eqGuard,binOp,Op.intBits])
theorem Y.andNot {x y : Operand} {t t' : TypeId} {k : IntKind} {a b : Int} (hx : ev f x = some (.int k a)) (hy : ev f y = some (.int k b)) : YieldS P n ops ⟨some d,.binOp .andNot t x y t',ty,pos,af,none⟩ f A ((.int k (k.wrap ((BitVec.ofInt k.bits a) &&& ~~~(BitVec.ofInt k.bits b)).toNat))) :=  Y.of (fun _ w s => by simp [execOp,s.eval hx,s.eval hy,eqGuard,binOp,Op.intBits])
end
theorem or_wrap {a i : Nat} (ha : a < 2 ^ i) (hi : i < 15) : IntKind.i64.wrap (((BitVec.ofInt IntKind.i64.bits (a : Int)) ||| (BitVec.ofInt IntKind.i64.bits (IntKind.i64.wrap ((1 * 2 ^ i : Nat) : Int)))).toNat : Int) = ((a + 2 ^ i : Nat) : Int) := by
 have hp : 2 ^ i ≤ 2 ^ 14 := Nat.pow_le_pow_right (by omega) (by omega)
 have e0 : ∀ x : Nat,x < 1000000 → IntKind.i64.wrap (x : Int) = (x : Int) := fun x hx => wrap_i64 (by omega) (by omega)
 have e : ∀ x : Nat,x < 18446744073709551616 → (BitVec.ofInt IntKind.i64.bits (x : Int)).toNat = x := fun x hx => by
  show (BitVec.ofInt 64 (x : Int)).toNat = x
  simp;omega
 have e2 : IntKind.i64.wrap ((1 * 2 ^ i : Nat) : Int) = ((1 * 2 ^ i : Nat) : Int) := e0 _ (by omega)
 rw [e2,BitVec.toNat_or,e _ (by omega),e _ (by omega),Nat.one_mul]
 have h := Nat.two_pow_add_eq_or_of_lt ha 1
 rw [Nat.mul_one,Nat.or_comm] at h
 rw [← h,e0 _ (by omega),Nat.add_comm]
theorem bitsN_lt : ∀ l : List Bool,bitsN l < 2 ^ l.length
 | [] => by simp [bitsN]
 | b :: l => by
  have := bitsN_lt l
  rw [List.length_cons,Nat.pow_succ]
  unfold bitsN
  cases b <;> simp <;> omega
theorem bitsN_snoc (b : Bool) : ∀ l : List Bool,bitsN (l ++ [b]) = bitsN l + (if b then 2 ^ l.length else 0)
 | [] => by cases b <;> simp [bitsN]
 | c :: l => by
  have := bitsN_snoc b l
  rw [List.cons_append,List.length_cons,Nat.pow_succ]
  unfold bitsN
  rw [this]
  cases b <;> simp <;> omega
set_option maxHeartbeats 400000 in
theorem held_spec (n : NV) (L : List HP) : CallsS Tryz.prog 90 [n.val] L (fun r L' => r = .int .i64 (bitsN n.bits) ∧ L' = L) := by
 refine CallsS.of_body Tryz.func90 rfl rfl rfl ?_
 iterate 60 (first | (refine GQ.y ?_;refine Q.y ?_) | refine Q.go ?_ | (refine GQ.g ?_;refine Q.gq ?_) | (refine GQ.s ?_;refine Q.st ?_) | (refine GQ.a ?_;refine Q.al (fun b1 => ?_)))
 iterate 3 (first | (refine GQ.y ?_;refine Q.y ?_) | refine Q.go ?_ | (refine GQ.g ?_;refine Q.gq ?_) | (refine GQ.s ?_;refine Q.st ?_) | (refine GQ.a ?_;refine Q.al (fun b1 => ?_)))
 refine S.y (Y.bda (l := [_,_,_,_,_,_,_,_,_,_,_,_,_,_,_]) (cs := n.bits.map Value.bool) rfl rfl (fit15 _ _ _ _ _ _ _ _ _ _ _ _ _ _ _) (fill15 _ _ _ _ _ _ _ _ _ _ _ _ _ _ _)) ?_
 refine Q.r ?_;(repeat (intro b1;refine Q.r ?_))
 have hlen : n.bits.length = 15 := rfl
 refine swp_loop (σ := Nat) (fun s => [(1,.pointer (some ⟨b1,0,none⟩)),(55,.agg (n.bits.map Value.bool).toArray),(3,.int .i64 (bitsN (n.bits.take s))),(56,.int .i64 s)])
  (fun _ => pt b1 (cl n.cells 52) :: L) (fun s => s ≤ 15) (fun s => 15 - s) 0 ⟨rfl,rfl,rfl,rfl,trivial⟩ (Ent.refl _) (by omega) ?_
 intro k hk
 by_cases hlt : k < 15
 ·obtain ⟨b,hb⟩ := mem_get (l := n.bits) (by rw [hlen];exact hlt)
  have hv : (n.bits.map Value.bool).toArray[k]? = some (.bool b) := by simp [hb]
  have htk : n.bits.take (k + 1) = n.bits.take k ++ [b] := take_snoc hb
  have hl : bitsN (n.bits.take k) < 2 ^ k := by
   have := bitsN_lt (n.bits.take k)
   rw [List.length_take,hlen,Nat.min_eq_left (by omega)] at this
   exact this
  have hs := bitsN_snoc b (n.bits.take k)
  rw [← htk,List.length_take,hlen,Nat.min_eq_left (by omega)] at hs
  refine Q.r ?_;(repeat (intro b1;refine Q.r ?_))
  refine S.y (Y.ixa rfl rfl hlt hv) ?_
  cases b with
  | true =>
   refine Q.r ?_;(repeat (intro b1;refine Q.r ?_))
   refine S.y (Y.shl (a := 1) rfl rfl (by show k ≤ 64;omega)) ?_
   refine Q.r ?_;(repeat (intro b1;refine Q.r ?_))
   refine S.y (Y.or rfl rfl) ?_
   rw [or_wrap hl hlt]
   refine Q.r ?_;(repeat (intro b1;refine Q.r ?_))
   exact ⟨k + 1,⟨rfl,rfl,congrArg some (congrArg (fun z : Nat => Value.int .i64 (z : Int)) hs.symm),rfl,trivial⟩,Ent.refl _,by omega,by omega⟩
  | false =>
   refine Q.r ?_;(repeat (intro b1;refine Q.r ?_))
   exact ⟨k + 1,⟨rfl,rfl,congrArg some (congrArg (fun z : Nat => Value.int .i64 (z : Int)) hs.symm),rfl,trivial⟩,Ent.refl _,by omega,by omega⟩
 ·have : k = 15 := by omega
  subst this
  refine Q.r ?_;(repeat (intro b1;refine Q.r ?_))
  exact N.r1 (RV.tmp rfl RV.nil) (Ent.drop (Ent.refl _)) ⟨rfl,rfl⟩
theorem IdxH_spec (f : FuncId) (fs cs : List Value) [he : Enters Tryz.prog f] (p : HV → Bool) (a : Option Addr) (c : Nat) (xs : List HV) (A : List HP) (h : RdS A a xs.length 3 (xs.flatMap HV.cells)) (hn : xs.length ≤ 4611686018427387904)
  (hf : ∀ x ∈ xs,CallsS Tryz.prog f (fs ++ [HV.val x] ++ cs) A (fun v L' => v = .bool (p x) ∧ L' = A)) :
  CallsS Tryz.prog 135 [.slice a xs.length c,.func (.func f) fs.toArray cs.toArray] A (fun v L' => (∃ i : Int,v = .int .i64 i ∧ decide (0 ≤ i) = xs.any p) ∧ L' = A) := by
 refine CallsS.of_body Tryz.func135 rfl rfl rfl ?_
 refine Q.r ?_;(repeat (intro b1;refine Q.r ?_))
 refine swp_loop (σ := Nat) (fun k => [(0,.slice a xs.length c),(1,.func (.func f) fs.toArray cs.toArray),(7,.int .i64 xs.length),(8,.int .i64 k)]) (fun _ => A)
  (fun k => k ≤ xs.length ∧ (xs.take k).any p = false) (fun k => xs.length - k) 0 ⟨rfl,rfl,rfl,rfl,trivial⟩ (Ent.refl _) ⟨by omega,by simp⟩ ?_
 rintro k ⟨hk,hany⟩
 by_cases hlt : k < xs.length
 ·obtain ⟨x,hx⟩ := mem_get hlt
  obtain ⟨b,o,rfl,hr⟩ := RdS.elem (g := HV.cells) (fun _ => rfl) h hx rfl
  have hmx : x ∈ xs := List.mem_of_getElem? hx
  refine Q.r ?_;(repeat (intro b1;refine Q.r ?_))
  refine S.crF (fs := fs) (cs := cs) rfl rfl (hf x hmx) ?_
  rintro _ _ ⟨rfl,rfl⟩
  cases hp : p x with
  | true =>
   refine Q.r ?_;(repeat (intro b1;refine Q.r ?_))
   exact N.r1 (RV.tmp rfl RV.nil) (Ent.refl _) ⟨⟨_,rfl,by rw [show xs.any p = true from List.any_eq_true.2 ⟨x,hmx,hp⟩];simp⟩,rfl⟩
  | false =>
   refine Q.r ?_;(repeat (intro b1;refine Q.r ?_))
   refine ⟨k + 1,⟨rfl,rfl,rfl,rfl,trivial⟩,Ent.refl _,⟨by omega,?_⟩,by omega⟩
   rw [take_snoc hx,List.any_append,hany] <;> simp [hp]
 ·have hke : k = xs.length := by omega
  subst hke
  rw [List.take_length] at hany
  refine Q.r ?_;(repeat (intro b1;refine Q.r ?_))
  exact N.r1 (RV.tmp rfl RV.nil) (Ent.refl _) ⟨⟨_,rfl,by rw [hany] <;> rfl⟩,rfl⟩
theorem HasH_spec (f : FuncId) (fs cs : List Value) [he : Enters Tryz.prog f] (p : HV → Bool) (a : Option Addr) (c : Nat) (xs : List HV) (A : List HP) (h : RdS A a xs.length 3 (xs.flatMap HV.cells)) (hn : xs.length ≤ 4611686018427387904)
  (hf : ∀ x ∈ xs,CallsS Tryz.prog f (fs ++ [HV.val x] ++ cs) A (fun v L' => v = .bool (p x) ∧ L' = A)) :
  CallsS Tryz.prog 120 [.slice a xs.length c,.func (.func f) fs.toArray cs.toArray] A (fun v L' => v = .bool (xs.any p) ∧ L' = A) := by
 refine CallsS.of_body Tryz.func120 rfl rfl rfl ?_
 refine Q.r ?_;(repeat (intro b1;refine Q.r ?_))
 refine S.cr rfl (IdxH_spec f fs cs p a c xs A h hn hf) ?_
 rintro _ _ ⟨⟨i,rfl,hi⟩,rfl⟩
 refine Q.r ?_;(repeat (intro b1;refine Q.r ?_))
 exact N.r1 (RV.tmp rfl RV.nil) (Ent.refl _) ⟨by rw [← hi],rfl⟩
theorem flat_I64 (xs : List Int) : xs.flatMap (fun z => [I64 z]) = xs.map I64 := by induction xs with
 | nil => rfl
 | cons x xs ih => rw [List.flatMap_cons,ih];rfl
theorem bare_spec (a : Option Addr) (c : Nat) (xs : List Int) (A : List HP) (h : RdS A a xs.length 1 (xs.map I32)) (hn : xs.length ≤ 1000000) :
  CallsS Tryz.prog 117 [.slice a xs.length c] A (fun r L' => r = .bool (bareV xs) ∧ L' = A) := by
 unfold bareV
 refine CallsS.of_body Tryz.func117 rfl rfl rfl ?_
 by_cases h0 : xs.length = 0
 ·refine Q.r ?_;(repeat (intro b1;refine Q.r ?_))
  exact N.r1 (RV.tmp rfl RV.nil) (Ent.refl _) ⟨by simp [h0],rfl⟩
 ·refine Q.r ?_;(repeat (intro b1;refine Q.r ?_))
  refine S.cr rfl (Right_spec a c xs _ h.sub (by omega)) ?_
  rintro _ _ ⟨rfl,rfl⟩
  refine Q.r ?_;(repeat (intro b1;refine Q.r ?_))
  exact N.r1 (RV.tmp rfl RV.nil) (Ent.refl _) ⟨by simp [h0],rfl⟩
theorem bad1_spec (o : OV) (A : List HP) (h : RdS A o.a o.vec.length 1 (o.vec.map I32)) (hn : o.vec.length ≤ 1000000) :
  CallsS Tryz.prog 119 ([] ++ [o.val] ++ []) A (fun r L' => r = .bool (badOp o.abs) ∧ L' = A) := by
 unfold badOp
 refine CallsS.of_body Tryz.func119 rfl rfl rfl ?_
 by_cases h0 : 1099511627776 < o.id
 ·refine Q.r ?_;(repeat (intro b1;refine Q.r ?_))
  exact N.r1 (RV.tmp rfl RV.nil) (Ent.drop (Ent.refl _)) ⟨by simp [h0],rfl⟩
 ·refine Q.r ?_;(repeat (intro b1;refine Q.r ?_))
  refine S.cr rfl (bare_spec o.a o.c o.vec _ h.sub hn) ?_
  rintro _ _ ⟨rfl,rfl⟩
  refine Q.r ?_;(repeat (intro b1;refine Q.r ?_))
  exact N.r1 (RV.tmp rfl RV.nil) (Ent.drop (Ent.refl _)) ⟨by simp [h0],rfl⟩
theorem bad2_spec (o : HV) (A : List HP) (h : RdS A o.a o.vec.length 1 (o.vec.map I32)) (hn : o.vec.length ≤ 1000000) :
  CallsS Tryz.prog 121 ([] ++ [o.val] ++ []) A (fun r L' => r = .bool (badHit o.abs) ∧ L' = A) := by
 unfold badHit
 refine CallsS.of_body Tryz.func121 rfl rfl rfl ?_
 by_cases h0 : 1099511627776 < o.id
 ·refine Q.r ?_;(repeat (intro b1;refine Q.r ?_))
  exact N.r1 (RV.tmp rfl RV.nil) (Ent.drop (Ent.refl _)) ⟨by simp [h0],rfl⟩
 ·refine Q.r ?_;(repeat (intro b1;refine Q.r ?_))
  refine S.cr rfl (Right_spec o.a o.c o.vec _ h.sub (by omega)) ?_
  rintro _ _ ⟨rfl,rfl⟩
  refine Q.r ?_;(repeat (intro b1;refine Q.r ?_))
  exact N.r1 (RV.tmp rfl RV.nil) (Ent.drop (Ent.refl _)) ⟨by simp [h0],rfl⟩
section
variable {P : Program} {n : Nat} {ops : List Oper} {f : Env} {A : List HP} {d : Tmp} {ty : TypeId} {pos : String} {af : Array Edge}
theorem Y.max3 {x y z : Operand} {t t' t2 : TypeId} {k : IntKind} {a b c : Int} (hx : ev f x = some (.int k a)) (hy : ev f y = some (.int k b)) (hz : ev f z = some (.int k c)) :
  YieldS P n ops ⟨some d,.call ⟨.builtin .max,#[x,y,z],#[t,t',t2]⟩,ty,pos,af,none⟩ f A (.int k (Max.max (Max.max a b) c)) :=
 Y.of fun ac w s => by
  have h : ∀ a b : Int,Max.max a b = if a < b then b else a := fun a b => by simp only [Int.max_def];split <;> split <;> omega
  simp [execOp,resolve,invoke,s.eval hx,s.eval hy,s.eval hz,builtin,Builtin.max_,Builtin.max2,h]
theorem Y.min4 {x y z u : Operand} {t t' t2 t3 : TypeId} {k : IntKind} {a b c e : Int} (hx : ev f x = some (.int k a)) (hy : ev f y = some (.int k b)) (hz : ev f z = some (.int k c)) (hu : ev f u = some (.int k e)) :
  YieldS P n ops ⟨some d,.call ⟨.builtin .min,#[x,y,z,u],#[t,t',t2,t3]⟩,ty,pos,af,none⟩ f A (.int k (Min.min (Min.min (Min.min a b) c) e)) :=
 Y.of fun ac w s => by
  have h : ∀ a b : Int,Min.min a b = if b < a then b else a := fun a b => by simp only [Int.min_def];split <;> split <;> omega
  simp [execOp,resolve,invoke,s.eval hx,s.eval hy,s.eval hz,s.eval hu,builtin,Builtin.min_,Builtin.min2,h]
end
set_option maxHeartbeats 2000000 in
theorem bounded_spec (n : NV) (A : List HP) (h : RdN A n) (hk : OkN n) :
  CallsS Tryz.prog 91 [n.val] A (fun r L' => r = .bool (boundN n.abs) ∧ L' = A) := by
 have hE : boundN n.abs = (!(decide (1099511627776 < max (max n.stamp n.after) n.mark) || decide (1099511627776 < n.id) || decide (min (min (min n.k n.ef) n.who) n.code < 0) || decide (16 < n.k) || decide (256 < n.ef) || decide (16 ≤ n.who) || decide (13 < n.code)) &&
   !(decide (4 < n.parts.length) || decide (16 < n.ops.length) || decide (16 < n.hits.length) || !bareV n.vec) && partsV n.parts && !(n.ops.any fun o => badOp o.abs) && !(n.hits.any fun o => badHit o.abs)) := by
  unfold boundN;simp [List.any_map];rfl
 rw [hE]
 clear hE
 refine CallsS.of_body Tryz.func91 rfl rfl rfl ?_
 by_cases a1 : 1099511627776 < max (max n.stamp n.after) n.mark
 ·refine Q.r ?_;(repeat (intro b1;refine Q.r ?_));refine S.y (Y.max3 rfl rfl rfl) ?_;(refine Q.r ?_;(repeat (intro b1;refine Q.r ?_)))
  exact N.r1 (RV.tmp rfl RV.nil) (Ent.drop (Ent.refl _)) ⟨by simp only [decide_eq_true a1,Bool.or_true,Bool.true_or,Bool.or_false,Bool.false_or,Bool.not_true,Bool.not_false,Bool.false_and,Bool.and_false,Bool.true_and,Bool.and_true],rfl⟩
 by_cases a2 : 1099511627776 < n.id
 ·refine Q.r ?_;(repeat (intro b1;refine Q.r ?_));refine S.y (Y.max3 rfl rfl rfl) ?_;(refine Q.r ?_;(repeat (intro b1;refine Q.r ?_)))
  exact N.r1 (RV.tmp rfl RV.nil) (Ent.drop (Ent.refl _)) ⟨by simp only [decide_eq_true a2,Bool.or_true,Bool.true_or,Bool.or_false,Bool.false_or,Bool.not_true,Bool.not_false,Bool.false_and,Bool.and_false,Bool.true_and,Bool.and_true],rfl⟩
 by_cases a3 : min (min (min n.k n.ef) n.who) n.code < 0
 ·refine Q.r ?_;(repeat (intro b1;refine Q.r ?_));refine S.y (Y.max3 rfl rfl rfl) ?_;(refine Q.r ?_;(repeat (intro b1;refine Q.r ?_)));refine S.y (Y.min4 rfl rfl rfl rfl) ?_;(refine Q.r ?_;(repeat (intro b1;refine Q.r ?_)))
  exact N.r1 (RV.tmp rfl RV.nil) (Ent.drop (Ent.refl _)) ⟨by simp only [decide_eq_true a3,Bool.or_true,Bool.true_or,Bool.or_false,Bool.false_or,Bool.not_true,Bool.not_false,Bool.false_and,Bool.and_false,Bool.true_and,Bool.and_true],rfl⟩
 by_cases a4 : 16 < n.k
 ·refine Q.r ?_;(repeat (intro b1;refine Q.r ?_));refine S.y (Y.max3 rfl rfl rfl) ?_;(refine Q.r ?_;(repeat (intro b1;refine Q.r ?_)));refine S.y (Y.min4 rfl rfl rfl rfl) ?_;(refine Q.r ?_;(repeat (intro b1;refine Q.r ?_)))
  exact N.r1 (RV.tmp rfl RV.nil) (Ent.drop (Ent.refl _)) ⟨by simp only [decide_eq_true a4,Bool.or_true,Bool.true_or,Bool.or_false,Bool.false_or,Bool.not_true,Bool.not_false,Bool.false_and,Bool.and_false,Bool.true_and,Bool.and_true],rfl⟩
 by_cases a5 : 256 < n.ef
 ·refine Q.r ?_;(repeat (intro b1;refine Q.r ?_));refine S.y (Y.max3 rfl rfl rfl) ?_;(refine Q.r ?_;(repeat (intro b1;refine Q.r ?_)));refine S.y (Y.min4 rfl rfl rfl rfl) ?_;(refine Q.r ?_;(repeat (intro b1;refine Q.r ?_)))
  exact N.r1 (RV.tmp rfl RV.nil) (Ent.drop (Ent.refl _)) ⟨by simp only [decide_eq_true a5,Bool.or_true,Bool.true_or,Bool.or_false,Bool.false_or,Bool.not_true,Bool.not_false,Bool.false_and,Bool.and_false,Bool.true_and,Bool.and_true],rfl⟩
 by_cases a6 : 16 ≤ n.who
 ·refine Q.r ?_;(repeat (intro b1;refine Q.r ?_));refine S.y (Y.max3 rfl rfl rfl) ?_;(refine Q.r ?_;(repeat (intro b1;refine Q.r ?_)));refine S.y (Y.min4 rfl rfl rfl rfl) ?_;(refine Q.r ?_;(repeat (intro b1;refine Q.r ?_)))
  exact N.r1 (RV.tmp rfl RV.nil) (Ent.drop (Ent.refl _)) ⟨by simp only [decide_eq_true a6,Bool.or_true,Bool.true_or,Bool.or_false,Bool.false_or,Bool.not_true,Bool.not_false,Bool.false_and,Bool.and_false,Bool.true_and,Bool.and_true],rfl⟩
 by_cases a7 : 13 < n.code
 ·refine Q.r ?_;(repeat (intro b1;refine Q.r ?_));refine S.y (Y.max3 rfl rfl rfl) ?_;(refine Q.r ?_;(repeat (intro b1;refine Q.r ?_)));refine S.y (Y.min4 rfl rfl rfl rfl) ?_;(refine Q.r ?_;(repeat (intro b1;refine Q.r ?_)))
  exact N.r1 (RV.tmp rfl RV.nil) (Ent.drop (Ent.refl _)) ⟨by simp only [decide_eq_true a7,Bool.or_true,Bool.true_or,Bool.or_false,Bool.false_or,Bool.not_true,Bool.not_false,Bool.false_and,Bool.and_false,Bool.true_and,Bool.and_true],rfl⟩
 by_cases q1 : 4 < n.parts.length
 ·refine Q.r ?_;(repeat (intro b1;refine Q.r ?_));refine S.y (Y.max3 rfl rfl rfl) ?_;(refine Q.r ?_;(repeat (intro b1;refine Q.r ?_)));refine S.y (Y.min4 rfl rfl rfl rfl) ?_;(refine Q.r ?_;(repeat (intro b1;refine Q.r ?_)))
  exact N.r1 (RV.tmp rfl RV.nil) (Ent.drop (Ent.refl _)) ⟨by simp only [decide_eq_true q1,Bool.or_true,Bool.true_or,Bool.or_false,Bool.false_or,Bool.not_true,Bool.not_false,Bool.false_and,Bool.and_false,Bool.true_and,Bool.and_true],rfl⟩
 by_cases q2 : 16 < n.ops.length
 ·refine Q.r ?_;(repeat (intro b1;refine Q.r ?_));refine S.y (Y.max3 rfl rfl rfl) ?_;(refine Q.r ?_;(repeat (intro b1;refine Q.r ?_)));refine S.y (Y.min4 rfl rfl rfl rfl) ?_;(refine Q.r ?_;(repeat (intro b1;refine Q.r ?_)))
  exact N.r1 (RV.tmp rfl RV.nil) (Ent.drop (Ent.refl _)) ⟨by simp only [decide_eq_true q2,Bool.or_true,Bool.true_or,Bool.or_false,Bool.false_or,Bool.not_true,Bool.not_false,Bool.false_and,Bool.and_false,Bool.true_and,Bool.and_true],rfl⟩
 by_cases q3 : 16 < n.hits.length
 ·refine Q.r ?_;(repeat (intro b1;refine Q.r ?_));refine S.y (Y.max3 rfl rfl rfl) ?_;(refine Q.r ?_;(repeat (intro b1;refine Q.r ?_)));refine S.y (Y.min4 rfl rfl rfl rfl) ?_;(refine Q.r ?_;(repeat (intro b1;refine Q.r ?_)))
  exact N.r1 (RV.tmp rfl RV.nil) (Ent.drop (Ent.refl _)) ⟨by simp only [decide_eq_true q3,Bool.or_true,Bool.true_or,Bool.or_false,Bool.false_or,Bool.not_true,Bool.not_false,Bool.false_and,Bool.and_false,Bool.true_and,Bool.and_true],rfl⟩
 refine Q.r ?_;(repeat (intro b1;refine Q.r ?_));refine S.y (Y.max3 rfl rfl rfl) ?_;(refine Q.r ?_;(repeat (intro b1;refine Q.r ?_)));refine S.y (Y.min4 rfl rfl rfl rfl) ?_;(refine Q.r ?_;(repeat (intro b1;refine Q.r ?_)))
 refine S.cr rfl (bare_spec n.va n.vc n.vec _ h.v.sub hk.v) ?_
 rintro _ _ ⟨rfl,rfl⟩
 cases hbv : bareV n.vec with
 | false =>
  refine Q.r ?_;(repeat (intro b1;refine Q.r ?_))
  exact N.r1 (RV.tmp rfl RV.nil) (Ent.drop (Ent.refl _)) ⟨by simp only [Bool.or_true,Bool.true_or,Bool.or_false,Bool.false_or,Bool.not_true,Bool.not_false,Bool.false_and,Bool.and_false,Bool.true_and,Bool.and_true],rfl⟩
 | true =>
 simp only [decide_eq_false a1,decide_eq_false a2,decide_eq_false a3,decide_eq_false a4,decide_eq_false a5,decide_eq_false a6,decide_eq_false a7,decide_eq_false q1,decide_eq_false q2,decide_eq_false q3,Bool.or_true,Bool.true_or,Bool.or_false,Bool.false_or,Bool.not_true,Bool.not_false,Bool.false_and,Bool.and_false,Bool.true_and,Bool.and_true]
 clear a1 a2 a3 a4 a5 a6 a7
 refine Q.r ?_;(repeat (intro b1;refine Q.r ?_))
 refine swp_cutB (σ := Unit) (fun _ => [(1,.pointer (some ⟨b1,0,none⟩))]) (fun _ => pt b1 (cl n.cells 52) :: A) (fun _ => partsV n.parts = true) ?_ ?_
 ·refine swp_loop (σ := Nat) (fun k => [(1,.pointer (some ⟨b1,0,none⟩)),(74,.slice n.pa n.parts.length n.pc),(75,.int .i64 n.parts.length),(76,.int .i64 k)])
   (fun _ => pt b1 (cl n.cells 52) :: A) (fun k => k ≤ n.parts.length ∧ (List.range k).all (okP n.parts) = true) (fun k => n.parts.length - k) 0 ⟨rfl,rfl,rfl,rfl,trivial⟩ (Ent.refl _) ⟨by omega,rfl⟩ ?_
  rintro k ⟨hk1,hk2⟩
  by_cases hlt : k < n.parts.length
  ·obtain ⟨p,hp⟩ := mem_get hlt
   obtain ⟨bp,op,hpa,hr⟩ := RdS.elem (g := fun z => [I64 z]) (fun _ => rfl) (by rw [flat_I64];exact h.p) hp rfl
   have hgp : n.parts.getD k 0 = p := by rw [List.getD_eq_getElem?_getD,hp];rfl
   have hfail : okP n.parts k = false → partsV n.parts = false := fun hh => by
    unfold partsV
    rw [List.all_eq_false]
    exact ⟨k,List.mem_range.2 hlt,by rw [hh];decide⟩
   rw [hpa]
   by_cases e1 : p < 0
   ·repeat (first | refine S.y (Y.ldRj rfl (by first | assumption | exact RdC.sub (by assumption)) rfl) ?_ | (refine GQ.y ?_;refine Q.y ?_) | refine Q.go ?_ | (refine GQ.g ?_;refine Q.gq ?_) | (refine GQ.s ?_;refine Q.st ?_) | (refine GQ.g ?_;refine Q.gd ?_) | refine Q.ct rfl ?_ | refine Q.cf rfl ?_ | (refine GQ.a ?_;refine Q.al (fun b1 => ?_)))
    exact N.r1 (RV.tmp rfl RV.nil) (Ent.drop (Ent.refl _)) ⟨by rw [hfail (by unfold okP;rw [hgp,decide_eq_false (by omega : ¬ 0 ≤ p)];rfl)];rfl,rfl⟩
   by_cases e2 : 16 ≤ p
   ·repeat (first | refine S.y (Y.ldRj rfl (by first | assumption | exact RdC.sub (by assumption)) rfl) ?_ | (refine GQ.y ?_;refine Q.y ?_) | refine Q.go ?_ | (refine GQ.g ?_;refine Q.gq ?_) | (refine GQ.s ?_;refine Q.st ?_) | (refine GQ.g ?_;refine Q.gd ?_) | refine Q.ct rfl ?_ | refine Q.cf rfl ?_ | (refine GQ.a ?_;refine Q.al (fun b1 => ?_)))
    exact N.r1 (RV.tmp rfl RV.nil) (Ent.drop (Ent.refl _)) ⟨by rw [hfail (by unfold okP;rw [hgp,decide_eq_false (by omega : ¬ p < 16),Bool.and_false];rfl)];rfl,rfl⟩
   by_cases e3 : k = 0
   ·subst e3
    repeat (first | refine S.y (Y.ldRj rfl (by first | assumption | exact RdC.sub (by assumption)) rfl) ?_ | (refine GQ.y ?_;refine Q.y ?_) | refine Q.go ?_ | (refine GQ.g ?_;refine Q.gq ?_) | (refine GQ.s ?_;refine Q.st ?_) | (refine GQ.g ?_;refine Q.gd ?_) | refine Q.ct rfl ?_ | refine Q.cf rfl ?_ | (refine GQ.a ?_;refine Q.al (fun b1 => ?_)))
    exact ⟨1,⟨by rw [← hpa];rfl,by rw [← hpa];rfl,rfl,rfl,trivial⟩,Ent.refl _,⟨by omega,by rw [show List.range (0 + 1) = [0] from rfl,List.all_cons,List.all_nil];unfold okP;rw [hgp,decide_eq_true (by omega : (0 : Int) ≤ p),decide_eq_true (by omega : p < 16)];rfl⟩,by omega⟩
   ·obtain ⟨q,hq⟩ := mem_get (l := n.parts) (show k - 1 < n.parts.length by omega)
    obtain ⟨bq,oq,hqa,hr2⟩ := RdS.elem (g := fun z => [I64 z]) (fun _ => rfl) (by rw [flat_I64];exact h.p) hq rfl
    have hgq : n.parts.getD (k - 1) 0 = q := by rw [List.getD_eq_getElem?_getD,hq];rfl
    by_cases e4 : p ≤ q
    ·repeat (first | refine S.y (Y.ldRj rfl (by first | assumption | exact RdC.sub (by assumption)) rfl) ?_ | refine Q.yn ?_ | refine S.stI rfl rfl (by first | omega | (rw [Array.size_setIfInBounds];omega)) ?_ | (refine GQ.y ?_;refine Q.y ?_) | refine Q.go ?_ | (refine GQ.g ?_;refine Q.gq ?_) | (refine GQ.s ?_;refine Q.st ?_) | (refine GQ.g ?_;refine Q.gd ?_) | refine Q.ct rfl ?_ | refine Q.cf rfl ?_ | (refine GQ.a ?_;refine Q.al (fun b1 => ?_)))
     rw [hqa]
     repeat (first | refine S.y (Y.ldRj rfl (by first | assumption | exact RdC.sub (by assumption)) rfl) ?_ | refine Q.yn ?_ | refine S.stI rfl rfl (by first | omega | (rw [Array.size_setIfInBounds];omega)) ?_ | (refine GQ.y ?_;refine Q.y ?_) | refine Q.go ?_ | (refine GQ.g ?_;refine Q.gq ?_) | (refine GQ.s ?_;refine Q.st ?_) | (refine GQ.g ?_;refine Q.gd ?_) | refine Q.ct rfl ?_ | refine Q.cf rfl ?_ | (refine GQ.a ?_;refine Q.al (fun b1 => ?_)))
     exact N.r1 (RV.tmp rfl RV.nil) (Ent.drop (Ent.refl _)) ⟨by rw [hfail (by unfold okP;rw [hgp,hgq,decide_eq_false e3,decide_eq_false (by omega : ¬ q < p),Bool.or_false,Bool.and_false])];rfl,rfl⟩
    ·repeat (first | refine S.y (Y.ldRj rfl (by first | assumption | exact RdC.sub (by assumption)) rfl) ?_ | refine Q.yn ?_ | refine S.stI rfl rfl (by first | omega | (rw [Array.size_setIfInBounds];omega)) ?_ | (refine GQ.y ?_;refine Q.y ?_) | refine Q.go ?_ | (refine GQ.g ?_;refine Q.gq ?_) | (refine GQ.s ?_;refine Q.st ?_) | (refine GQ.g ?_;refine Q.gd ?_) | refine Q.ct rfl ?_ | refine Q.cf rfl ?_ | (refine GQ.a ?_;refine Q.al (fun b1 => ?_)))
     rw [hqa]
     repeat (first | refine S.y (Y.ldRj rfl (by first | assumption | exact RdC.sub (by assumption)) rfl) ?_ | refine Q.yn ?_ | refine S.stI rfl rfl (by first | omega | (rw [Array.size_setIfInBounds];omega)) ?_ | (refine GQ.y ?_;refine Q.y ?_) | refine Q.go ?_ | (refine GQ.g ?_;refine Q.gq ?_) | (refine GQ.s ?_;refine Q.st ?_) | (refine GQ.g ?_;refine Q.gd ?_) | refine Q.ct rfl ?_ | refine Q.cf rfl ?_ | (refine GQ.a ?_;refine Q.al (fun b1 => ?_)))
     refine ⟨k + 1,⟨rfl,by first | rfl | (rw [← hqa];rfl) | (rw [← hpa];rfl) | (rw [hqa];rfl) | (rw [hpa];rfl),rfl,rfl,trivial⟩,Ent.refl _,⟨by omega,?_⟩,by omega⟩
     rw [List.range_succ,List.all_append,hk2,List.all_cons,List.all_nil]
     unfold okP
     rw [hgp,hgq,decide_eq_true (by omega : (0 : Int) ≤ p),decide_eq_true (by omega : p < 16),decide_eq_true (by omega : q < p),Bool.or_true];rfl
  ·have : k = n.parts.length := by omega
   subst this
   refine Q.r ?_;(repeat (intro b1;refine Q.r ?_))
   exact ⟨(),⟨rfl,trivial⟩,Ent.refl _,hk2⟩
 ·rintro _ hp
  refine Q.r ?_;(repeat (intro b1;refine Q.r ?_))
  refine S.cr rfl (HasO_spec 119 [] [] (fun o => badOp o.abs) n.oa n.oc n.ops _ h.o.1.sub (by have := hk.o;omega) (fun o ho => bad1_spec o _ ((h.o.2 o ho).sub) (hk.ov o ho))) ?_
  rintro _ _ ⟨rfl,rfl⟩
  cases hop : n.ops.any fun o => badOp o.abs with
  | true =>
   refine Q.r ?_;(repeat (intro b1;refine Q.r ?_))
   exact N.r1 (RV.tmp rfl RV.nil) (Ent.drop (Ent.refl _)) ⟨by simp only [Bool.or_true,Bool.true_or,Bool.or_false,Bool.false_or,Bool.not_true,Bool.not_false,Bool.false_and,Bool.and_false,Bool.true_and,Bool.and_true],rfl⟩
  | false =>
   refine Q.r ?_;(repeat (intro b1;refine Q.r ?_))
   refine S.cr rfl (HasH_spec 121 [] [] (fun o => badHit o.abs) n.ha n.hc n.hits _ h.h.sub (by have := hk.h;omega) (fun o ho => bad2_spec o _ ((h.hv o ho).sub) (hk.hv o ho))) ?_
   rintro _ _ ⟨rfl,rfl⟩
   refine Q.r ?_;(repeat (intro b1;refine Q.r ?_))
   exact N.r1 (RV.tmp rfl RV.nil) (Ent.drop (Ent.refl _)) ⟨by simp only [hp,Bool.or_true,Bool.true_or,Bool.or_false,Bool.false_or,Bool.not_true,Bool.not_false,Bool.false_and,Bool.and_false,Bool.true_and,Bool.and_true],rfl⟩
abbrev ST := List UInt8 × Nat
abbrev ST.cells (p : ST) : List Value := [str p.1,.int .i64 (p.2 : Int)]
def sortsT : List ST := [([],0),([65,115,107],4098),([82,101,112,108,121],518),([80,114,101,112,97,114,101],6153),([86,111,116,101],513),([68,101,99,105,100,101],517),([65,99,107],1),([80,114,111,98,101],1),([81,117,101,114,121],8672),([76,111,111,107],8692),([83,101,101,110],16928),([82,101,115,117,108,116],16932),([80,114,101,112,97,114,101,100],6153),([67,111,109,109,105,116,116,101,100],5),([65,98,111,114,116,101,100],1),([83,119,101,112,116],16),([69,112,111,99,104],16),([67,111,109,109,105,116],2055),([69,110,100],1),([66,101,103,105,110],7179),([89,101,115],1025),([65,99,107,101,100],1025),([71,111,110,101],1)]
def sortsC : List Value := sortsT.flatMap ST.cells
def sortT (k : Nat) : ST := (sortsT[k]?).getD ([],0)
theorem sort_fld (k : Nat) : (sortT k).2 = fldN k := by
 by_cases h : k < 23
 ·exact (by decide : ∀ k,k < 23 → (sortT k).2 = fldN k) k h
 ·have h1 : sortT k = ([],0) := by
   unfold sortT
   rw [List.getElem?_eq_none (by show 23 ≤ k;omega)];rfl
  rw [h1]
  unfold fldN
  split <;> first | omega | rfl
theorem sort_name (k : Nat) : (decide ((sortT k).1 = [])) = !decide (1 ≤ k ∧ k ≤ 22) := by
 by_cases h : k < 23
 ·exact (by decide : ∀ k,k < 23 → (decide ((sortT k).1 = [])) = !decide (1 ≤ k ∧ k ≤ 22)) k h
 ·have h1 : sortT k = ([],0) := by
   unfold sortT
   rw [List.getElem?_eq_none (by show 23 ≤ k;omega)];rfl
  rw [h1,decide_eq_false (by omega : ¬ (1 ≤ k ∧ k ≤ 22))];rfl
theorem sorted_spec (k : Nat) (A : List HP) (hT : RdC A 0 0 sortsC) (hk : k ≤ 255) :
  CallsS Tryz.prog 89 [.int .u8 (k : Int)] A (fun r L' => r = .agg (ST.cells (sortT k)).toArray ∧ L' = A) := by
 refine CallsS.of_body Tryz.func89 rfl rfl rfl ?_
 by_cases h : 23 ≤ k
 ·have h1 : sortT k = ([],0) := by
   unfold sortT
   rw [List.getElem?_eq_none (by show 23 ≤ k;omega)];rfl
  rw [h1]
  refine Q.r ?_;(repeat (intro b1;refine Q.r ?_))
  refine S.y (Y.cvi rfl) ?_
  rw [wrap_i64 (by omega) (by omega)]
  refine Q.r ?_;(repeat (intro b1;refine Q.r ?_))
  exact N.r1 (by apply RV.cellN;rfl;exact RdC.row;rfl;exact RV.nil) (Ent.drop (Ent.refl _)) ⟨rfl,rfl⟩
 ·have hs : sortsT[k]? = some (sortT k) := by
   unfold sortT
   rw [List.getElem?_eq_getElem (show k < sortsT.length by show k < 23;omega)];rfl
  have hr : RdC A 0 (0 + k * 2) (ST.cells (sortT k)) := hT.part fun j v e => flat_get (g := ST.cells) (fun _ => rfl) sortsT k j _ v hs e
  refine Q.r ?_;(repeat (intro b1;refine Q.r ?_))
  refine S.y (Y.cvi rfl) ?_
  rw [wrap_i64 (by omega) (by omega)]
  refine Q.rn ?_;(repeat (intro b1;refine Q.rn ?_))
  exact N.r1 (by apply RV.cellN;rfl;exact RdC.row;rfl;exact RV.nil) (Ent.drop (Ent.refl _)) ⟨rfl,rfl⟩
theorem testBit_bitsN : ∀ (l : List Bool) (i : Nat),(bitsN l).testBit i = l.getD i false
 | [],i => by simp [bitsN]
 | b :: l,0 => by
  unfold bitsN
  rw [Nat.testBit_zero]
  cases b <;> simp [Nat.add_mod]
 | b :: l,i + 1 => by
  unfold bitsN
  rw [Nat.testBit_succ,List.getD_cons_succ,← testBit_bitsN l i]
  congr 1
  cases b <;> simp <;> omega
theorem i64_and (a f : Nat) (ha : a < 2 ^ 15) : IntKind.i64.wrap (((BitVec.ofInt IntKind.i64.bits (a : Int)) &&& ~~~(BitVec.ofInt IntKind.i64.bits (f : Int))).toNat : Int) = (((BitVec.ofNat 64 a &&& ~~~ BitVec.ofNat 64 f).toNat : Nat) : Int) := by
 have e : ∀ x : Nat,BitVec.ofInt IntKind.i64.bits (x : Int) = BitVec.ofNat 64 x := fun x => by
  show BitVec.ofInt 64 (x : Int) = _
  rw [BitVec.ofInt_natCast]
 rw [e,e]
 have h : (BitVec.ofNat 64 a &&& ~~~ BitVec.ofNat 64 f).toNat ≤ a := by
  rw [BitVec.toNat_and]
  refine Nat.le_trans Nat.and_le_left ?_
  simp;omega
 show IntKind.i64.wrap (((BitVec.ofNat 64 a &&& ~~~ BitVec.ofNat 64 f).toNat : Nat) : Int) = _
 exact wrap_i64 (by omega) (by omega)
theorem held_fits (n : NA) (f : Nat) : decide ((((BitVec.ofNat 64 (bitsN n.bits) &&& ~~~ BitVec.ofNat 64 f).toNat : Nat) : Int) = 0) = n.bits.zipIdx.all fun b => !b.1 || f.testBit b.2 := by
 have hl : n.bits.length = 15 := rfl
 rw [Bool.eq_iff_iff,decide_eq_true_iff,List.all_eq_true]
 constructor
 ·intro h b hb
  obtain ⟨x,i⟩ := b
  have hi := List.mem_zipIdx_iff_getElem?.1 hb
  dsimp only at hi ⊢
  cases x with
  | false => rfl
  | true =>
   have hlt : i < 15 := by rw [← hl];exact (List.getElem?_eq_some_iff.1 hi).1
   have h0 : (BitVec.ofNat 64 (bitsN n.bits) &&& ~~~ BitVec.ofNat 64 f) = 0#64 := BitVec.eq_of_toNat_eq (by simpa using h)
   have h1 := congrArg (fun v : BitVec 64 => v.getLsbD i) h0
   simp only [BitVec.getLsbD_and,BitVec.getLsbD_not,BitVec.getLsbD_ofNat] at h1
   rw [testBit_bitsN,List.getD_eq_getElem?_getD,hi] at h1
   simp [show i < 64 by omega] at h1
   simpa using h1
 ·intro h
  have h0 : (BitVec.ofNat 64 (bitsN n.bits) &&& ~~~ BitVec.ofNat 64 f) = 0#64 := by
   apply BitVec.eq_of_getLsbD_eq
   intro i hi
   simp only [BitVec.getLsbD_and,BitVec.getLsbD_not,BitVec.getLsbD_ofNat,BitVec.getLsbD_zero]
   rw [testBit_bitsN,List.getD_eq_getElem?_getD]
   cases hb : n.bits[i]? with
   | none => simp
   | some b =>
    have := h (b,i) (List.mem_zipIdx_iff_getElem?.2 hb)
    dsimp only at this
    cases b with
    | false => simp
    | true => simp at this;simp [this,hi]
  rw [h0];rfl
set_option maxHeartbeats 1000000 in
theorem NRight_spec (n : NV) (A : List HP) (h : RdN A n) (hk : OkN n) (hT : RdC A 0 0 sortsC) (h0 : 0 ≤ n.kind ∧ n.kind ≤ 255) :
  CallsS Tryz.prog 36 [n.val] A (fun r L' => r = .bool (rightN n.abs) ∧ L' = A) := by
 obtain ⟨k,hkk⟩ : ∃ k : Nat,n.kind = (k : Int) := ⟨n.kind.toNat,by omega⟩
 have hbd : bitsN n.bits < 2 ^ 15 := bitsN_lt n.bits
 have hE : rightN n.abs = ((!decide ((sortT k).1 = [])) && decide ((((BitVec.ofNat 64 (bitsN n.bits) &&& ~~~ BitVec.ofNat 64 (sortT k).2).toNat : Nat) : Int) = 0) && boundN n.abs) := by
  have := held_fits n.abs (sortT k).2
  rw [NV.bits_abs] at this
  unfold rightN
  rw [NV.bits_abs,this,sort_name,sort_fld,Bool.not_not]
  show (decide (1 ≤ n.kind ∧ n.kind ≤ 22) && (n.bits.zipIdx.all fun b => !b.1 || (fldN n.kind.toNat).testBit b.2) && boundN n.abs) = _
  rw [hkk,Int.toNat_natCast,show decide (1 ≤ (k : Int) ∧ (k : Int) ≤ 22) = decide (1 ≤ k ∧ k ≤ 22) from by congr 1;simp;omega]
 rw [hE]
 clear hE
 refine CallsS.of_body Tryz.func36 rfl rfl rfl ?_
 refine Q.r ?_;(repeat (intro b1;refine Q.r ?_))
 refine S.cr (args := [.int .u8 (k : Int)]) (by rw [← hkk];rfl) (sorted_spec k _ hT.sub (by omega)) ?_
 rintro _ _ ⟨rfl,rfl⟩
 by_cases hn : (sortT k).1 = []
 ·rw [decide_eq_true hn]
  refine Q.r ?_;(repeat (intro b1;refine Q.r ?_))
  refine Q.dgo [true,true] [5,13] [] [0,1,2,3,4,6,7,5,8,9,10,11,12,13,14,15] ?_
  refine Q.rd ?_;(repeat (intro b1;refine Q.rd ?_))
  refine Q.r ?_;(repeat (intro b1;refine Q.r ?_))
  exact N.r1 (RV.tmp rfl RV.nil) (Ent.drop (Ent.drop (Ent.refl _))) ⟨by simp only [Bool.not_true,Bool.false_and],rfl⟩
 rw [decide_eq_false hn]
 refine Q.r ?_;(repeat (intro b1;refine Q.r ?_))
 refine Q.dgo [true,true] [5,13] [] [0,1,2,3,4,6,7,5,8,9,10,11,12,13,14,15] ?_
 refine Q.rd ?_;(repeat (intro b1;refine Q.rd ?_))
 refine D.e rfl rfl rfl ?_
 refine S.guard rfl ?_
 refine S.cr rfl (held_spec n _) ?_
 rintro _ _ ⟨rfl,rfl⟩
 refine Q.r ?_;(repeat (intro b1;refine Q.r ?_))
 refine D.y rfl rfl rfl (by kernel_rfl) (Y.guard rfl (Y.andNot rfl rfl)) ?_
 rw [i64_and _ _ hbd]
 generalize (BitVec.ofNat 64 (bitsN n.bits) &&& ~~~ BitVec.ofNat 64 (sortT k).2).toNat = z
 by_cases hz : (z : Int) = 0
 ·rw [decide_eq_true hz]
  refine Q.rd ?_;(repeat (intro b1;refine Q.rd ?_))
  refine D.e rfl rfl rfl ?_
  refine S.guard rfl ?_
  refine S.cr rfl (bounded_spec n _ h hk) ?_
  rintro _ _ ⟨rfl,rfl⟩
  refine Q.r ?_;(repeat (intro b1;refine Q.r ?_))
  refine Q.rd ?_;(repeat (intro b1;refine Q.rd ?_))
  refine Q.r ?_;(repeat (intro b1;refine Q.r ?_))
  exact N.r1 (RV.tmp rfl RV.nil) (Ent.drop (Ent.drop (Ent.refl _))) ⟨by simp only [Bool.not_false,Bool.true_and],rfl⟩
 ·rw [decide_eq_false hz]
  refine Q.rd ?_;(repeat (intro b1;refine Q.rd ?_))
  refine Q.r ?_;(repeat (intro b1;refine Q.r ?_))
  exact N.r1 (RV.tmp rfl RV.nil) (Ent.drop (Ent.drop (Ent.refl _))) ⟨by simp only [Bool.not_false,Bool.and_false,Bool.false_and],rfl⟩
end Go.Proofs.YtiampehfpgcogaaGreatDoor
namespace Go.Proofs.YtiampehfpgcogaaGreatDoor
open Go Go.SX
structure JS where
 v : VS
 parts : List (Int × List Int)
 done : List (Int × Int)
structure PA where
 rec_ : List NA
 mail : List (Int × NA)
 els : List (Int × NA)
def PA.none : PA := ⟨[],[],[]⟩
abbrev voteN (txn code : Int) : Int × NA := (0,{ NA.zero with kind := 4,txn := txn,code := code })
def takenV (st : VS) (ops : VL) : Bool := st.its.any fun i => i.2.2.any fun o => holdsV ops o.1
def aboveV (st : VS) (s : Int) (ops : VL) : Bool := !st.ch.any fun c => decide (s ≤ lastS c.2) && holdsV ops c.1
def prepV (j : JS) (n : NA) : PA :=
 if (lkL j.done n.txn).isSome ∨ checkV j.v.dim n.ops ≠ 0 then PA.none
 else if (lkL j.v.its n.txn).isSome then ⟨[],[voteN n.txn 0],[]⟩
 else if takenV j.v n.ops then ⟨[],[voteN n.txn 11],[]⟩
 else ⟨[{ n with kind := 12 }],[voteN n.txn 0],[voteN n.txn 8]⟩
abbrev ackN (txn : Int) : Int × NA := (0,{ NA.zero with kind := 6,txn := txn })
def deciV (j : JS) (from_ : Int) (n : NA) : PA :=
 if n.code ≠ 0 then if (lkL j.v.its n.txn).isSome ∧ from_ = 0 then ⟨[{ NA.zero with kind := 14,txn := n.txn }],[],[]⟩ else PA.none
 else match lkL j.done n.txn with
  | some s => if s = n.stamp then ⟨[],[ackN n.txn],[]⟩ else PA.none
  | none => match lkL j.v.its n.txn with
   | some i => if max i.1 j.v.mark < n.stamp ∧ aboveV j.v n.stamp i.2 = true then ⟨[{ NA.zero with kind := 13,txn := n.txn,stamp := n.stamp }],[ackN n.txn],[]⟩ else PA.none
   | none => PA.none
def planV (j : JS) (from_ : Int) (n : NA) : PA :=
 if rightN n = false then PA.none
 else if n.kind = 3 then if from_ = 0 then prepV j n else PA.none
 else if n.kind = 5 then deciV j from_ n
 else if n.kind = 7 then match lkL j.done n.txn with
  | some s => ⟨[],[(from_,{ NA.zero with kind := 5,txn := n.txn,stamp := s })],[]⟩
  | none => PA.none
 else PA.none
def appE (j : JS) (n : NA) : Int :=
 if rightN n = false then 4
 else if n.kind = 12 then lockE j.v n.txn n.after n.ops
 else if n.kind = 13 then applyE j.v n.txn n.stamp
 else if n.kind = 14 then if (lkL j.v.its n.txn).isSome then 0 else 6
 else if n.kind = 15 then 0
 else 4
def appS (j : JS) (n : NA) : JS :=
 if appE j n ≠ 0 then j
 else if n.kind = 12 then ⟨lockS j.v n.txn n.after n.ops,putL j.parts n.txn n.parts,j.done⟩
 else if n.kind = 13 then ⟨applyS j.v n.txn n.stamp,delL j.parts n.txn,putL j.done n.txn n.stamp⟩
 else if n.kind = 14 then ⟨{ j.v with its := delL j.v.its n.txn },delL j.parts n.txn,j.done⟩
 else if n.kind = 15 then ⟨sweepS j.v n.mark,j.parts,j.done⟩
 else j
structure JOK (j : JS) (n : Nat) : Prop where
 w : WFK j.v n
 kp : keysOK j.parts
 kd : keysOK j.done
 o : ∀ t s,lkL j.done t = some s → lkL j.v.its t = none
 p : ∀ t s,lkL j.done t = some s → 0 < s
 m : 0 ≤ j.v.mark
 ne : ∀ c ∈ j.v.ch,0 < c.2.length
theorem right_abort {t : Int} (h : 0 ≤ t) : rightN { NA.zero with kind := 14,txn := t } = true := by
 unfold rightN boundN NA.bits NA.zero bareV
 by_cases h0 : 0 < t
 ·simp [h0,List.zipIdx,fldN,partsV]
 ·simp [h0,List.zipIdx,fldN,partsV]
theorem right_commit {t s : Int} (h2 : s ≤ 1099511627776) : rightN { NA.zero with kind := 13,txn := t,stamp := s } = true := by
 unfold rightN boundN NA.bits NA.zero bareV
 by_cases h0 : 0 < t <;> by_cases h1 : 0 < s <;> simp [h0,h1,List.zipIdx,fldN,partsV] <;> first | omega | (refine ⟨?_,?_⟩ <;> first | decide | omega)
theorem right_prep {n : NA} (h : rightN n = true) (hk : n.kind = 3) : rightN { n with kind := 12 } = true := by
 unfold rightN at h ⊢
 rw [hk] at h
 exact h
theorem right_bound {n : NA} (h : rightN n = true) : n.stamp ≤ 1099511627776 ∧ n.after ≤ 1099511627776 ∧ n.mark ≤ 1099511627776 := by
 unfold rightN boundN at h
 simp only [Bool.and_eq_true,Bool.not_eq_true',Bool.or_eq_false_iff,decide_eq_false_iff_not] at h
 omega
theorem isSome_ne {α : Type} {o : Option α} (h : ¬ o.isSome = true) : o = none := by cases o with
 | none => rfl
 | some a => exact absurd rfl h
theorem lkL_snoc {κ α : Type} [DecidableEq κ] {m : List (κ × α)} {x y : κ} {a : α} (h : lkL m x = none) : lkL (m ++ [(x,a)]) y = if y = x then some a else lkL m y := by
 have hm := lk_none' h
 by_cases hy : y = x
 ·subst hy
  rw [if_pos rfl]
  exact lkL_mid (q := []) hm
 ·rw [if_neg hy]
  unfold lkL
  rw [List.find?_append]
  have : (List.find? (fun p : κ × α => decide (p.1 = y)) [(x,a)]) = none := by simp [Ne.symm hy]
  rw [this,Option.or_none]
theorem lkL_delE {κ α : Type} [DecidableEq κ] (m : List (κ × α)) (x : κ) : lkL (delL m x) x = none := lkL_none fun u hu => by
 have := (List.mem_filter.1 hu).2
 simpa using this
theorem lkL_delI {κ α : Type} [DecidableEq κ] {m : List (κ × α)} (x y : κ) : lkL (delL m x) y = if y = x then none else lkL m y := by
 by_cases hy : y = x
 ·subst hy;rw [if_pos rfl,lkL_delE]
 ·rw [if_neg hy,lkL_del x y hy]
theorem taken_lock {st : VS} {ops : VL} (h : takenV st ops = false) : (ops.any fun o => st.its.any fun i => holdsV i.2.2 o.1) = false := by
 rw [List.any_eq_false]
 intro o ho hh
 obtain ⟨i,hi,hx⟩ := List.any_eq_true.1 hh
 unfold holdsV at hx
 obtain ⟨u,hu,hux⟩ := List.any_eq_true.1 hx
 have hux := of_decide_eq_true hux
 have : takenV st ops = true := by
  unfold takenV
  refine List.any_eq_true.2 ⟨i,hi,List.any_eq_true.2 ⟨u,hu,?_⟩⟩
  unfold holdsV
  exact List.any_eq_true.2 ⟨o,ho,decide_eq_true hux.symm⟩
 rw [h] at this;cases this
theorem prep_lock {j : JS} {n : NA} (ha : n.after ≤ 1099511627776) (hc : checkV j.v.dim n.ops = 0) (hl : lkL j.v.its n.txn = none) (ht : takenV j.v n.ops = false) : lockE j.v n.txn n.after n.ops = 0 := by
 unfold lockE
 rw [if_neg (by omega),if_neg (by simp [hc]),hl,if_neg (by simp),taken_lock ht]
 rfl
theorem above_apply {j : JS} {t s : Int} {i : Int × VL} (hl : lkL j.v.its t = some i) (h1 : max i.1 j.v.mark < s) (hm : 0 ≤ j.v.mark) (h2 : s ≤ 1099511627776) (ha : aboveV j.v s i.2 = true) : applyE j.v t s = 0 := by
 unfold applyE
 rw [hl]
 dsimp only
 rw [if_neg (by omega)]
 have hno : (i.2.any fun o => decide (s ≤ lastS (chV j.v.ch o.1))) = false := by
  rw [List.any_eq_false]
  intro o ho hh
  have hh := of_decide_eq_true hh
  unfold chV at hh
  cases hz : lkL j.v.ch o.1 with
  | none =>
   rw [hz] at hh
   have : lastS ([] : VL) = 0 := rfl
   rw [Option.getD_none,this] at hh
   omega
  | some w =>
   rw [hz,Option.getD_some] at hh
   have hmem := lk_memL hz
   unfold aboveV at ha
   rw [Bool.not_eq_true',List.any_eq_false] at ha
   refine ha _ hmem ?_
   rw [Bool.and_eq_true]
   refine ⟨decide_eq_true hh,?_⟩
   unfold holdsV
   exact List.any_eq_true.2 ⟨o,ho,decide_eq_true rfl⟩
 rw [hno,if_neg (by simp),if_neg (by omega)]
theorem applyC_ne {s : Int} {ops : VL} {ch : List (Int × VL)} (hk : keysOK ch) (hn : (ops.map (·.1)).Nodup) (h : ∀ c ∈ ch,0 < c.2.length) : ∀ c ∈ applyC s ch ops,0 < c.2.length := fun c hc => by
 rcases applyC_mem hk hn hc with hc | ⟨o,ho,rfl⟩
 ·exact h c hc
 ·simp
structure Once (j : JS) (k : Nat) (n r : NA) : Prop where
 tx : r.txn = n.txn
 nd : lkL j.done n.txn = none
 e : appE j r = 0
 ok : JOK (appS j r) (k + 1)
 rt : rightN r = true
theorem once_prep {j : JS} {k : Nat} (hj : JOK j k) {n : NA} (hr : rightN n = true) (hk : n.kind = 3) (hd : lkL j.done n.txn = none) (hc : checkV j.v.dim n.ops = 0) (hl : lkL j.v.its n.txn = none) (ht : takenV j.v n.ops = false) :
  Once j k n { n with kind := 12 } ∧ (appS j { n with kind := 12 }).done = j.done ∧ ∀ t,(lkL (appS j { n with kind := 12 }).v.its t).isSome = true → t = n.txn ∨ (lkL j.v.its t).isSome = true := by
 have hb := right_bound hr
 have hlk := prep_lock (j := j) hb.2.1 hc hl ht
 have hr2 := right_prep hr hk
 have hE : appE j { n with kind := 12 } = 0 := by
  unfold appE
  rw [if_neg (by rw [hr2];decide),if_pos rfl]
  exact hlk
 have hS : appS j { n with kind := 12 } = ⟨lockS j.v n.txn n.after n.ops,putL j.parts n.txn n.parts,j.done⟩ := by
  unfold appS
  rw [if_neg (by rw [hE];decide),if_pos rfl]
 have hSv : lockS j.v n.txn n.after n.ops = { j.v with its := j.v.its ++ [(n.txn,n.after,n.ops)] } := by unfold lockS;rw [if_pos hlk]
 refine ⟨⟨rfl,hd,hE,?_,hr2⟩,by rw [hS],fun t h => ?_⟩
 ·rw [hS]
  refine ⟨hj.w.lock _ _ _,putL_ok hj.kp _ _,hj.kd,fun t s h => ?_,hj.p,?_,?_⟩
  ·dsimp only at h ⊢
   rw [hSv]
   dsimp only
   rw [lkL_snoc hl]
   by_cases ht : t = n.txn
   ·subst ht;rw [hd] at h;cases h
   ·rw [if_neg ht];exact hj.o t s h
  ·rw [hSv];exact hj.m
  ·rw [hSv];exact hj.ne
 ·rw [hS] at h
  dsimp only at h
  rw [hSv] at h
  dsimp only at h
  rw [lkL_snoc hl] at h
  by_cases ht : t = n.txn
  ·exact .inl ht
  ·rw [if_neg ht] at h;exact .inr h
abbrev comN (t s : Int) : NA := { NA.zero with kind := 13,txn := t,stamp := s }
abbrev aboN (t : Int) : NA := { NA.zero with kind := 14,txn := t }
theorem once_commit {j : JS} {k : Nat} (hj : JOK j k) {n : NA} (hr : rightN n = true) (hd : lkL j.done n.txn = none) {i : Int × VL} (hl : lkL j.v.its n.txn = some i) (h1 : max i.1 j.v.mark < n.stamp) (ha : aboveV j.v n.stamp i.2 = true) :
  Once j k n (comN n.txn n.stamp) ∧ 0 < n.stamp ∧ (appS j (comN n.txn n.stamp)).done = putL j.done n.txn n.stamp ∧ ∀ t,(lkL (appS j (comN n.txn n.stamp)).v.its t).isSome = true → (lkL j.v.its t).isSome = true := by
 have hb := right_bound hr
 have hm := hj.m
 have hE0 := above_apply hl h1 hj.m hb.1 ha
 have hr2 : rightN (comN n.txn n.stamp) = true := right_commit hb.1
 have hE : appE j (comN n.txn n.stamp) = 0 := by
  unfold appE
  rw [if_neg (by rw [hr2];decide),if_neg (show ¬ (13 : Int) = 12 by decide),if_pos rfl]
  exact hE0
 have hS : appS j (comN n.txn n.stamp) = ⟨applyS j.v n.txn n.stamp,delL j.parts n.txn,putL j.done n.txn n.stamp⟩ := by
  unfold appS
  rw [if_neg (by rw [hE];decide),if_neg (show ¬ (13 : Int) = 12 by decide),if_pos rfl]
 have hSv : applyS j.v n.txn n.stamp = { j.v with ch := applyC n.stamp j.v.ch i.2,its := delL j.v.its n.txn } := by unfold applyS;rw [hl];dsimp only;rw [if_pos hE0]
 have hpos : 0 < n.stamp := by omega
 refine ⟨⟨rfl,hd,hE,?_,hr2⟩,hpos,by rw [hS],fun t h => ?_⟩
 ·rw [hS]
  refine ⟨hj.w.apply _ _,delL_ok hj.kp _,putL_ok hj.kd _ _,fun t s h => ?_,fun t s h => ?_,?_,?_⟩
  ·dsimp only at h ⊢
   rw [hSv]
   dsimp only
   rw [lkL_put hj.kd] at h
   rw [lkL_delI]
   by_cases ht : t = n.txn
   ·rw [if_pos ht]
   ·rw [if_neg ht] at h ⊢;exact hj.o t s h
  ·dsimp only at h
   rw [lkL_put hj.kd] at h
   by_cases ht : t = n.txn
   ·rw [if_pos ht] at h;cases h;exact hpos
   ·rw [if_neg ht] at h;exact hj.p t s h
  ·rw [hSv];exact hj.m
  ·rw [hSv]
   exact applyC_ne hj.w.k1 (hj.w.wf.io _ (lk_memL hl)).2.1 hj.ne
 ·rw [hS] at h
  dsimp only at h
  rw [hSv] at h
  dsimp only at h
  rw [lkL_delI] at h
  by_cases ht : t = n.txn
  ·rw [if_pos ht] at h;cases h
  ·rw [if_neg ht] at h;exact h
theorem once_abort {j : JS} {k : Nat} (hj : JOK j k) {n : NA} (h0 : 0 ≤ n.txn) (hl : (lkL j.v.its n.txn).isSome = true) :
  Once j k n (aboN n.txn) ∧ (appS j (aboN n.txn)).done = j.done ∧ ∀ t,(lkL (appS j (aboN n.txn)).v.its t).isSome = true → t ≠ n.txn ∧ (lkL j.v.its t).isSome = true := by
 have hd : lkL j.done n.txn = none := by
  cases hz : lkL j.done n.txn with
  | none => rfl
  | some s => rw [hj.o _ _ hz] at hl;cases hl
 have hr2 : rightN (aboN n.txn) = true := right_abort h0
 have hE : appE j (aboN n.txn) = 0 := by
  unfold appE
  rw [if_neg (by rw [hr2];decide),if_neg (show ¬ (14 : Int) = 12 by decide),if_neg (show ¬ (14 : Int) = 13 by decide),if_pos rfl]
  exact if_pos hl
 have hS : appS j (aboN n.txn) = ⟨{ j.v with its := delL j.v.its n.txn },delL j.parts n.txn,j.done⟩ := by
  unfold appS
  rw [if_neg (by rw [hE];decide),if_neg (show ¬ (14 : Int) = 12 by decide),if_neg (show ¬ (14 : Int) = 13 by decide),if_pos rfl]
 refine ⟨⟨rfl,hd,hE,?_,hr2⟩,by rw [hS],fun t h => ?_⟩
 ·rw [hS]
  refine ⟨(hj.w.free _).mono (by omega),delL_ok hj.kp _,hj.kd,fun t s h => ?_,hj.p,hj.m,hj.ne⟩
  dsimp only at h ⊢
  rw [lkL_delI]
  by_cases ht : t = n.txn
  ·rw [if_pos ht]
  ·rw [if_neg ht];exact hj.o t s h
 ·rw [hS] at h
  dsimp only at h
  rw [lkL_delI] at h
  by_cases ht : t = n.txn
  ·rw [if_pos ht] at h;cases h
  ·rw [if_neg ht] at h;exact ⟨ht,h⟩
theorem plan_cases {j : JS} {k : Nat} (hj : JOK j k) {n : NA} (h0 : 0 ≤ n.txn) (f : Int) :
  (planV j f n).rec_ = [] ∨
  ((planV j f n).rec_ = [{ n with kind := 12 }] ∧ Once j k n { n with kind := 12 } ∧ (appS j { n with kind := 12 }).done = j.done ∧ ∀ t,(lkL (appS j { n with kind := 12 }).v.its t).isSome = true → t = n.txn ∨ (lkL j.v.its t).isSome = true) ∨
  ((planV j f n).rec_ = [comN n.txn n.stamp] ∧ (lkL j.v.its n.txn).isSome = true ∧ Once j k n (comN n.txn n.stamp) ∧ 0 < n.stamp ∧ (appS j (comN n.txn n.stamp)).done = putL j.done n.txn n.stamp ∧ ∀ t,(lkL (appS j (comN n.txn n.stamp)).v.its t).isSome = true → (lkL j.v.its t).isSome = true) ∨
  ((planV j f n).rec_ = [aboN n.txn] ∧ Once j k n (aboN n.txn) ∧ (appS j (aboN n.txn)).done = j.done ∧ ∀ t,(lkL (appS j (aboN n.txn)).v.its t).isSome = true → t ≠ n.txn ∧ (lkL j.v.its t).isSome = true) := by
 unfold planV
 cases hr : rightN n with
 | false => left;rfl
 | true =>
 rw [if_neg (by decide)]
 by_cases h3 : n.kind = 3
 ·rw [if_pos h3]
  by_cases hf : f = 0
  ·rw [if_pos hf]
   unfold prepV
   by_cases c1 : (lkL j.done n.txn).isSome = true ∨ checkV j.v.dim n.ops ≠ 0
   ·rw [if_pos c1];left;rfl
   rw [if_neg c1]
   simp only [not_or,Decidable.not_not] at c1
   by_cases c2 : (lkL j.v.its n.txn).isSome = true
   ·rw [if_pos c2];left;rfl
   rw [if_neg c2]
   cases c3 : takenV j.v n.ops with
   | true => left;rfl
   | false =>
    rw [if_neg (by decide)]
    right;left
    exact ⟨rfl,once_prep hj hr h3 (isSome_ne c1.1) c1.2 (isSome_ne c2) c3⟩
  ·rw [if_neg hf];left;rfl
 rw [if_neg h3]
 by_cases h5 : n.kind = 5
 ·rw [if_pos h5]
  unfold deciV
  by_cases c1 : n.code ≠ 0
  ·rw [if_pos c1]
   by_cases c2 : (lkL j.v.its n.txn).isSome = true ∧ f = 0
   ·rw [if_pos c2]
    right;right;right
    exact ⟨rfl,once_abort hj h0 c2.1⟩
   ·rw [if_neg c2];left;rfl
  rw [if_neg c1]
  cases hd : lkL j.done n.txn with
  | some s =>
   dsimp only
   by_cases c2 : s = n.stamp
   ·rw [if_pos c2];left;rfl
   ·rw [if_neg c2];left;rfl
  | none =>
   dsimp only
   cases hl : lkL j.v.its n.txn with
   | none => left;rfl
   | some i =>
    dsimp only
    by_cases c3 : max i.1 j.v.mark < n.stamp ∧ aboveV j.v n.stamp i.2 = true
    ·rw [if_pos c3]
     right;right;left
     exact ⟨rfl,rfl,once_commit hj hr hd hl c3.1 c3.2⟩
    ·rw [if_neg c3];left;rfl
 rw [if_neg h5]
 by_cases h7 : n.kind = 7
 ·rw [if_pos h7]
  cases hd : lkL j.done n.txn with
  | some s => left;rfl
  | none => left;rfl
 ·rw [if_neg h7];left;rfl
end Go.Proofs.YtiampehfpgcogaaGreatDoor
namespace Go.Proofs.YtiampehfpgcogaaGreatDoor
open Go Go.SX
attribute [local irreducible] swp opsS thenS blockS retS CallsS St Ent YieldS anyS drawS
def DJ (st : VS) : Prop := ∀ i ∈ st.its,∀ j ∈ st.its,i.1 ≠ j.1 → ∀ x ∈ i.2.2.map (·.1),x ∉ j.2.2.map (·.1)
theorem DJ.sub {st st' : VS} (h : DJ st) (hs : ∀ i ∈ st'.its,i ∈ st.its) : DJ st' := fun i hi j hj => h i (hs i hi) j (hs j hj)
end Go.Proofs.YtiampehfpgcogaaGreatDoor
namespace Go.Proofs.YtiampehfpgcogaaGreatDoor
open Go Go.SX
structure JOW (j : JS) (n : Nat) : Prop where
 w : WFK j.v n
 kp : keysOK j.parts
 kd : keysOK j.done
 p : ∀ t s,lkL j.done t = some s → 0 < s
 m : 0 ≤ j.v.mark
 ne : ∀ c ∈ j.v.ch,0 < c.2.length
 dj : DJ j.v
 pl : j.parts.length ≤ n
 dl : j.done.length ≤ n
theorem putL_len {κ α : Type} [DecidableEq κ] (m : List (κ × α)) (x : κ) (a : α) : (putL m x a).length ≤ m.length + 1 := by
 unfold putL
 split <;> simp
theorem delL_len {κ α : Type} [DecidableEq κ] (m : List (κ × α)) (x : κ) : (delL m x).length ≤ m.length := List.length_filter_le _ _
theorem DJ.lock {st : VS} (h : DJ st) (t a : Int) (ops : VL) : DJ (lockS st t a ops) := by
 unfold lockS
 split
 ·rename_i hE
  unfold lockE at hE
  by_cases h1 : 1099511627776 < a
  ·rw [if_pos h1] at hE;cases hE
  rw [if_neg h1] at hE
  by_cases h2 : checkV st.dim ops ≠ 0
  ·rw [if_pos h2] at hE;exact absurd hE h2
  rw [if_neg h2] at hE
  by_cases h3 : (lkL st.its t).isSome = true
  ·rw [if_pos h3] at hE;cases hE
  rw [if_neg h3] at hE
  have hfree : ∀ i ∈ st.its,∀ x ∈ ops.map (·.1),x ∉ i.2.2.map (·.1) := by
   intro i hi x hx hx2
   obtain ⟨w,hw,rfl⟩ := List.mem_map.1 hx
   obtain ⟨u,hu,hux⟩ := List.mem_map.1 hx2
   have : (ops.any fun o => st.its.any fun i => holdsV i.2.2 o.1) = true := List.any_eq_true.2 ⟨w,hw,List.any_eq_true.2 ⟨i,hi,List.any_eq_true.2 ⟨u,hu,decide_eq_true hux⟩⟩⟩
   rw [if_pos this] at hE
   cases hE
  intro i hi j hj hij x hx
  rcases List.mem_append.1 hi with hi | hi
  ·rcases List.mem_append.1 hj with hj | hj
   ·exact h i hi j hj hij x hx
   ·obtain rfl := List.mem_singleton.1 hj
    exact fun hx2 => hfree i hi x hx2 hx
  ·obtain rfl := List.mem_singleton.1 hi
   rcases List.mem_append.1 hj with hj | hj
   ·exact hfree j hj x hx
   ·obtain rfl := List.mem_singleton.1 hj
    exact absurd rfl hij
 ·exact h
end Go.Proofs.YtiampehfpgcogaaGreatDoor
namespace Go.Proofs.YtiampehfpgcogaaGreatDoor
open Go Go.SX
attribute [local irreducible] swp opsS thenS blockS retS CallsS St Ent YieldS anyS drawS
structure okN (M : Nat → Option Obj) (n : NV) : Prop where
 p : SlM M n.pa n.parts.length 1 (n.parts.map I64)
 o : SlM M n.oa n.ops.length 2 (n.ops.flatMap OV.cells) ∧ okR M n.ops
 v : SlM M n.va n.vec.length 1 (n.vec.map I32)
 h : SlM M n.ha n.hits.length 3 (n.hits.flatMap HV.cells)
 hv : ∀ h ∈ n.hits,SlM M h.a h.vec.length 1 (h.vec.map I32)
theorem okN.mono {M M' : Nat → Option Obj} {n : NV} (h : okN M n) (hl : leM M M') : okN M' n := ⟨h.p.mono hl,⟨h.o.1.mono hl,fun o ho => (h.o.2 o ho).mono hl⟩,h.v.mono hl,h.h.mono hl,fun x hx => (h.hv x hx).mono hl⟩
theorem okN.rd {M : Nat → Option Obj} {n : NV} (h : okN M n) {L : List HP} [HasM M L] : RdN L n := ⟨h.p.rd,⟨h.o.1.rd,fun o ho => (h.o.2 o ho).rd⟩,h.v.rd,h.h.rd,fun x hx => (h.hv x hx).rd⟩
def TabM (M : Nat → Option Obj) : Prop := SlM M (some ⟨0,0,none⟩) 46 1 sortsC
theorem TabM.mono {M M' : Nat → Option Obj} (h : TabM M) (hl : leM M M') : TabM M' := SlM.mono h hl
theorem TabM.rd {M : Nat → Option Obj} (h : TabM M) {L : List HP} [HasM M L] : RdC L 0 0 sortsC := by
 have h1 : RdS L (some ⟨0,0,none⟩) 46 1 sortsC := SlM.rd h
 rcases h1.2 with h2 | ⟨b,o,e,r⟩
 ·cases h2
 ·cases e;exact r
structure NumN (n : NV) : Prop where
 kind : 0 ≤ n.kind ∧ n.kind ≤ 255
 txn : 0 ≤ n.txn
 stamp : 0 ≤ n.stamp
 mark : 0 ≤ n.mark
 after : 0 ≤ n.after
abbrev NA.nv (r : NA) : NV := ⟨r.kind,r.txn,r.batch,r.stamp,r.after,r.mark,r.query,r.id,r.k,r.ef,r.code,r.who,none,0,[],none,0,[],none,0,[],none,0,[]⟩
theorem SlM.nil0 {M : Nat → Option Obj} {a : Option Addr} {sz : Nat} : SlM M a 0 sz [] := ⟨by simp,.inl rfl⟩
theorem okN.nv {M : Nat → Option Obj} (r : NA) : okN M r.nv := ⟨SlM.nil0,⟨SlM.nil0,fun o ho => by cases ho⟩,SlM.nil0,SlM.nil0,fun o ho => by cases ho⟩
theorem OkN.nv (r : NA) : OkN r.nv := ⟨Nat.zero_le _,Nat.zero_le _,(fun o ho => by cases ho),Nat.zero_le _,Nat.zero_le _,(fun o ho => by cases ho)⟩
structure PV where
 a : Option Addr
 c : Nat
 l : List Int
abbrev PV.val (v : PV) : Value := .slice v.a v.l.length v.c
structure JQ (M : Nat → Option Obj) (j : JS) (sf : Int) (ps : List (Int × PV)) : Prop where
 s1 : 1 ≤ sf
 s2 : sf ≤ 15
 pt : ps.map (fun u => (u.1,u.2.l)) = j.parts
 ok : ∀ u ∈ ps,SlM M u.2.a u.2.l.length 1 (u.2.l.map I64)
theorem JQ.mono {M M' : Nat → Option Obj} {j : JS} {self : Int} {ps : List (Int × PV)} (h : JQ M j self ps) (hl : leM M M') : JQ M' j self ps := ⟨h.s1,h.s2,h.pt,fun u hu => (h.ok u hu).mono hl⟩
structure JX where
 v : Nat
 mp : Nat
 md : Nat
 self : Int
 ps : List (Int × PV)
section
variable {n : Nat} {ops rest : List Oper} {cd : Code} {Q : Post} {f : Env} {L L0 : List HP} {M : Nat → Option Obj} {j : JS}
end
abbrev mailC (m : Int × NA) : List Value := Value.int .i64 m.1 :: m.2.nv.cells
abbrev IV.zero : IV := ⟨0,0,none,0,[]⟩
theorem okI.zero {M : Nat → Option Obj} : okI M IV.zero := ⟨SlM.nil0,fun o ho => by cases ho⟩
end Go.Proofs.YtiampehfpgcogaaGreatDoor
namespace Go.SX
open Go
section
variable {P : Program} {n : Nat} {ops : List Oper} {Q : Post} {f : Env} {A L : List HP} {cs : List Nat}
theorem A.three (i j m0 : Nat) {k : Nat} {listed : Array Bool} {held : Bool} {o o' o2 : Oper} (hr : Region.ready .any ops.toArray listed = [i,j,m0]) (hi : ops[i]? = some o) (hj : ops[j]? = some o') (h2 : ops[m0]? = some o2)
  (h : oneS P n ops o (fun f L => anyS P n ops Q cs A k (listed.setIfInBounds i true) held f L) f L)
  (h' : oneS P n ops o' (fun f L => anyS P n ops Q cs A k (listed.setIfInBounds j true) held f L) f L)
  (h'' : oneS P n ops o2 (fun f L => anyS P n ops Q cs A k (listed.setIfInBounds m0 true) held f L) f L) : anyS P n ops Q cs A (k + 1) listed held f L := by
 intro ok F a w s hsh t hh
 refine ⟨fun h0 => (by rw [h0] at hr;cases hr),fun m hm => ?_⟩
 have hri : i ∈ Region.ready .any ops.toArray listed := by rw [hr];simp
 have hrj : j ∈ Region.ready .any ops.toArray listed := by rw [hr];simp
 have hrm : m0 ∈ Region.ready .any ops.toArray listed := by rw [hr];simp
 rw [hr] at hm
 rcases (by simpa using hm : m = i ∨ m = j ∨ m = m0) with rfl | rfl | rfl
 ·cases held with
  | true => exact one_of (M' := A) hi ok s (by simpa using t) (hsh.set hri) (.inl ⟨rfl,rfl⟩) h
  | false => exact one_of (M' := []) hi ok s (by simpa using t) (hsh.set hri) (.inr ⟨rfl,rfl,hit_set (hh rfl)⟩) h
 ·cases held with
  | true => exact one_of (M' := A) hj ok s (by simpa using t) (hsh.set hrj) (.inl ⟨rfl,rfl⟩) h'
  | false => exact one_of (M' := []) hj ok s (by simpa using t) (hsh.set hrj) (.inr ⟨rfl,rfl,hit_set (hh rfl)⟩) h'
 ·cases held with
  | true => exact one_of (M' := A) h2 ok s (by simpa using t) (hsh.set hrm) (.inl ⟨rfl,rfl⟩) h''
  | false => exact one_of (M' := []) h2 ok s (by simpa using t) (hsh.set hrm) (.inr ⟨rfl,rfl,hit_set (hh rfl)⟩) h''
end
section
variable {P : Program} {n : Nat} {ops : List Oper} {Q : Post} {f : Env} {A L : List HP} {E cs σ : List Nat} {listed : Array Bool} {held : Bool}
theorem D.three (i j m : Nat) (σ1 σ2 σ3 : List Nat) {τ : List Nat} {o o' o2 : Oper} (hr : Region.ready .any ops.toArray listed = [i,j,m]) (hi : ops[i]? = some o) (hj : ops[j]? = some o') (hm : ops[m]? = some o2) (hl1 : σ1.length = τ.length) (hl2 : σ2.length = τ.length) (hl3 : σ3.length = τ.length)
  (ho1 : ordOK ops.toArray E cs σ1 (listed.setIfInBounds i true) = true) (ho2 : ordOK ops.toArray E cs σ2 (listed.setIfInBounds j true) = true) (ho3 : ordOK ops.toArray E cs σ3 (listed.setIfInBounds m true) = true)
  (h1 : opsS P n ops [o] (thenS (fun f L => drawS P n ops E cs A σ1 Q (listed.setIfInBounds i true) held f L) (fun _ _ _ => False)) f L)
  (h2 : opsS P n ops [o'] (thenS (fun f L => drawS P n ops E cs A σ2 Q (listed.setIfInBounds j true) held f L) (fun _ _ _ => False)) f L)
  (h3 : opsS P n ops [o2] (thenS (fun f L => drawS P n ops E cs A σ3 Q (listed.setIfInBounds m true) held f L) (fun _ _ _ => False)) f L) : drawS P n ops E cs A (99999 :: τ) Q listed held f L := by
 intro _ hs hQ
 exact _root_.Go.SX.A.three i j m hr hi hj hm (fun ok F a w s t => wpList_mono (h1 ok F a w s t) (by rintro e a w ⟨f,L,s,t,q⟩;cases e <;> first | exact ⟨f,L,s,t,hl1 ▸ q ho1 hs hQ⟩ | exact q.elim))
  (fun ok F a w s t => wpList_mono (h2 ok F a w s t) (by rintro e a w ⟨f,L,s,t,q⟩;cases e <;> first | exact ⟨f,L,s,t,hl2 ▸ q ho2 hs hQ⟩ | exact q.elim))
  (fun ok F a w s t => wpList_mono (h3 ok F a w s t) (by rintro e a w ⟨f,L,s,t,q⟩;cases e <;> first | exact ⟨f,L,s,t,hl3 ▸ q ho3 hs hQ⟩ | exact q.elim))
end
section
variable {P : Program} {n : Nat} {ops rest : List Oper} {Q : Post} {f : Env} {A L : List HP} {d : Tmp} {ty : TypeId} {pos : String} {af : Array Edge}
end
end Go.SX
namespace Go.Proofs.YtiampehfpgcogaaGreatDoor
open Go Go.SX
attribute [local irreducible] swp opsS thenS blockS retS CallsS St Ent YieldS anyS drawS
def liftN (n : NV) (r : NA) : NV := if r.kind = 12 then { n with kind := 12 } else r.nv
end Go.Proofs.YtiampehfpgcogaaGreatDoor
namespace Go.Proofs.YtiampehfpgcogaaGreatDoor
open Go Go.SX
attribute [local irreducible] swp opsS thenS blockS retS CallsS St Ent YieldS anyS drawS
theorem P_one (xs : List Int) : (xs.map I64).all (·.oneCell') = true := by simp [Value.oneCell']
theorem CloneP_spec (a : Option Addr) (c : Nat) (xs : List Int) (A : List HP) (h : RdS A a xs.length 1 (xs.map I64)) (hn : xs.length ≤ 1000000) :
  CallsS Tryz.prog 33 [.slice a xs.length c] A (fun v L' => ∃ a' c',v = .slice a' xs.length c' ∧ L' = slO 3 1 a' xs.length c' (xs.map I64) :: A) := by
 refine CallsS.of_body Tryz.func33 rfl rfl rfl ?_
 cases a with
 | none =>
  have hx : xs = [] := by
   rcases h.2 with h0 | ⟨_,_,h0,_⟩
   ·exact List.eq_nil_of_length_eq_zero h0
   ·cases h0
  subst hx
  refine Q.r ?_;(repeat (intro b1;refine Q.r ?_))
  exact N.r1 (RV.tmp rfl RV.nil) slO_nil ⟨none,0,rfl,rfl⟩
 | some ad =>
  refine Q.r ?_;(repeat (intro b1;refine Q.r ?_))
  refine opsS_ent (slO_fold (sz := 1) (m := 0) rfl) ?_
  refine S.app0 rfl rfl rfl (SrcS.rd h.sub (P_one _)) (by rfl) (by omega) (by omega) (fun a5 c5 => ?_)
  refine Q.r ?_;(repeat (intro b1;refine Q.r ?_))
  exact N.r1 (RV.tmp rfl RV.nil) (Ent.refl _) ⟨a5,c5,rfl,rfl⟩
theorem putL_map {κ α β : Type} [DecidableEq κ] (f : α → β) (m : List (κ × α)) (x : κ) (a : α) : (putL m x a).map (fun u => (u.1,f u.2)) = putL (m.map fun u => (u.1,f u.2)) x (f a) := by
 unfold putL
 rw [List.any_map]
 have : ((fun p : κ × β => decide (p.1 = x)) ∘ fun u : κ × α => (u.1,f u.2)) = fun p => decide (p.1 = x) := rfl
 rw [this]
 cases m.any fun p => decide (p.1 = x) with
 | true =>
  simp only [if_true,List.map_map]
  refine List.map_congr_left fun u _ => ?_
  show (_ : κ × β) = if u.1 = x then (x,f a) else (u.1,f u.2)
  by_cases h : u.1 = x
  ·simp [h]
  ·simp [h]
 | false => simp
theorem delL_map {κ α β : Type} [DecidableEq κ] (f : α → β) (m : List (κ × α)) (x : κ) : (delL m x).map (fun u => (u.1,f u.2)) = delL (m.map fun u => (u.1,f u.2)) x := by
 unfold delL
 rw [List.filter_map];rfl
theorem JQ.put {M : Nat → Option Obj} {j j' : JS} {sf : Int} {ps : List (Int × PV)} (h : JQ M j sf ps) {t : Int} {v : PV} (hv : SlM M v.a v.l.length 1 (v.l.map I64)) (hj : j'.parts = putL j.parts t v.l) : JQ M j' sf (putL ps t v) := by
 refine ⟨h.s1,h.s2,by rw [hj,← h.pt,putL_map (fun v : PV => v.l)],fun u hu => ?_⟩
 unfold putL at hu
 split at hu
 ·obtain ⟨w,hw,rfl⟩ := List.mem_map.1 hu
  split
  ·exact hv
  ·exact h.ok w hw
 ·rcases List.mem_append.1 hu with hu | hu
  ·exact h.ok u hu
  ·rw [List.mem_singleton.1 hu];exact hv
theorem JQ.same {M : Nat → Option Obj} {j j' : JS} {sf : Int} {ps : List (Int × PV)} (h : JQ M j sf ps) (hj : j'.parts = j.parts) : JQ M j' sf ps := ⟨h.s1,h.s2,by rw [hj,h.pt],h.ok⟩
abbrev J0 (dim : Int) : JS := ⟨⟨dim,[],[],0⟩,[],[]⟩
theorem J0.ok {dim : Int} (h1 : 1 ≤ dim) (h2 : dim ≤ 8) : JOK (J0 dim) 0 :=
 ⟨⟨⟨h1,h2,Nat.le_refl _,(fun i hi => by cases hi),Nat.le_refl _,(fun c hc => by cases hc)⟩,by simp [keysOK],by simp [keysOK]⟩,by simp [keysOK],by simp [keysOK],(fun t s h => by cases h),(fun t s h => by cases h),Int.le_refl _,(fun c hc => by cases hc)⟩
section
variable {n : Nat} {ops rest : List Oper} {cd : Code} {Q : Post} {f : Env} {L L0 : List HP} {M : Nat → Option Obj} {j : JS}
end
abbrev exA : NA := { NA.zero with kind := 3,txn := 7,ops := [(1,[5])] }
abbrev J1 : JS := ⟨⟨1,[],[(7,0,[(1,[5])])],0⟩,[(7,[])],[]⟩
abbrev J2 : JS := ⟨⟨1,[(1,[(5,[5])])],[],0⟩,[],[(7,5)]⟩
theorem ex1 : planV (J0 1) 0 exA = ⟨[{ exA with kind := 12 }],[voteN 7 0],[voteN 7 8]⟩ := by kernel_rfl
theorem ex2 : appS (J0 1) { exA with kind := 12 } = J1 := by kernel_rfl
theorem ex3 : planV J1 0 { NA.zero with kind := 5,txn := 7,stamp := 5 } = ⟨[comN 7 5],[ackN 7],[]⟩ := by kernel_rfl
theorem ex4 : appS J1 (comN 7 5) = J2 := by kernel_rfl
theorem J1.ok : JOK J1 1 := by
 have h := plan_cases (J0.ok (dim := 1) (by decide) (by decide)) (n := exA) (by decide) 0
 rw [ex1] at h
 rcases h with h | h | h | h
 ·cases h
 ·have := h.2.1.ok
  rw [ex2] at this;exact this
 ·simp at h
 ·simp at h
theorem J2.ok : JOK J2 2 := by
 have h := plan_cases J1.ok (n := { NA.zero with kind := 5,txn := 7,stamp := 5 }) (by decide) 0
 rw [ex3] at h
 rcases h with h | h | h | h
 ·cases h
 ·simp at h
 ·have := h.2.2.1.ok
  rw [ex4] at this;exact this
 ·simp at h
abbrev HV.ov (h : HV) : OV := ⟨h.id,h.a,h.c,h.vec⟩
def fewH (k : Nat) (l : List (Int × Int × List Int)) : List (Int × Int × List Int) := (l.take k).map fun h => (h.1,h.2.1,h.2.2.take 8)
theorem fewH_all {n : Nat} {l : List (Int × Int × List Int)} (h : l.length ≤ n) : fewH n l = l.map fun h => (h.1,h.2.1,h.2.2.take 8) := by unfold fewH;rw [List.take_of_length_le h]
set_option maxHeartbeats 1000000 in
theorem HitsA_spec (n : Nat) (a : Option Addr) (c : Nat) (ops : List HV) (A : List HP) (h : RdS A a ops.length 3 (ops.flatMap HV.cells)) (hv : ∀ o ∈ ops,RdS A o.a o.vec.length 1 (o.vec.map I32)) (hc : ∀ o ∈ ops,o.vec.length ≤ o.c) (hn : ops.length ≤ 9223372036854775807) (hnn : n ≤ 1000000) :
  CallsS Tryz.prog 42 [.slice a ops.length c,.int .i64 n] A (fun v L' => ∃ (a' : Option Addr) (c' : Nat) (us : List HV),us.map HV.abs = fewH n (ops.map HV.abs) ∧ (∀ o ∈ us,o.vec.length = 0 ∨ ∃ b,o.a = some ⟨b,0,none⟩) ∧ v = .slice a' us.length c' ∧ L' = slO 111 3 a' us.length c' (us.flatMap HV.cells) :: vecsH (us.map HV.ov) :: A) := by
 refine CallsS.of_body Tryz.func42 rfl rfl rfl ?_
 refine Q.r ?_;(repeat (intro b1;refine Q.r ?_))
 refine swp_loop (σ := Nat × Option Addr × Nat × List HV) (fun s => [(1,.int .i64 n),(8,.slice a ops.length c),(9,.int .i64 ops.length),(5,.slice s.2.1 s.2.2.2.length s.2.2.1),(10,.int .i64 s.1)])
  (fun s => slO 111 3 s.2.1 s.2.2.2.length s.2.2.1 (s.2.2.2.flatMap HV.cells) :: vecsH (s.2.2.2.map HV.ov) :: A)
  (fun s => s.1 ≤ ops.length ∧ s.2.2.2.map HV.abs = fewH n ((ops.take s.1).map HV.abs) ∧ ∀ o ∈ s.2.2.2,o.vec.length = 0 ∨ ∃ b,o.a = some ⟨b,0,none⟩) (fun s => ops.length - s.1) (0,none,0,[]) ⟨rfl,rfl,rfl,rfl,rfl,trivial⟩ ?_ ⟨by omega,by simp [fewH],by simp⟩ ?_
 ·exact Ent.trans (Ent.trans bodV_nil slO_nil) (Ent.refl _)
 rintro ⟨k,a3,c3,us⟩ ⟨hk,hus,hua⟩
 dsimp only at hk hus hua ⊢
 have hul : us.length = min n k := by
  have := congrArg List.length hus
  simp [fewH] at this;omega
 by_cases hlt : k < ops.length
 ·obtain ⟨o,ho⟩ := mem_get hlt
  have hmo : o ∈ ops := List.mem_of_getElem? ho
  obtain ⟨b,oo,hia,hr⟩ := RdS.elem (g := HV.cells) (fun _ => rfl) h ho rfl
  rw [hia]
  repeat (first | (refine GQ.y ?_;refine Q.y ?_) | refine Q.go ?_ | (refine GQ.g ?_;refine Q.gq ?_) | (refine GQ.s ?_;refine Q.st ?_) | (refine GQ.a ?_;refine Q.al (fun b1 => ?_)))
  by_cases hkn : k < n
  ·refine Q.r ?_;(repeat (intro b1;refine Q.r ?_))
   refine Q.dgo [true,false,false] [7,9,10] [] [0,1,2,3,4,5,6,7,8,9,10,11] ?_
   refine Q.rd ?_;(repeat (intro b1;refine Q.rd ?_))
   refine D.e rfl rfl rfl ?_
   refine S.cr rfl (CutVec_spec o.a o.c 8 o.vec _ ((hv o hmo).sub) (hc o hmo) (by omega)) ?_
   rintro _ _ ⟨a',c',rfl,rfl⟩
   refine opsS_addr a' (fun ha' => ?_)
   refine Q.r ?_;(repeat (intro b1;refine Q.r ?_))
   refine Q.rd ?_;(repeat (intro b1;refine Q.rd ?_))
   refine D.e rfl rfl rfl ?_
   refine S.app rfl rfl (SrcS.sl RdC.row (by rfl) (by rfl)) (by rfl) (by omega) (by omega) (fun a4 c4 => ?_)
   refine Q.r ?_;(repeat (intro b1;refine Q.r ?_))
   refine Q.rd ?_;(repeat (intro b1;refine Q.rd ?_))
   refine Q.r ?_;(repeat (intro b1;refine Q.r ?_))
   refine ⟨(k + 1,a4,c4,us ++ [⟨o.id,o.dist,a',c',o.vec.take 8⟩]),⟨rfl,rfl,rfl,congrArg some (by simp),rfl,trivial⟩,?_,⟨by dsimp only;omega,?_,?_⟩,by dsimp only;omega⟩
   ·dsimp only
    rw [len_snoc,flat_snoc,List.map_append]
    refine Ent.pick (Ent.trans ?_ (vecs_snoc (o := ⟨o.id,a',c',o.vec.take 8⟩) rfl))
    exact Go.SX.Ent.go
   ·dsimp only
    rw [List.map_append,hus,fewH_all (l := (ops.take k).map HV.abs) (by simp;omega),fewH_all (l := (ops.take (k + 1)).map HV.abs) (by simp;omega),take_snoc ho,List.map_append,List.map_append];rfl
   ·intro u hu
    rcases List.mem_append.1 hu with hu | hu
    ·exact hua u hu
    ·obtain rfl := List.mem_singleton.1 hu
     exact ha'
  ·refine Q.r ?_;(repeat (intro b1;refine Q.r ?_))
   refine ⟨(k + 1,a3,c3,us),⟨rfl,rfl,rfl,rfl,rfl,trivial⟩,by exact Go.SX.Ent.go,⟨by dsimp only;omega,?_,hua⟩,by dsimp only;omega⟩
   dsimp only
   rw [hus]
   unfold fewH
   rw [← List.map_take,← List.map_take,List.take_take,List.take_take,show min n k = min n (k + 1) by omega]
 ·have hke : k = ops.length := by omega
  subst hke
  rw [List.take_length] at hus
  refine Q.r ?_;(repeat (intro b1;refine Q.r ?_))
  exact N.r1 (RV.tmp rfl RV.nil) (by exact Go.SX.Ent.go) ⟨a3,c3,us,hus,hua,rfl,rfl⟩
theorem opsS_absC (us : List OV) {n : Nat} {ops rest : List Oper} {Q : Post} {f : Env} {L L0 L1 : List HP} {M : Nat → Option Obj} [h : Pick (vecsH us) L L0] [h1 : PickM L0 M L1] (hk : ∀ M',leM M M' → okR M' us → (∀ o ∈ us,o.vec.length ≤ o.c) → opsS Tryz.prog n ops rest Q f (roM M' :: L1)) : opsS Tryz.prog n ops rest Q f L :=
 opsS_ent (h.ent.trans (vecs_abs2 us)) (opsS_ex fun M' => opsS_all (opsS_pure fun hh => hk M' hh.1 hh.2.1 hh.2.2))
def NA.few (n : NA) : NA := { n with parts := n.parts.take 6,ops := fewV 18 n.ops,vec := n.vec.take 10,hits := fewH 18 n.hits }
structure CapN (n : NV) : Prop where
 p : n.parts.length ≤ n.pc
 ov : ∀ o ∈ n.ops,o.vec.length ≤ o.c
 v : n.vec.length ≤ n.vc
 hv : ∀ h ∈ n.hits,h.vec.length ≤ h.c
 p2 : n.parts.length ≤ 9223372036854775807
 o2 : n.ops.length ≤ 9223372036854775807
 v2 : n.vec.length ≤ 9223372036854775807
 h2 : n.hits.length ≤ 9223372036854775807
theorem few_OkN {n' : NV} {n : NA} (h : n'.abs = n.few) : OkN n' := by
 have hp : n'.parts = n.parts.take 6 := congrArg NA.parts h
 have ho : n'.ops.map OV.abs = fewV 18 n.ops := congrArg NA.ops h
 have hv : n'.vec = n.vec.take 10 := congrArg NA.vec h
 have hh : n'.hits.map HV.abs = fewH 18 n.hits := congrArg NA.hits h
 refine ⟨by rw [hp,List.length_take];omega,?_,fun o ho' => ?_,by rw [hv,List.length_take];omega,?_,fun o ho' => ?_⟩
 ·have := congrArg List.length ho
  simp [fewV] at this;omega
 ·have := List.mem_map_of_mem (f := OV.abs) ho'
  rw [ho] at this
  obtain ⟨u,_,hu⟩ := List.mem_map.1 this
  have := congrArg (fun z : Int × List Int => z.2.length) hu
  simp at this;omega
 ·have := congrArg List.length hh
  simp [fewH] at this;omega
 ·have := List.mem_map_of_mem (f := HV.abs) ho'
  rw [hh] at this
  obtain ⟨u,_,hu⟩ := List.mem_map.1 this
  have := congrArg (fun z : Int × Int × List Int => z.2.2.length) hu
  simp at this;omega
set_option maxHeartbeats 1000000 in
theorem NFew_spec (n : NV) (M : Nat → Option Obj) (L : List HP) (hn : okN M n) (hc : CapN n) :
  CallsS Tryz.prog 14 [n.val] (roM M :: L) (fun r L' => ∃ (n' : NV) (M' : Nat → Option Obj),r = n'.val ∧ leM M M' ∧ okN M' n' ∧ CapN n' ∧ n'.ops.length ≤ n'.oc ∧ n'.abs = n.abs.few ∧ L' = roM M' :: L) := by
 have hc1 := hc.p
 have hc2 := hc.p2
 refine CallsS.of_body Tryz.func14 rfl rfl rfl ?_
 have hl : (n.parts.take 6).length = min 6 n.parts.length := List.length_take ..
 refine Q.r ?_;(repeat (intro b1;refine Q.r ?_))
 refine opsS_ent (slO_fold (sz := 1) (m := 0) rfl) ?_
 refine Q.r ?_;(repeat (intro b1;refine Q.r ?_))
 have hrM : SlM M n.pa (n.parts.take 6).length 1 ((n.parts.take 6).map I64) := by
  have := hn.p.take (k := min 6 n.parts.length) (by omega)
  rw [hl]
  rw [Nat.mul_one,← List.map_take] at this
  rwa [← List.take_eq_take_min] at this
 refine S.y (Y.slT (h := (n.parts.take 6).length) rfl rfl (by rw [hl];omega) (by omega)) ?_
 refine S.app0 rfl rfl rfl (SrcS.rd hrM.rd (P_one _)) (by rfl) (by omega) (by omega) (fun a5 c5 => ?_)
 refine opsS_cap a5 (fun hc5 => ?_)
 refine opsS_abs a5 (fun M1 hl1 hs1 => ?_)
 refine Q.r ?_;(repeat (intro b1;refine Q.r ?_))
 refine Q.dgo [false,false,true] [2,5,8,10,12,14] [10] [0,1,3,4,6,7,2,9,5,8,10,11,12,13,14] ?_
 refine Q.rd ?_;(repeat (intro b1;refine Q.rd ?_))
 refine D.e rfl rfl rfl ?_
 refine S.cr rfl (FewA_spec 18 n.oa n.oc n.ops _ (hn.mono hl1).rd.o hc.ov hc.o2 (by omega)) ?_
 rintro _ _ ⟨a6,c6,us,hus,_,rfl,rfl⟩
 refine opsS_cap a6 (fun hc6 => ?_)
 refine opsS_abs a6 (fun M2 hl2 hs2 => ?_)
 refine opsS_absC us (fun M3 hl3 hs3 hc3 => ?_)
 refine Q.r ?_;(repeat (intro b1;refine Q.r ?_))
 refine Q.rd ?_;(repeat (intro b1;refine Q.rd ?_))
 refine D.e rfl rfl rfl ?_
 refine S.cr rfl (HitsA_spec 18 n.ha n.hc n.hits _ (hn.mono (hl1.trans (hl2.trans hl3))).rd.h (hn.mono (hl1.trans (hl2.trans hl3))).rd.hv hc.hv hc.h2 (by omega)) ?_
 rintro _ _ ⟨a7,c7,hs,hhs,_,rfl,rfl⟩
 refine opsS_abs a7 (fun M4 hl4 hs4 => ?_)
 refine opsS_absC (hs.map HV.ov) (fun M5 hl5 hs5 hc5' => ?_)
 refine Q.r ?_;(repeat (intro b1;refine Q.r ?_))
 refine Q.rd ?_;(repeat (intro b1;refine Q.rd ?_))
 refine D.e rfl rfl rfl ?_
 refine S.cr rfl (CutVec_spec n.va n.vc 10 n.vec _ (hn.mono (hl1.trans (hl2.trans (hl3.trans (hl4.trans hl5))))).rd.v hc.v (by omega)) ?_
 rintro _ _ ⟨a8,c8,rfl,rfl⟩
 refine opsS_cap a8 (fun hc8 => ?_)
 refine opsS_abs a8 (fun M6 hl6 hs6 => ?_)
 refine Q.r ?_;(repeat (intro b1;refine Q.r ?_))
 refine Q.rd ?_;(repeat (intro b1;refine Q.rd ?_))
 refine Q.dc rfl rfl rfl rfl ?_
 refine Q.r ?_;(repeat (intro b1;refine Q.r ?_))
 refine Q.rd ?_;(repeat (intro b1;refine Q.rd ?_))
 refine Q.r ?_;(repeat (intro b1;refine Q.r ?_))
 have hm6 : leM M M6 := hl1.trans (hl2.trans (hl3.trans (hl4.trans (hl5.trans hl6))))
 refine N.r1 (by apply RV.cellN;rfl;exact RdC.row;rfl;exact RV.nil) ?_ ⟨⟨n.kind,n.txn,n.batch,n.stamp,n.after,n.mark,n.query,n.id,n.k,n.ef,n.code,n.who,a5,c5,n.parts.take 6,a6,c6,us,a8,c8,n.vec.take 10,a7,c7,hs⟩,M6,rfl,hm6,?_,?_,hc6,?_,rfl⟩
 ·exact Go.SX.Ent.go
 ·exact ⟨hs1.mono (hl2.trans (hl3.trans (hl4.trans (hl5.trans hl6)))),⟨hs2.mono (hl3.trans (hl4.trans (hl5.trans hl6))),fun o ho => (hs3 o ho).mono (hl4.trans (hl5.trans hl6))⟩,hs6,hs4.mono (hl5.trans hl6),fun h hh => (hs5 h.ov (List.mem_map_of_mem (f := HV.ov) hh)).mono hl6⟩
 ·have ho := congrArg List.length hus
  have hh := congrArg List.length hhs
  simp [fewV,fewH] at ho hh
  exact ⟨hc5,hc3,hc8,fun h hh => hc5' h.ov (List.mem_map_of_mem (f := HV.ov) hh),by dsimp only;rw [List.length_take];omega,by dsimp only;omega,by dsimp only;rw [List.length_take];omega,by dsimp only;omega⟩
 ·simp only [NV.abs,NA.few,hus,hhs]
end Go.Proofs.YtiampehfpgcogaaGreatDoor
