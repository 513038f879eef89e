/- The document's notes: fields by letters, Right, apart from any program. The juror's laws, apart from the program: votes, what comes twice. The document's notes: Name, has, num, vec, Right. The ref's juror: as it lies; Find. The document's notes and mail: are they alike? Calls whose contracts want two or three of the list's assertions in front. The ref's juror: Do. The ref's juror: Apply. Plans as the document has them; lists of notes, alike. JurorOnce: the walk. The juror's step, with the document's. JurorLocks: the walk. JurorVotes: the walk. The juror's Pack: what lasts, as bytes; keys, finished. The juror's numbers aren't too great, whatever comes. The juror's Pack, walked. JurorAgain: the walk. Readings opened: from what the arguments read as to cells that stay; rows. The readings of the vault's ops. The readings of the vault's steps. The readings of the juror's notes; the table of the kinds. The table of the kinds: from what the row lists to its cells. The judge: what it is, as it lies; its small functions. What follows behind a call, by what lies there. No condition. -/
import Derived.ReadAgain
import Derived.ChangeArms
import Derived.WideShapes
import Derived.KernelRfl
import Derived.Test.YtiampehfpgcogaaGreatDoorRows
import Derived.WalkKit
import Derived.ProofKit
import Derived.OpenShut
import Derived.DataShut
import Derived.Test.YtiampehfpgcogaaGreatDoorCards
import Derived.Test.YtiampehfpgcogaaGreatDoorTie
import Derived.Deep.DeepHandedRow
import Derived.Lib.LaidTab
import Derived.Test.YtiampehfpgcogaaGreatDoorPk04
set_option linter.unusedVariables false
set_option linter.unusedSimpArgs false
set_option linter.unusedSectionVars false
namespace Go.Proofs.YtiampehfpgcogaaGreatDoor
open Go Go.SX
def lettT : List (List UInt8) := [[],[98,111],[98,115,99],[116,97,112,111],[116,99],[116,115,99],[116],[116],[113,105,107,101,118],[115,109,113,105,107,101,118],[113,99,104],[115,113,99,104],[116,97,112,111],[116,115],[116],[109],[109],[116,98,115,112],[116],[116,98,97,119,112,111],[116,119],[116,119],[116]]
def lett (k : Nat) : List UInt8 := (lettT[k]?).getD []
def hasL (k : Nat) (f : UInt8) : Bool := (lett k).any fun x => decide (x = f)
def abc : List UInt8 := [116,98,115,97,109,113,105,107,101,99,119,112,111,118,104]
set_option maxRecDepth 100000 in
theorem hasL_bit (k i : Nat) (hi : i < 15) : (fldN k).testBit i = hasL k (abc.getD i 0) := by
 by_cases h : k < 23
 ·exact (by decide : ∀ k,k < 23 → ∀ i,i < 15 → (fldN k).testBit i = hasL k (abc.getD i 0)) k h i hi
 ·have h1 : lett k = [] := by
   unfold lett
   rw [List.getElem?_eq_none (by show 23 ≤ k;omega)];rfl
  have h2 : fldN k = 0 := by
   unfold fldN
   split <;> first | omega | rfl
  rw [h2]
  unfold hasL
  rw [h1];simp
def numV (k : Nat) (f : UInt8) (n most : Int) : Bool := decide (n ≤ most) && (decide (n = 0) || hasL k f)
def okNA (k : Nat) (n : NA) : Bool :=
 numV k 116 n.txn 18446744073709551615 && numV k 98 n.batch 18446744073709551615 && numV k 115 n.stamp 1099511627776 && numV k 97 n.after 1099511627776 && numV k 109 n.mark 1099511627776 && numV k 113 n.query 18446744073709551615 && numV k 105 n.id 1099511627776 && numV k 107 n.k 16 && numV k 101 n.ef 256 && numV k 99 n.code 13 && numV k 119 n.who 15
def okNB (k : Nat) (n : NA) : Bool :=
 numV k 112 n.parts.length 4 && numV k 111 n.ops.length 16 && numV k 118 n.vec.length 8 && numV k 104 n.hits.length 16 && bareV n.vec
structure NumA (n : NA) : Prop where
 kind : 0 ≤ n.kind ∧ n.kind ≤ 255
 txn : 0 ≤ n.txn ∧ n.txn ≤ 18446744073709551615
 batch : 0 ≤ n.batch ∧ n.batch ≤ 18446744073709551615
 stamp : 0 ≤ n.stamp ∧ n.stamp ≤ 18446744073709551615
 after : 0 ≤ n.after ∧ n.after ≤ 18446744073709551615
 mark : 0 ≤ n.mark ∧ n.mark ≤ 18446744073709551615
 query : 0 ≤ n.query ∧ n.query ≤ 18446744073709551615
 id : 0 ≤ n.id ∧ n.id ≤ 18446744073709551615
 k : n.k ≤ 9223372036854775807
 ef : n.ef ≤ 9223372036854775807
 code : n.code ≤ 9223372036854775807
 who : n.who ≤ 9223372036854775807
theorem num_bit {k : Nat} {f : UInt8} {n most : Int} (h : 0 ≤ n) : numV k f n most = true ↔ n ≤ most ∧ ((!decide (0 < n)) || hasL k f) = true := by
 unfold numV
 rw [Bool.and_eq_true,decide_eq_true_iff]
 have : decide (n = 0) = !decide (0 < n) := by
  by_cases h0 : n = 0
  ·subst h0;rfl
  ·rw [decide_eq_false h0,decide_eq_true (by omega : 0 < n)];rfl
 rw [this]
theorem num_ne {k : Nat} {f : UInt8} {n most : Int} : numV k f n most = true ↔ n ≤ most ∧ ((!(!decide (n = 0))) || hasL k f) = true := by
 unfold numV
 rw [Bool.and_eq_true,decide_eq_true_iff,Bool.not_not]
theorem bare_le {v : List Int} (h : bareV v = true) : (v.length : Int) ≤ 8 := by
 by_cases h0 : v.length = 0
 ·omega
 ·unfold bareV rightV at h
  rw [decide_eq_false h0] at h
  simp only [Bool.false_or,Bool.and_eq_true,decide_eq_true_eq] at h
  omega
theorem right_ref {n : NA} (u : NumA n) : rightN n = (decide (1 ≤ n.kind ∧ n.kind ≤ 22) && !(decide (n.k < 0) || decide (n.ef < 0) || decide (n.code < 0) || decide (n.who < 0)) && (okNA n.kind.toNat n && (okNB n.kind.toNat n && (partsV n.parts && (!(n.ops.any badOp) && !(n.hits.any badHit)))))) := by
 rw [Bool.eq_iff_iff]
 have hb : ∀ i,i < 15 → (fldN n.kind.toNat).testBit i = hasL n.kind.toNat (abc.getD i 0) := fun i hi => hasL_bit _ i hi
 unfold rightN boundN okNA okNB
 simp only [NA.bits,List.zipIdx_cons,List.zipIdx_nil,List.all_cons,List.all_nil,Nat.zero_add,Nat.reduceAdd,hb 0 (by decide),hb 1 (by decide),hb 2 (by decide),hb 3 (by decide),hb 4 (by decide),hb 5 (by decide),hb 6 (by decide),hb 7 (by decide),hb 8 (by decide),hb 9 (by decide),hb 10 (by decide),hb 11 (by decide),hb 12 (by decide),hb 13 (by decide),hb 14 (by decide)]
 have e : ∀ i x,abc.getD i 0 = x → abc.getD i 0 = x := fun _ _ h => h
 simp only [show abc.getD 0 0 = 116 from rfl,show abc.getD 1 0 = 98 from rfl,show abc.getD 2 0 = 115 from rfl,show abc.getD 3 0 = 97 from rfl,show abc.getD 4 0 = 109 from rfl,show abc.getD 5 0 = 113 from rfl,show abc.getD 6 0 = 105 from rfl,show abc.getD 7 0 = 107 from rfl,show abc.getD 8 0 = 101 from rfl,show abc.getD 9 0 = 99 from rfl,show abc.getD 10 0 = 119 from rfl,show abc.getD 11 0 = 112 from rfl,show abc.getD 12 0 = 111 from rfl,show abc.getD 13 0 = 118 from rfl,show abc.getD 14 0 = 104 from rfl]
 simp only [Bool.and_eq_true,num_bit u.txn.1,num_bit u.batch.1,num_bit u.stamp.1,num_bit u.after.1,num_bit u.mark.1,num_bit u.query.1,num_bit u.id.1,num_bit (Int.natCast_nonneg n.parts.length),num_bit (Int.natCast_nonneg n.ops.length),num_bit (Int.natCast_nonneg n.vec.length),num_bit (Int.natCast_nonneg n.hits.length)]
 rw [num_ne,num_ne,num_ne,num_ne]
 have u1 := u.txn
 have u2 := u.batch
 have u3 := u.query
 have u4 := u.stamp
 simp only [Bool.not_eq_true',Bool.or_eq_false_iff,decide_eq_true_iff,decide_eq_false_iff_not,Bool.not_eq_false',and_assoc,and_true]
 constructor
 ·rintro ⟨k1,k2,h0,h1,h2,h3,h4,h5,h6,h7,h8,h9,h10,h11,h12,h13,h14,b1,b2,b3,b4,b5,b6,b7,q1,q2,q3,q4,q5,q6,q7⟩
  have hb8 := bare_le q4
  repeat' apply And.intro
  all_goals first | assumption | omega
 ·rintro ⟨k1,k2,c1,c2,c3,c4,a0,h0,a1,h1,a2,h2,a3,h3,a4,h4,a5,h5,a6,h6,a7,h7,a8,h8,a9,h9,a10,h10,a11,h11,a12,h12,a13,h13,a14,h14,q4,q5,q6,q7⟩
  repeat' apply And.intro
  all_goals first | assumption | omega
theorem fewV_few (l : VL) : fewV 18 (fewV 18 l) = fewV 18 l := by
 unfold fewV
 rw [← List.map_take,List.take_take,List.map_map,Nat.min_self]
 refine List.map_congr_left fun o _ => ?_
 simp [List.take_take]
theorem fewH_few (l : List (Int × Int × List Int)) : fewH 18 (fewH 18 l) = fewH 18 l := by
 unfold fewH
 rw [← List.map_take,List.take_take,List.map_map,Nat.min_self]
 refine List.map_congr_left fun o _ => ?_
 simp [List.take_take]
theorem few_few (n : NA) : n.few.few = n.few := by
 unfold NA.few
 simp only [fewV_few,fewH_few,List.take_take,Nat.min_self]
def stepS (j : JS) (f : Int) (n : NA) (w raw : Bool) : JS := if raw then appS j n else if w then (planV j f n).rec_.foldl appS j else j
end Go.Proofs.YtiampehfpgcogaaGreatDoor
namespace Go.SX
open Go
theorem Y.slen0 {P : Program} {n : Nat} {ops : List Oper} {f : Env} {A : List HP} {d : Tmp} {ty : TypeId} {pos : String} {af : Array Edge} {x : Operand} {t : TypeId} {s0 : ByteArray} [h : StrTy P t] (hx : ev f x = some (.string s0)) :
  YieldS P n ops ⟨some d,.call ⟨.builtin .len,#[x],#[t]⟩,ty,pos,af,none⟩ f A (.int .i64 s0.size) :=
 Y.of fun a w s => by simp [execOp,resolve,invoke,s.eval hx,builtin,Builtin.len_,h.und,goInt]
theorem Y.slen {P : Program} {n : Nat} {ops : List Oper} {f : Env} {A : List HP} {d : Tmp} {ty : TypeId} {pos : String} {af : Array Edge} {x : Operand} {t : TypeId} {l : List UInt8} [h : StrTy P t] (hx : ev f x = some (str l)) :
  YieldS P n ops ⟨some d,.call ⟨.builtin .len,#[x],#[t]⟩,ty,pos,af,none⟩ f A (.int .i64 l.length) := Y.slen0 hx
theorem bget {l : List UInt8} {i : Nat} {b : UInt8} (h : l[i]? = some b) : (⟨l.toArray⟩ : ByteArray)[i]? = some b := by
 have hl : i < l.length := (List.getElem?_eq_some_iff.1 h).1
 have hb : l[i] = b := (List.getElem?_eq_some_iff.1 h).2
 have hs : i < (⟨l.toArray⟩ : ByteArray).size := by simpa [ByteArray.size] using hl
 rw [getElem?_pos _ i hs]
 exact congrArg some hb
end Go.SX
namespace Go.Proofs.YtiampehfpgcogaaGreatDoor
open Go Go.SX
attribute [local irreducible] swp opsS thenS blockS retS CallsS St Ent YieldS anyS drawS
set_option maxHeartbeats 2000000 in
theorem Name_spec (k : Nat) (A : List HP) (hk : k ≤ 255) : CallsS Tryz.prog 48 [.int .u8 (k : Int)] A (fun r L' => r = .tuple #[str (sortT k).1,str (lett k)] ∧ L' = A) := by
 refine CallsS.of_body Tryz.func48 rfl rfl rfl ?_
 by_cases h0 : k = 0
 ·subst h0
  refine Q.r ?_;(repeat (intro b1;refine Q.r ?_))
  exact N.r2 (RV.tmp rfl (RV.tmp rfl RV.nil)) (Ent.refl _) ⟨rfl,rfl⟩
 by_cases h1 : k = 1
 ·subst h1
  refine Q.r ?_;(repeat (intro b1;refine Q.r ?_))
  exact N.r2 (RV.tmp rfl (RV.tmp rfl RV.nil)) (Ent.refl _) ⟨rfl,rfl⟩
 by_cases h2 : k = 2
 ·subst h2
  refine Q.r ?_;(repeat (intro b1;refine Q.r ?_))
  exact N.r2 (RV.tmp rfl (RV.tmp rfl RV.nil)) (Ent.refl _) ⟨rfl,rfl⟩
 by_cases h3 : k = 3
 ·subst h3
  refine Q.r ?_;(repeat (intro b1;refine Q.r ?_))
  exact N.r2 (RV.tmp rfl (RV.tmp rfl RV.nil)) (Ent.refl _) ⟨rfl,rfl⟩
 by_cases h4 : k = 4
 ·subst h4
  refine Q.r ?_;(repeat (intro b1;refine Q.r ?_))
  exact N.r2 (RV.tmp rfl (RV.tmp rfl RV.nil)) (Ent.refl _) ⟨rfl,rfl⟩
 by_cases h5 : k = 5
 ·subst h5
  refine Q.r ?_;(repeat (intro b1;refine Q.r ?_))
  exact N.r2 (RV.tmp rfl (RV.tmp rfl RV.nil)) (Ent.refl _) ⟨rfl,rfl⟩
 by_cases h6 : k = 6
 ·subst h6
  refine Q.r ?_;(repeat (intro b1;refine Q.r ?_))
  exact N.r2 (RV.tmp rfl (RV.tmp rfl RV.nil)) (Ent.refl _) ⟨rfl,rfl⟩
 by_cases h7 : k = 7
 ·subst h7
  refine Q.r ?_;(repeat (intro b1;refine Q.r ?_))
  exact N.r2 (RV.tmp rfl (RV.tmp rfl RV.nil)) (Ent.refl _) ⟨rfl,rfl⟩
 by_cases h8 : k = 8
 ·subst h8
  refine Q.r ?_;(repeat (intro b1;refine Q.r ?_))
  exact N.r2 (RV.tmp rfl (RV.tmp rfl RV.nil)) (Ent.refl _) ⟨rfl,rfl⟩
 by_cases h9 : k = 9
 ·subst h9
  refine Q.r ?_;(repeat (intro b1;refine Q.r ?_))
  exact N.r2 (RV.tmp rfl (RV.tmp rfl RV.nil)) (Ent.refl _) ⟨rfl,rfl⟩
 by_cases h10 : k = 10
 ·subst h10
  refine Q.r ?_;(repeat (intro b1;refine Q.r ?_))
  exact N.r2 (RV.tmp rfl (RV.tmp rfl RV.nil)) (Ent.refl _) ⟨rfl,rfl⟩
 by_cases h11 : k = 11
 ·subst h11
  refine Q.r ?_;(repeat (intro b1;refine Q.r ?_))
  exact N.r2 (RV.tmp rfl (RV.tmp rfl RV.nil)) (Ent.refl _) ⟨rfl,rfl⟩
 by_cases h12 : k = 12
 ·subst h12
  refine Q.r ?_;(repeat (intro b1;refine Q.r ?_))
  exact N.r2 (RV.tmp rfl (RV.tmp rfl RV.nil)) (Ent.refl _) ⟨rfl,rfl⟩
 by_cases h13 : k = 13
 ·subst h13
  refine Q.r ?_;(repeat (intro b1;refine Q.r ?_))
  exact N.r2 (RV.tmp rfl (RV.tmp rfl RV.nil)) (Ent.refl _) ⟨rfl,rfl⟩
 by_cases h14 : k = 14
 ·subst h14
  refine Q.r ?_;(repeat (intro b1;refine Q.r ?_))
  exact N.r2 (RV.tmp rfl (RV.tmp rfl RV.nil)) (Ent.refl _) ⟨rfl,rfl⟩
 by_cases h15 : k = 15
 ·subst h15
  refine Q.r ?_;(repeat (intro b1;refine Q.r ?_))
  exact N.r2 (RV.tmp rfl (RV.tmp rfl RV.nil)) (Ent.refl _) ⟨rfl,rfl⟩
 by_cases h16 : k = 16
 ·subst h16
  refine Q.r ?_;(repeat (intro b1;refine Q.r ?_))
  exact N.r2 (RV.tmp rfl (RV.tmp rfl RV.nil)) (Ent.refl _) ⟨rfl,rfl⟩
 by_cases h17 : k = 17
 ·subst h17
  refine Q.r ?_;(repeat (intro b1;refine Q.r ?_))
  exact N.r2 (RV.tmp rfl (RV.tmp rfl RV.nil)) (Ent.refl _) ⟨rfl,rfl⟩
 by_cases h18 : k = 18
 ·subst h18
  refine Q.r ?_;(repeat (intro b1;refine Q.r ?_))
  exact N.r2 (RV.tmp rfl (RV.tmp rfl RV.nil)) (Ent.refl _) ⟨rfl,rfl⟩
 by_cases h19 : k = 19
 ·subst h19
  refine Q.r ?_;(repeat (intro b1;refine Q.r ?_))
  exact N.r2 (RV.tmp rfl (RV.tmp rfl RV.nil)) (Ent.refl _) ⟨rfl,rfl⟩
 by_cases h20 : k = 20
 ·subst h20
  refine Q.r ?_;(repeat (intro b1;refine Q.r ?_))
  exact N.r2 (RV.tmp rfl (RV.tmp rfl RV.nil)) (Ent.refl _) ⟨rfl,rfl⟩
 by_cases h21 : k = 21
 ·subst h21
  refine Q.r ?_;(repeat (intro b1;refine Q.r ?_))
  exact N.r2 (RV.tmp rfl (RV.tmp rfl RV.nil)) (Ent.refl _) ⟨rfl,rfl⟩
 by_cases h22 : k = 22
 ·subst h22
  refine Q.r ?_;(repeat (intro b1;refine Q.r ?_))
  exact N.r2 (RV.tmp rfl (RV.tmp rfl RV.nil)) (Ent.refl _) ⟨rfl,rfl⟩
 have e1 : sortT k = ([],0) := by
  unfold sortT
  rw [List.getElem?_eq_none (by show 23 ≤ k;omega)];rfl
 have e2 : lett k = [] := by
  unfold lett
  rw [List.getElem?_eq_none (by show 23 ≤ k;omega)];rfl
 rw [e1,e2]
 refine Q.r ?_;(repeat (intro b1;refine Q.r ?_))
 exact N.r2 (RV.tmp rfl (RV.tmp rfl RV.nil)) (Ent.refl _) ⟨rfl,rfl⟩
theorem lett_le (k : Nat) : (lett k).length ≤ 15 := by
 by_cases h : k < 23
 ·exact (by decide : ∀ k,k < 23 → (lett k).length ≤ 15) k h
 ·unfold lett
  rw [List.getElem?_eq_none (by show 23 ≤ k;omega)];decide
theorem u8_eq (x f : UInt8) : decide (((x.toNat : Nat) : Int) = ((f.toNat : Nat) : Int)) = decide (x = f) := by
 congr 1
 rw [Int.natCast_inj,UInt8.toNat_inj]
theorem has_spec (k : Nat) (f : UInt8) (kd z : Int) (hkd : kd = (k : Int)) (hz : z = ((f.toNat : Nat) : Int)) (A : List HP) (hk : k ≤ 255) : CallsS Tryz.prog 101 [.int .u8 kd,.int .u8 z] A (fun r L' => r = .bool (hasL k f) ∧ L' = A) := by
 subst hkd
 unfold hasL
 have hle := lett_le k
 refine CallsS.of_body Tryz.func101 rfl rfl rfl ?_
 refine Q.r ?_;(repeat (intro b1;refine Q.r ?_))
 refine S.cr rfl (Name_spec k _ hk) ?_
 rintro _ _ ⟨rfl,he⟩
 rw [he]
 clear he
 refine Q.r ?_;(repeat (intro b1;refine Q.r ?_))
 refine swp_loop (σ := Nat) (fun i => [(1,.int .u8 z),(6,str (lett k)),(7,.int .i64 i)]) (fun _ => A) (fun i => i ≤ (lett k).length ∧ ((lett k).take i).any (fun x => decide (x = f)) = false) (fun i => (lett k).length - i) 0 ⟨rfl,rfl,rfl,trivial⟩ (Ent.refl _) ⟨by omega,by simp⟩ ?_
 rintro i ⟨hi,hany⟩
 by_cases hlt : i < (lett k).length
 ·obtain ⟨x,hx⟩ := mem_get hlt
  refine Q.r ?_;(repeat (intro b1;refine Q.r ?_))
  refine S.y (Y.slen rfl) ?_
  refine Q.r ?_;(repeat (intro b1;refine Q.r ?_))
  refine S.y (Y.idx rfl rfl (bget hx)) ?_
  by_cases he : x = f
  ·have hz2 : ((x.toNat : Nat) : Int) = z := by rw [he,hz]
   refine Q.r ?_;(repeat (intro b1;refine Q.r ?_))
   exact N.r1 (RV.tmp rfl RV.nil) (Ent.refl _) ⟨by rw [List.any_eq_true.2 ⟨x,List.mem_of_getElem? hx,decide_eq_true he⟩],rfl⟩
  ·have hz2 : ¬ ((x.toNat : Nat) : Int) = z := by
    rw [hz]
    intro hh
    have := u8_eq x f
    rw [decide_eq_true hh] at this
    exact he (of_decide_eq_true this.symm)
   refine Q.r ?_;(repeat (intro b1;refine Q.r ?_))
   exact ⟨i + 1,⟨rfl,rfl,rfl,trivial⟩,Ent.refl _,⟨by omega,by rw [take_snoc hx,List.any_append,hany,List.any_cons,decide_eq_false he];rfl⟩,by omega⟩
 ·have hie : i = (lett k).length := by omega
  subst hie
  rw [List.take_length] at hany
  rw [hany]
  refine Q.r ?_;(repeat (intro b1;refine Q.r ?_))
  refine S.y (Y.slen rfl) ?_
  refine Q.r ?_;(repeat (intro b1;refine Q.r ?_))
  exact N.r1 (RV.tmp rfl RV.nil) (Ent.refl _) ⟨rfl,rfl⟩
theorem num_spec (k : Nat) (f : UInt8) (kd z n m : Int) (hkd : kd = (k : Int)) (hz : z = ((f.toNat : Nat) : Int)) (A : List HP) (hk : k ≤ 255) : CallsS Tryz.prog 49 [.int .u8 kd,.int .u8 z,.int .u64 n,.int .u64 m] A (fun r L' => r = .bool (numV k f n m) ∧ L' = A) := by
 unfold numV
 refine CallsS.of_body Tryz.func49 rfl rfl rfl ?_
 by_cases h1 : n ≤ m
 ·rw [decide_eq_true h1,Bool.true_and]
  by_cases h2 : n = 0
  ·rw [decide_eq_true h2,Bool.true_or]
   refine Q.r ?_;(repeat (intro b1;refine Q.r ?_))
   exact N.r1 (RV.tmp rfl RV.nil) (Ent.refl _) ⟨rfl,rfl⟩
  ·rw [decide_eq_false h2,Bool.false_or]
   refine Q.r ?_;(repeat (intro b1;refine Q.r ?_))
   refine S.cr rfl (has_spec k f kd z hkd hz _ hk) ?_
   rintro _ _ ⟨rfl,rfl⟩
   refine Q.r ?_;(repeat (intro b1;refine Q.r ?_))
   exact N.r1 (RV.tmp rfl RV.nil) (Ent.refl _) ⟨rfl,rfl⟩
 ·rw [decide_eq_false h1,Bool.false_and]
  refine Q.r ?_;(repeat (intro b1;refine Q.r ?_))
  exact N.r1 (RV.tmp rfl RV.nil) (Ent.refl _) ⟨rfl,rfl⟩
theorem Rvec_spec (a : Option Addr) (c : Nat) (xs : List Int) (A : List HP) (h : RdS A a xs.length 1 (xs.map I32)) (hn : xs.length ≤ 1000000) :
  CallsS Tryz.prog 50 [.slice a xs.length c] A (fun v L' => v = .bool (bareV xs) ∧ L' = A) := by
 unfold bareV
 refine CallsS.of_body Tryz.func50 rfl rfl rfl ?_
 by_cases h0 : xs.length = 0
 ·rw [decide_eq_true h0,Bool.true_or]
  refine Q.r ?_;(repeat (intro b1;refine Q.r ?_))
  exact N.r1 (RV.tmp rfl RV.nil) (Ent.refl _) ⟨rfl,rfl⟩
 ·rw [decide_eq_false h0,Bool.false_or]
  refine Q.r ?_;(repeat (intro b1;refine Q.r ?_))
  refine S.cr rfl (RRight_spec a c xs _ h (by omega)) ?_
  rintro _ _ ⟨rfl,rfl⟩
  refine Q.r ?_;(repeat (intro b1;refine Q.r ?_))
  exact N.r1 (RV.tmp rfl RV.nil) (Ent.refl _) ⟨rfl,rfl⟩
set_option maxHeartbeats 4000000 in
theorem Right12_spec (n : NV) (A : List HP) (h : RdN A n) (hk : OkN n) (u : NumA n.abs) :
  CallsS Tryz.prog 17 [n.val] A (fun r L' => r = .bool (rightN n.abs) ∧ L' = A) := by
 obtain ⟨k,hkk⟩ : ∃ k : Nat,n.kind = (k : Int) := ⟨n.kind.toNat,by have := u.kind;dsimp only at this;omega⟩
 have hk255 : k ≤ 255 := by have := u.kind;dsimp only at this;omega
 have hE : rightN n.abs = (!decide ((sortT k).1 = []) && !(decide (n.k < 0) || decide (n.ef < 0) || decide (n.code < 0) || decide (n.who < 0)) && (okNA k n.abs && (okNB k n.abs && (partsV n.parts && (!(n.ops.any fun o => badOp o.abs) && !(n.hits.any fun o => badHit o.abs)))))) := by
  rw [right_ref u]
  have e1 : n.abs.kind.toNat = k := by show n.kind.toNat = k;omega
  rw [e1,sort_name,Bool.not_not]
  have e2 : decide (1 ≤ n.abs.kind ∧ n.abs.kind ≤ 22) = decide (1 ≤ k ∧ k ≤ 22) := by
   congr 1
   show (1 ≤ n.kind ∧ n.kind ≤ 22) = _
   rw [hkk];simp;omega
  rw [e2]
  simp only [List.any_map]
  rfl
 have hu : NumA n.abs := u
 rw [hE]
 clear hE
 have x1 := u.k
 have x2 := u.ef
 have x3 := u.code
 have x4 := u.who
 dsimp only at x1 x2 x3 x4
 have p1 := hk.p
 have p2 := hk.o
 have p3 := hk.v
 have p4 := hk.h
 refine CallsS.of_body Tryz.func17 rfl rfl rfl ?_
 refine Q.r ?_;(repeat (intro b1;refine Q.r ?_))
 refine S.cr (args := [.int .u8 (k : Int)]) (by rw [← hkk];rfl) (Name_spec k _ hk255) ?_
 rintro _ _ ⟨rfl,rfl⟩
 by_cases hn : (sortT k).1 = []
 ·rw [decide_eq_true hn]
  refine Q.r ?_;(repeat (intro b1;refine Q.r ?_))
  exact N.r1 (RV.tmp rfl RV.nil) (Ent.drop (Ent.refl _)) ⟨by simp only [Bool.or_true,Bool.true_or,Bool.or_false,Bool.false_or,Bool.not_true,Bool.not_false,Bool.false_and,Bool.and_false,Bool.true_and,Bool.and_true],rfl⟩
 rw [decide_eq_false hn]
 by_cases a1 : n.k < 0
 ·rw [decide_eq_true a1]
  refine Q.r ?_;(repeat (intro b1;refine Q.r ?_))
  exact N.r1 (RV.tmp rfl RV.nil) (Ent.drop (Ent.refl _)) ⟨by simp only [Bool.or_true,Bool.true_or,Bool.or_false,Bool.false_or,Bool.not_true,Bool.not_false,Bool.false_and,Bool.and_false,Bool.true_and,Bool.and_true],rfl⟩
 by_cases a2 : n.ef < 0
 ·rw [decide_eq_true a2]
  refine Q.r ?_;(repeat (intro b1;refine Q.r ?_))
  exact N.r1 (RV.tmp rfl RV.nil) (Ent.drop (Ent.refl _)) ⟨by simp only [Bool.or_true,Bool.true_or,Bool.or_false,Bool.false_or,Bool.not_true,Bool.not_false,Bool.false_and,Bool.and_false,Bool.true_and,Bool.and_true],rfl⟩
 by_cases a3 : n.code < 0
 ·rw [decide_eq_true a3]
  refine Q.r ?_;(repeat (intro b1;refine Q.r ?_))
  exact N.r1 (RV.tmp rfl RV.nil) (Ent.drop (Ent.refl _)) ⟨by simp only [Bool.or_true,Bool.true_or,Bool.or_false,Bool.false_or,Bool.not_true,Bool.not_false,Bool.false_and,Bool.and_false,Bool.true_and,Bool.and_true],rfl⟩
 by_cases a4 : n.who < 0
 ·rw [decide_eq_true a4]
  refine Q.r ?_;(repeat (intro b1;refine Q.r ?_))
  exact N.r1 (RV.tmp rfl RV.nil) (Ent.drop (Ent.refl _)) ⟨by simp only [Bool.or_true,Bool.true_or,Bool.or_false,Bool.false_or,Bool.not_true,Bool.not_false,Bool.false_and,Bool.and_false,Bool.true_and,Bool.and_true],rfl⟩
 rw [decide_eq_false a1,decide_eq_false a2,decide_eq_false a3,decide_eq_false a4]
 simp only [Bool.or_true,Bool.true_or,Bool.or_false,Bool.false_or,Bool.not_true,Bool.not_false,Bool.false_and,Bool.and_false,Bool.true_and,Bool.and_true]
 refine Q.r ?_;(repeat (intro b1;refine Q.r ?_))
 refine opsS_cutT (σ := Bool) (fun s => [(1,.pointer (some ⟨b1,0,none⟩)),(3,.int .u8 n.kind),(6,.bool s)]) (fun s => pt b1 (cl n.cells 39) :: A) (fun s => s = okNA k n.abs) ?_ ?_
 ·skip
  refine Q.r ?_;(repeat (intro b1;refine Q.r ?_))
  refine S.cr rfl (num_spec k 116 n.kind 116 n.txn 18446744073709551615 hkk rfl _ hk255) ?_
  rintro _ _ ⟨rfl,rfl⟩
  cases hv0 : numV k 116 n.txn 18446744073709551615 with
  | false =>
   refine Q.r ?_;(repeat (intro b1;refine Q.r ?_))
   exact ⟨false,⟨rfl,rfl,rfl,trivial⟩,Ent.refl _,by unfold okNA;simp only [hv0,List.length_map,Bool.or_true,Bool.true_or,Bool.or_false,Bool.false_or,Bool.not_true,Bool.not_false,Bool.false_and,Bool.and_false,Bool.true_and,Bool.and_true]⟩
  | true =>
  refine Q.r ?_;(repeat (intro b1;refine Q.r ?_))
  refine S.cr rfl (num_spec k 98 n.kind 98 n.batch 18446744073709551615 hkk rfl _ hk255) ?_
  rintro _ _ ⟨rfl,rfl⟩
  cases hv1 : numV k 98 n.batch 18446744073709551615 with
  | false =>
   refine Q.r ?_;(repeat (intro b1;refine Q.r ?_))
   exact ⟨false,⟨rfl,rfl,rfl,trivial⟩,Ent.refl _,by unfold okNA;simp only [hv0,hv1,List.length_map,Bool.or_true,Bool.true_or,Bool.or_false,Bool.false_or,Bool.not_true,Bool.not_false,Bool.false_and,Bool.and_false,Bool.true_and,Bool.and_true]⟩
  | true =>
  refine Q.r ?_;(repeat (intro b1;refine Q.r ?_))
  refine S.cr rfl (num_spec k 115 n.kind 115 n.stamp 1099511627776 hkk rfl _ hk255) ?_
  rintro _ _ ⟨rfl,rfl⟩
  cases hv2 : numV k 115 n.stamp 1099511627776 with
  | false =>
   refine Q.r ?_;(repeat (intro b1;refine Q.r ?_))
   exact ⟨false,⟨rfl,rfl,rfl,trivial⟩,Ent.refl _,by unfold okNA;simp only [hv0,hv1,hv2,List.length_map,Bool.or_true,Bool.true_or,Bool.or_false,Bool.false_or,Bool.not_true,Bool.not_false,Bool.false_and,Bool.and_false,Bool.true_and,Bool.and_true]⟩
  | true =>
  refine Q.r ?_;(repeat (intro b1;refine Q.r ?_))
  refine S.cr rfl (num_spec k 97 n.kind 97 n.after 1099511627776 hkk rfl _ hk255) ?_
  rintro _ _ ⟨rfl,rfl⟩
  cases hv3 : numV k 97 n.after 1099511627776 with
  | false =>
   refine Q.r ?_;(repeat (intro b1;refine Q.r ?_))
   exact ⟨false,⟨rfl,rfl,rfl,trivial⟩,Ent.refl _,by unfold okNA;simp only [hv0,hv1,hv2,hv3,List.length_map,Bool.or_true,Bool.true_or,Bool.or_false,Bool.false_or,Bool.not_true,Bool.not_false,Bool.false_and,Bool.and_false,Bool.true_and,Bool.and_true]⟩
  | true =>
  refine Q.r ?_;(repeat (intro b1;refine Q.r ?_))
  refine S.cr rfl (num_spec k 109 n.kind 109 n.mark 1099511627776 hkk rfl _ hk255) ?_
  rintro _ _ ⟨rfl,rfl⟩
  cases hv4 : numV k 109 n.mark 1099511627776 with
  | false =>
   refine Q.r ?_;(repeat (intro b1;refine Q.r ?_))
   exact ⟨false,⟨rfl,rfl,rfl,trivial⟩,Ent.refl _,by unfold okNA;simp only [hv0,hv1,hv2,hv3,hv4,List.length_map,Bool.or_true,Bool.true_or,Bool.or_false,Bool.false_or,Bool.not_true,Bool.not_false,Bool.false_and,Bool.and_false,Bool.true_and,Bool.and_true]⟩
  | true =>
  refine Q.r ?_;(repeat (intro b1;refine Q.r ?_))
  refine S.cr rfl (num_spec k 113 n.kind 113 n.query 18446744073709551615 hkk rfl _ hk255) ?_
  rintro _ _ ⟨rfl,rfl⟩
  cases hv5 : numV k 113 n.query 18446744073709551615 with
  | false =>
   refine Q.r ?_;(repeat (intro b1;refine Q.r ?_))
   exact ⟨false,⟨rfl,rfl,rfl,trivial⟩,Ent.refl _,by unfold okNA;simp only [hv0,hv1,hv2,hv3,hv4,hv5,List.length_map,Bool.or_true,Bool.true_or,Bool.or_false,Bool.false_or,Bool.not_true,Bool.not_false,Bool.false_and,Bool.and_false,Bool.true_and,Bool.and_true]⟩
  | true =>
  refine Q.r ?_;(repeat (intro b1;refine Q.r ?_))
  refine S.cr rfl (num_spec k 105 n.kind 105 n.id 1099511627776 hkk rfl _ hk255) ?_
  rintro _ _ ⟨rfl,rfl⟩
  cases hv6 : numV k 105 n.id 1099511627776 with
  | false =>
   refine Q.r ?_;(repeat (intro b1;refine Q.r ?_))
   exact ⟨false,⟨rfl,rfl,rfl,trivial⟩,Ent.refl _,by unfold okNA;simp only [hv0,hv1,hv2,hv3,hv4,hv5,hv6,List.length_map,Bool.or_true,Bool.true_or,Bool.or_false,Bool.false_or,Bool.not_true,Bool.not_false,Bool.false_and,Bool.and_false,Bool.true_and,Bool.and_true]⟩
  | true =>
  refine Q.r ?_;(repeat (intro b1;refine Q.r ?_))
  refine S.y (Y.cvi rfl) ?_
  rw [wrap_u64 (by omega) (by omega)]
  refine Q.r ?_;(repeat (intro b1;refine Q.r ?_))
  refine S.cr rfl (num_spec k 107 n.kind 107 n.k 16 hkk rfl _ hk255) ?_
  rintro _ _ ⟨rfl,rfl⟩
  cases hv7 : numV k 107 n.k 16 with
  | false =>
   refine Q.r ?_;(repeat (intro b1;refine Q.r ?_))
   exact ⟨false,⟨rfl,rfl,rfl,trivial⟩,Ent.refl _,by unfold okNA;simp only [hv0,hv1,hv2,hv3,hv4,hv5,hv6,hv7,List.length_map,Bool.or_true,Bool.true_or,Bool.or_false,Bool.false_or,Bool.not_true,Bool.not_false,Bool.false_and,Bool.and_false,Bool.true_and,Bool.and_true]⟩
  | true =>
  refine Q.r ?_;(repeat (intro b1;refine Q.r ?_))
  refine S.y (Y.cvi rfl) ?_
  rw [wrap_u64 (by omega) (by omega)]
  refine Q.r ?_;(repeat (intro b1;refine Q.r ?_))
  refine S.cr rfl (num_spec k 101 n.kind 101 n.ef 256 hkk rfl _ hk255) ?_
  rintro _ _ ⟨rfl,rfl⟩
  cases hv8 : numV k 101 n.ef 256 with
  | false =>
   refine Q.r ?_;(repeat (intro b1;refine Q.r ?_))
   exact ⟨false,⟨rfl,rfl,rfl,trivial⟩,Ent.refl _,by unfold okNA;simp only [hv0,hv1,hv2,hv3,hv4,hv5,hv6,hv7,hv8,List.length_map,Bool.or_true,Bool.true_or,Bool.or_false,Bool.false_or,Bool.not_true,Bool.not_false,Bool.false_and,Bool.and_false,Bool.true_and,Bool.and_true]⟩
  | true =>
  refine Q.r ?_;(repeat (intro b1;refine Q.r ?_))
  refine S.y (Y.cvi rfl) ?_
  rw [wrap_u64 (by omega) (by omega)]
  refine Q.r ?_;(repeat (intro b1;refine Q.r ?_))
  refine S.cr rfl (num_spec k 99 n.kind 99 n.code 13 hkk rfl _ hk255) ?_
  rintro _ _ ⟨rfl,rfl⟩
  cases hv9 : numV k 99 n.code 13 with
  | false =>
   refine Q.r ?_;(repeat (intro b1;refine Q.r ?_))
   exact ⟨false,⟨rfl,rfl,rfl,trivial⟩,Ent.refl _,by unfold okNA;simp only [hv0,hv1,hv2,hv3,hv4,hv5,hv6,hv7,hv8,hv9,List.length_map,Bool.or_true,Bool.true_or,Bool.or_false,Bool.false_or,Bool.not_true,Bool.not_false,Bool.false_and,Bool.and_false,Bool.true_and,Bool.and_true]⟩
  | true =>
  refine Q.r ?_;(repeat (intro b1;refine Q.r ?_))
  refine S.y (Y.cvi rfl) ?_
  rw [wrap_u64 (by omega) (by omega)]
  refine Q.r ?_;(repeat (intro b1;refine Q.r ?_))
  refine S.cr rfl (num_spec k 119 n.kind 119 n.who 15 hkk rfl _ hk255) ?_
  rintro _ _ ⟨rfl,rfl⟩
  cases hv10 : numV k 119 n.who 15 with
  | false =>
   refine Q.r ?_;(repeat (intro b1;refine Q.r ?_))
   exact ⟨false,⟨rfl,rfl,rfl,trivial⟩,Ent.refl _,by unfold okNA;simp only [hv0,hv1,hv2,hv3,hv4,hv5,hv6,hv7,hv8,hv9,hv10,List.length_map,Bool.or_true,Bool.true_or,Bool.or_false,Bool.false_or,Bool.not_true,Bool.not_false,Bool.false_and,Bool.and_false,Bool.true_and,Bool.and_true]⟩
  | true =>
  refine Q.r ?_;(repeat (intro b1;refine Q.r ?_))
  exact ⟨true,⟨rfl,rfl,rfl,trivial⟩,Ent.refl _,by unfold okNA;simp only [hv0,hv1,hv2,hv3,hv4,hv5,hv6,hv7,hv8,hv9,hv10,Bool.or_true,Bool.true_or,Bool.or_false,Bool.false_or,Bool.not_true,Bool.not_false,Bool.false_and,Bool.and_false,Bool.true_and,Bool.and_true]⟩
 intro b0 hb0
 rw [← hb0,← Bool.and_assoc]
 clear hb0
 refine swp_seq ?_
 refine swp_region ?_
 refine opsS_cutT (σ := Bool) (fun s => [(1,.pointer (some ⟨b1,0,none⟩)),(6,.bool s)]) (fun s => pt b1 (cl n.cells 39) :: A) (fun s => s = (b0 && okNB k n.abs)) ?_ ?_
 ·cases b0 with
  | false =>
   refine Q.r ?_;(repeat (intro b1;refine Q.r ?_))
   exact ⟨false,⟨rfl,rfl,trivial⟩,Ent.refl _,rfl⟩
  | true =>
  rw [Bool.true_and]
  refine Q.r ?_;(repeat (intro b1;refine Q.r ?_))
  refine S.y (Y.cvi rfl) ?_
  rw [wrap_u64 (by omega) (by omega)]
  refine Q.r ?_;(repeat (intro b1;refine Q.r ?_))
  refine S.cr rfl (num_spec k 112 n.kind 112 (n.parts.length : Nat) 4 hkk rfl _ hk255) ?_
  rintro _ _ ⟨rfl,rfl⟩
  cases hv0 : numV k 112 (n.parts.length : Nat) 4 with
  | false =>
   refine Q.r ?_;(repeat (intro b1;refine Q.r ?_))
   exact ⟨false,⟨rfl,rfl,trivial⟩,Ent.refl _,by unfold okNB;simp only [hv0,List.length_map,Bool.or_true,Bool.true_or,Bool.or_false,Bool.false_or,Bool.not_true,Bool.not_false,Bool.false_and,Bool.and_false,Bool.true_and,Bool.and_true]⟩
  | true =>
  refine Q.r ?_;(repeat (intro b1;refine Q.r ?_))
  refine S.y (Y.cvi rfl) ?_
  rw [wrap_u64 (by omega) (by omega)]
  refine Q.r ?_;(repeat (intro b1;refine Q.r ?_))
  refine S.cr rfl (num_spec k 111 n.kind 111 (n.ops.length : Nat) 16 hkk rfl _ hk255) ?_
  rintro _ _ ⟨rfl,rfl⟩
  cases hv1 : numV k 111 (n.ops.length : Nat) 16 with
  | false =>
   refine Q.r ?_;(repeat (intro b1;refine Q.r ?_))
   exact ⟨false,⟨rfl,rfl,trivial⟩,Ent.refl _,by unfold okNB;simp only [hv0,hv1,List.length_map,Bool.or_true,Bool.true_or,Bool.or_false,Bool.false_or,Bool.not_true,Bool.not_false,Bool.false_and,Bool.and_false,Bool.true_and,Bool.and_true]⟩
  | true =>
  refine Q.r ?_;(repeat (intro b1;refine Q.r ?_))
  refine S.y (Y.cvi rfl) ?_
  rw [wrap_u64 (by omega) (by omega)]
  refine Q.r ?_;(repeat (intro b1;refine Q.r ?_))
  refine S.cr rfl (num_spec k 118 n.kind 118 (n.vec.length : Nat) 8 hkk rfl _ hk255) ?_
  rintro _ _ ⟨rfl,rfl⟩
  cases hv2 : numV k 118 (n.vec.length : Nat) 8 with
  | false =>
   refine Q.r ?_;(repeat (intro b1;refine Q.r ?_))
   exact ⟨false,⟨rfl,rfl,trivial⟩,Ent.refl _,by unfold okNB;simp only [hv0,hv1,hv2,List.length_map,Bool.or_true,Bool.true_or,Bool.or_false,Bool.false_or,Bool.not_true,Bool.not_false,Bool.false_and,Bool.and_false,Bool.true_and,Bool.and_true]⟩
  | true =>
  refine Q.r ?_;(repeat (intro b1;refine Q.r ?_))
  refine S.y (Y.cvi rfl) ?_
  rw [wrap_u64 (by omega) (by omega)]
  refine Q.r ?_;(repeat (intro b1;refine Q.r ?_))
  refine S.cr rfl (num_spec k 104 n.kind 104 (n.hits.length : Nat) 16 hkk rfl _ hk255) ?_
  rintro _ _ ⟨rfl,rfl⟩
  cases hv3 : numV k 104 (n.hits.length : Nat) 16 with
  | false =>
   refine Q.r ?_;(repeat (intro b1;refine Q.r ?_))
   exact ⟨false,⟨rfl,rfl,trivial⟩,Ent.refl _,by unfold okNB;simp only [hv0,hv1,hv2,hv3,List.length_map,Bool.or_true,Bool.true_or,Bool.or_false,Bool.false_or,Bool.not_true,Bool.not_false,Bool.false_and,Bool.and_false,Bool.true_and,Bool.and_true]⟩
  | true =>
  refine Q.r ?_;(repeat (intro b1;refine Q.r ?_))
  refine S.cr rfl (Rvec_spec n.va n.vc n.vec _ h.v.sub hk.v) ?_
  rintro _ _ ⟨rfl,rfl⟩
  cases hv5 : bareV n.vec with
  | false =>
   refine Q.r ?_;(repeat (intro b1;refine Q.r ?_))
   exact ⟨false,⟨rfl,rfl,trivial⟩,Ent.refl _,by unfold okNB;simp only [hv0,hv1,hv2,hv3,hv5,List.length_map,Bool.or_true,Bool.true_or,Bool.or_false,Bool.false_or,Bool.not_true,Bool.not_false,Bool.false_and,Bool.and_false,Bool.true_and,Bool.and_true]⟩
  | true =>
   refine Q.r ?_;(repeat (intro b1;refine Q.r ?_))
   exact ⟨true,⟨rfl,rfl,trivial⟩,Ent.refl _,by unfold okNB;simp only [hv0,hv1,hv2,hv3,hv5,List.length_map,Bool.or_true,Bool.true_or,Bool.or_false,Bool.false_or,Bool.not_true,Bool.not_false,Bool.false_and,Bool.and_false,Bool.true_and,Bool.and_true]⟩
 intro b hb
 rw [← hb,← Bool.and_assoc]
 clear hb b0
 refine Q.r ?_;(repeat (intro b1;refine Q.r ?_))
 refine swp_cutB (σ := Bool) (fun s => [(1,.pointer (some ⟨b1,0,none⟩)),(6,.bool s)]) (fun s => pt b1 (cl n.cells 39) :: A) (fun s => s = (b && partsV n.parts)) ?_ ?_
 ·refine swp_loop (σ := Nat × Bool) (fun s => [(1,.pointer (some ⟨b1,0,none⟩)),(149,.slice n.pa n.parts.length n.pc),(150,.int .i64 n.parts.length),(6,.bool s.2),(151,.int .i64 s.1)])
   (fun _ => pt b1 (cl n.cells 39) :: A) (fun s => s.1 ≤ n.parts.length ∧ s.2 = (b && (List.range s.1).all (okP n.parts))) (fun s => n.parts.length - s.1) (0,b) ⟨rfl,rfl,rfl,rfl,rfl,trivial⟩ (Ent.refl _) ⟨by omega,by simp⟩ ?_
  rintro ⟨i,t⟩ ⟨hi,ht⟩
  dsimp only at hi ht ⊢
  by_cases hlt : i < n.parts.length
  ·have hst : (b && (List.range (i + 1)).all (okP n.parts)) = (t && okP n.parts i) := by
    rw [List.range_succ,List.all_append,← Bool.and_assoc,← ht,List.all_cons,List.all_nil,Bool.and_true]
   clear ht
   obtain ⟨p,hp⟩ := mem_get hlt
   obtain ⟨bp,op,hpa,hr⟩ := RdS.elem (g := fun z => [I64 z]) (fun _ => rfl) (by rw [flat_I64];exact h.p) hp rfl
   have hgp : n.parts.getD i 0 = p := by rw [List.getD_eq_getElem?_getD,hp];rfl
   cases t with
   | false =>
    rw [hpa]
    repeat (first | refine S.y (Y.ldRj rfl (by first | assumption | exact RdC.sub (by assumption)) rfl) ?_ | (refine GQ.y ?_;refine Q.y ?_) | refine Q.go ?_ | (refine GQ.g ?_;refine Q.gq ?_) | (refine GQ.s ?_;refine Q.st ?_) | (refine GQ.g ?_;refine Q.gd ?_) | refine Q.ct rfl ?_ | refine Q.cf rfl ?_ | (refine GQ.a ?_;refine Q.al (fun b1 => ?_)))
    exact ⟨(i + 1,false),⟨rfl,by first | rfl | (rw [← hpa];rfl),rfl,rfl,rfl,trivial⟩,Ent.refl _,⟨by dsimp only;omega,by rw [hst];rfl⟩,by dsimp only;omega⟩
   | true =>
   rw [Bool.true_and] at hst
   by_cases e1 : p < 0
   ·rw [hpa]
    repeat (first | refine S.y (Y.ldRj rfl (by first | assumption | exact RdC.sub (by assumption)) rfl) ?_ | (refine GQ.y ?_;refine Q.y ?_) | refine Q.go ?_ | (refine GQ.g ?_;refine Q.gq ?_) | (refine GQ.s ?_;refine Q.st ?_) | (refine GQ.g ?_;refine Q.gd ?_) | refine Q.ct rfl ?_ | refine Q.cf rfl ?_ | (refine GQ.a ?_;refine Q.al (fun b1 => ?_)))
    exact ⟨(i + 1,false),⟨rfl,by first | rfl | (rw [← hpa];rfl),rfl,rfl,rfl,trivial⟩,Ent.refl _,⟨by dsimp only;omega,by rw [hst];unfold okP;rw [hgp,decide_eq_false (by omega : ¬ 0 ≤ p)];rfl⟩,by dsimp only;omega⟩
   by_cases e2 : 16 ≤ p
   ·rw [hpa]
    repeat (first | refine S.y (Y.ldRj rfl (by first | assumption | exact RdC.sub (by assumption)) rfl) ?_ | (refine GQ.y ?_;refine Q.y ?_) | refine Q.go ?_ | (refine GQ.g ?_;refine Q.gq ?_) | (refine GQ.s ?_;refine Q.st ?_) | (refine GQ.g ?_;refine Q.gd ?_) | refine Q.ct rfl ?_ | refine Q.cf rfl ?_ | (refine GQ.a ?_;refine Q.al (fun b1 => ?_)))
    exact ⟨(i + 1,false),⟨rfl,by first | rfl | (rw [← hpa];rfl),rfl,rfl,rfl,trivial⟩,Ent.refl _,⟨by dsimp only;omega,by rw [hst];unfold okP;rw [hgp,decide_eq_false (by omega : ¬ p < 16),Bool.and_false];rfl⟩,by dsimp only;omega⟩
   by_cases e3 : i = 0
   ·subst e3
    rw [hpa]
    repeat (first | refine S.y (Y.ldRj rfl (by first | assumption | exact RdC.sub (by assumption)) rfl) ?_ | (refine GQ.y ?_;refine Q.y ?_) | refine Q.go ?_ | (refine GQ.g ?_;refine Q.gq ?_) | (refine GQ.s ?_;refine Q.st ?_) | (refine GQ.g ?_;refine Q.gd ?_) | refine Q.ct rfl ?_ | refine Q.cf rfl ?_ | (refine GQ.a ?_;refine Q.al (fun b1 => ?_)))
    exact ⟨(1,true),⟨rfl,by first | rfl | (rw [← hpa];rfl),rfl,rfl,rfl,trivial⟩,Ent.refl _,⟨by dsimp only;omega,by rw [hst];unfold okP;rw [hgp,decide_eq_true (by omega : (0 : Int) ≤ p),decide_eq_true (by omega : p < 16)];rfl⟩,by dsimp only;omega⟩
   ·obtain ⟨q,hq⟩ := mem_get (l := n.parts) (show i - 1 < n.parts.length by omega)
    obtain ⟨bq,oq,hqa,hr2⟩ := RdS.elem (g := fun z => [I64 z]) (fun _ => rfl) (by rw [flat_I64];exact h.p) hq rfl
    have hgq : n.parts.getD (i - 1) 0 = q := by rw [List.getD_eq_getElem?_getD,hq];rfl
    have hv : okP n.parts i = decide (q < p) := by
     unfold okP
     rw [hgp,hgq,decide_eq_true (by omega : (0 : Int) ≤ p),decide_eq_true (by omega : p < 16),decide_eq_false e3];simp only [Bool.or_true,Bool.true_or,Bool.or_false,Bool.false_or,Bool.not_true,Bool.not_false,Bool.false_and,Bool.and_false,Bool.true_and,Bool.and_true]
    rw [hv] at hst
    rw [hpa]
    repeat (first | refine S.y (Y.ldRj rfl (by first | assumption | exact RdC.sub (by assumption)) rfl) ?_ | refine Q.yn ?_ | refine S.stI rfl rfl (by first | omega | (rw [Array.size_setIfInBounds];omega)) ?_ | (refine GQ.y ?_;refine Q.y ?_) | refine Q.go ?_ | (refine GQ.g ?_;refine Q.gq ?_) | (refine GQ.s ?_;refine Q.st ?_) | (refine GQ.g ?_;refine Q.gd ?_) | refine Q.ct rfl ?_ | refine Q.cf rfl ?_ | (refine GQ.a ?_;refine Q.al (fun b1 => ?_)))
    rw [← hpa,hqa]
    repeat (first | refine S.y (Y.ldRj rfl (by first | assumption | exact RdC.sub (by assumption)) rfl) ?_ | refine Q.yn ?_ | refine S.stI rfl rfl (by first | omega | (rw [Array.size_setIfInBounds];omega)) ?_ | (refine GQ.y ?_;refine Q.y ?_) | refine Q.go ?_ | (refine GQ.g ?_;refine Q.gq ?_) | (refine GQ.s ?_;refine Q.st ?_) | (refine GQ.g ?_;refine Q.gd ?_) | refine Q.ct rfl ?_ | refine Q.cf rfl ?_ | (refine GQ.a ?_;refine Q.al (fun b1 => ?_)))
    exact ⟨(i + 1,decide (q < p)),⟨rfl,by first | rfl | (rw [← hqa];rfl) | (rw [hqa];rfl),rfl,rfl,rfl,trivial⟩,Ent.refl _,⟨by dsimp only;omega,by rw [hst]⟩,by dsimp only;omega⟩
  ·have hie : i = n.parts.length := by omega
   subst hie
   refine Q.r ?_;(repeat (intro b1;refine Q.r ?_))
   exact ⟨t,⟨rfl,rfl,trivial⟩,Ent.refl _,ht⟩
 intro b2 hb2
 rw [← hb2,← Bool.and_assoc]
 clear hb2 b
 refine Q.r ?_;(repeat (intro b1;refine Q.r ?_))
 refine swp_cutB (σ := Bool) (fun s => [(1,.pointer (some ⟨b1,0,none⟩)),(6,.bool s)]) (fun s => pt b1 (cl n.cells 39) :: A) (fun s => s = (b2 && !(n.ops.any fun o => badOp o.abs))) ?_ ?_
 ·refine swp_loop (σ := Nat × Bool) (fun s => [(1,.pointer (some ⟨b1,0,none⟩)),(181,.slice n.oa n.ops.length n.oc),(182,.int .i64 n.ops.length),(6,.bool s.2),(183,.int .i64 s.1)])
   (fun _ => pt b1 (cl n.cells 39) :: A) (fun s => s.1 ≤ n.ops.length ∧ s.2 = (b2 && !((n.ops.take s.1).any fun o => badOp o.abs))) (fun s => n.ops.length - s.1) (0,b2) ⟨rfl,rfl,rfl,rfl,rfl,trivial⟩ (Ent.refl _) ⟨by omega,by simp⟩ ?_
  rintro ⟨i,t⟩ ⟨hi,ht⟩
  dsimp only at hi ht ⊢
  by_cases hlt : i < n.ops.length
  ·obtain ⟨o,ho⟩ := mem_get hlt
   have hmo : o ∈ n.ops := List.mem_of_getElem? ho
   have hst : (b2 && !((n.ops.take (i + 1)).any fun o => badOp o.abs)) = (t && !badOp o.abs) := by
    rw [take_snoc ho,List.any_append,Bool.not_or,← Bool.and_assoc,← ht,List.any_cons,List.any_nil,Bool.or_false]
   clear ht
   obtain ⟨bp,op,hpa,hr⟩ := RdS.elem (g := OV.cells) (fun _ => rfl) h.o.1 ho rfl
   rw [hpa]
   cases t with
   | false =>
    refine Q.r ?_;(repeat (intro b1;refine Q.r ?_))
    exact ⟨(i + 1,false),⟨rfl,rfl,rfl,rfl,rfl,trivial⟩,by exact Go.SX.Ent.go,⟨by dsimp only;omega,by rw [hst];rfl⟩,by dsimp only;omega⟩
   | true =>
   rw [Bool.true_and] at hst
   by_cases e1 : 1099511627776 < o.id
   ·refine Q.r ?_;(repeat (intro b1;refine Q.r ?_))
    exact ⟨(i + 1,false),⟨rfl,rfl,rfl,rfl,rfl,trivial⟩,by exact Go.SX.Ent.go,⟨by dsimp only;omega,by rw [hst];unfold badOp;rw [decide_eq_true e1];rfl⟩,by dsimp only;omega⟩
   ·refine Q.r ?_;(repeat (intro b1;refine Q.r ?_))
    refine S.cr rfl (Rvec_spec o.a o.c o.vec _ ((h.o.2 o hmo).sub) (hk.ov o hmo)) ?_
    rintro _ _ ⟨rfl,rfl⟩
    refine Q.r ?_;(repeat (intro b1;refine Q.r ?_))
    exact ⟨(i + 1,bareV o.vec),⟨rfl,rfl,rfl,rfl,rfl,trivial⟩,by exact Go.SX.Ent.go,⟨by dsimp only;omega,by rw [hst];unfold badOp;rw [decide_eq_false e1];simp only [Bool.or_true,Bool.true_or,Bool.or_false,Bool.false_or,Bool.not_true,Bool.not_false,Bool.false_and,Bool.and_false,Bool.true_and,Bool.and_true,Bool.not_not]⟩,by dsimp only;omega⟩
  ·have hie : i = n.ops.length := by omega
   subst hie
   rw [List.take_length] at ht
   refine Q.r ?_;(repeat (intro b1;refine Q.r ?_))
   exact ⟨t,⟨rfl,rfl,trivial⟩,Ent.refl _,ht⟩
 intro b3 hb3
 rw [← hb3]
 clear hb3 b2
 refine Q.r ?_;(repeat (intro b1;refine Q.r ?_))
 refine swp_cutB (σ := Bool) (fun s => [(6,.bool s)]) (fun s => A) (fun s => s = (b3 && !(n.hits.any fun o => badHit o.abs))) ?_ ?_
 ·refine swp_loop (σ := Nat × Bool) (fun s => [(200,.slice n.ha n.hits.length n.hc),(201,.int .i64 n.hits.length),(6,.bool s.2),(202,.int .i64 s.1)])
   (fun _ => A) (fun s => s.1 ≤ n.hits.length ∧ s.2 = (b3 && !((n.hits.take s.1).any fun o => badHit o.abs))) (fun s => n.hits.length - s.1) (0,b3) ⟨rfl,rfl,rfl,rfl,trivial⟩ (Ent.drop (Ent.refl _)) ⟨by omega,by simp⟩ ?_
  rintro ⟨i,t⟩ ⟨hi,ht⟩
  dsimp only at hi ht ⊢
  by_cases hlt : i < n.hits.length
  ·obtain ⟨o,ho⟩ := mem_get hlt
   have hmo : o ∈ n.hits := List.mem_of_getElem? ho
   have hst : (b3 && !((n.hits.take (i + 1)).any fun o => badHit o.abs)) = (t && !badHit o.abs) := by
    rw [take_snoc ho,List.any_append,Bool.not_or,← Bool.and_assoc,← ht,List.any_cons,List.any_nil,Bool.or_false]
   clear ht
   obtain ⟨bp,op,hpa,hr⟩ := RdS.elem (g := HV.cells) (fun _ => rfl) h.h ho rfl
   rw [hpa]
   cases t with
   | false =>
    refine Q.r ?_;(repeat (intro b1;refine Q.r ?_))
    exact ⟨(i + 1,false),⟨rfl,rfl,rfl,rfl,trivial⟩,by exact Go.SX.Ent.go,⟨by dsimp only;omega,by rw [hst];rfl⟩,by dsimp only;omega⟩
   | true =>
   rw [Bool.true_and] at hst
   by_cases e1 : 1099511627776 < o.id
   ·refine Q.r ?_;(repeat (intro b1;refine Q.r ?_))
    exact ⟨(i + 1,false),⟨rfl,rfl,rfl,rfl,trivial⟩,by exact Go.SX.Ent.go,⟨by dsimp only;omega,by rw [hst];unfold badHit;rw [decide_eq_true e1];rfl⟩,by dsimp only;omega⟩
   ·refine Q.r ?_;(repeat (intro b1;refine Q.r ?_))
    refine S.cr rfl (RRight_spec o.a o.c o.vec _ ((h.hv o hmo).sub) (by have := hk.hv o hmo;omega)) ?_
    rintro _ _ ⟨rfl,rfl⟩
    refine Q.r ?_;(repeat (intro b1;refine Q.r ?_))
    exact ⟨(i + 1,rightV o.vec),⟨rfl,rfl,rfl,rfl,trivial⟩,by exact Go.SX.Ent.go,⟨by dsimp only;omega,by rw [hst];unfold badHit;rw [decide_eq_false e1];simp only [Bool.or_true,Bool.true_or,Bool.or_false,Bool.false_or,Bool.not_true,Bool.not_false,Bool.false_and,Bool.and_false,Bool.true_and,Bool.and_true,Bool.not_not]⟩,by dsimp only;omega⟩
  ·have hie : i = n.hits.length := by omega
   subst hie
   rw [List.take_length] at ht
   refine Q.r ?_;(repeat (intro b1;refine Q.r ?_))
   exact ⟨t,⟨rfl,trivial⟩,Ent.refl _,ht⟩
 intro b4 hb4
 rw [← hb4]
 refine Q.r ?_;(repeat (intro b1;refine Q.r ?_))
 exact N.r1 (RV.tmp rfl RV.nil) (Ent.refl _) ⟨rfl,rfl⟩
end Go.Proofs.YtiampehfpgcogaaGreatDoor
namespace Go.SX
open Go
end Go.SX
namespace Go.Proofs.YtiampehfpgcogaaGreatDoor
open Go Go.SX
attribute [local irreducible] swp opsS thenS blockS retS CallsS St Ent YieldS anyS drawS
structure QV where
 txn : Int
 a : Option Addr
 c : Nat
 l : List Int
abbrev QV.cells (v : QV) : List Value := [.int .u64 v.txn,.slice v.a v.l.length v.c]
abbrev QV.abs (v : QV) : Int × List Int := (v.txn,v.l)
abbrev dC (d : Int × Int) : List Value := [.int .u64 d.1,.int .u64 d.2]
structure RJOK (M : Nat → Option Obj) (j : JS) (sf : Int) (pa : Option Addr) (pc : Nat) (ps : List QV) (da : Option Addr) (dc : Nat) (ds : List (Int × Int)) : Prop where
 s1 : 1 ≤ sf
 s2 : sf ≤ 15
 pp : (ps.map QV.abs).Perm j.parts
 po : ∀ u ∈ ps,SlM M u.a u.l.length 1 (u.l.map I64)
 pS : SlM M pa ps.length 2 (ps.flatMap QV.cells)
 dp : ds.Perm j.done
 sd : (ds.map (·.1)).Pairwise (· < ·)
 dS : SlM M da ds.length 2 (ds.flatMap dC)
 dc : ds.length ≤ dc
 kp : keysOK j.parts
 kd : keysOK j.done
structure RJX where
 v : Nat
 self : Int
 pa : Option Addr
 pc : Nat
 ps : List QV
 da : Option Addr
 dc : Nat
 ds : List (Int × Int)
 M : Nat → Option Obj
section
variable {n : Nat} {ops rest : List Oper} {cd : Code} {Q : Post} {f : Env} {L L0 : List HP} {j : JS}
end
theorem lkL_at {α : Type} {ds : List (Int × α)} {k : Nat} {d : Int × α} (h : ds[k]? = some d) (hn : ∀ u ∈ ds.take k,u.1 ≠ d.1) : lkL ds d.1 = some d.2 := by
 have hl : k < ds.length := (List.getElem?_eq_some_iff.1 h).1
 have e : ds = ds.take k ++ d :: ds.drop (k + 1) := by
  have := List.getElem?_eq_some_iff.1 h
  rw [← this.2,List.getElem_cons_drop,List.take_append_drop]
 obtain ⟨x,y⟩ := d
 rw [e]
 exact lkL_mid (fun u hu => hn u hu)
def insD (ds : List (Int × Int)) (d : Int × Int) : List (Int × Int) := ds.filter (fun u => decide (u.1 < d.1)) ++ d :: ds.filter (fun u => decide (d.1 < u.1))
end Go.Proofs.YtiampehfpgcogaaGreatDoor
namespace Go.Proofs.YtiampehfpgcogaaGreatDoor
open Go Go.SX
attribute [local irreducible] swp opsS thenS blockS retS CallsS St Ent YieldS anyS drawS
set_option maxHeartbeats 2000000 in
theorem SameHitsN_spec (a : Option Addr) (c : Nat) (xs : List HV) (a' : Option Addr) (c' : Nat) (ys : List HV) (A : List HP) (h : RdS A a xs.length 3 (xs.flatMap HV.cells) ∧ ∀ o ∈ xs,RdS A o.a o.vec.length 1 (o.vec.map I32)) (h' : RdS A a' ys.length 3 (ys.flatMap HV.cells) ∧ ∀ o ∈ ys,RdS A o.a o.vec.length 1 (o.vec.map I32)) (hn : xs.length ≤ 1000000) (hv : ∀ o ∈ xs,o.vec.length ≤ 1000000) (he : xs.map HV.abs = ys.map HV.abs) :
  CallsS Tryz.prog 80 [.slice a xs.length c,.slice a' ys.length c'] A (fun v L' => v = .bool true ∧ L' = A) := by
 have hl : ys.length = xs.length := by
  have := congrArg List.length he
  simp at this;omega
 refine CallsS.of_body Tryz.func80 rfl rfl rfl ?_
 refine Q.r ?_;(repeat (intro b1;refine Q.r ?_))
 refine swp_loop (σ := Nat) (fun k => [(0,.slice a xs.length c),(1,.slice a' ys.length c'),(12,.int .i64 xs.length),(13,.int .i64 k)]) (fun _ => A)
  (fun k => k ≤ xs.length) (fun k => xs.length - k) 0 ⟨rfl,rfl,rfl,rfl,trivial⟩ (Ent.refl _) (by omega) ?_
 intro k hk
 by_cases hlt : k < xs.length
 ·obtain ⟨x,hx⟩ := mem_get hlt
  obtain ⟨y,hy⟩ := mem_get (l := ys) (k := k) (by omega)
  have hxy : x.abs = y.abs := by
   have h1 : (xs.map HV.abs)[k]? = some x.abs := by simp [hx]
   have h2 : (ys.map HV.abs)[k]? = some y.abs := by simp [hy]
   rw [he,h2] at h1
   exact (Option.some.inj h1).symm
  have hid : x.id = y.id := congrArg Prod.fst hxy
  have hds : x.dist = y.dist := congrArg (fun z => z.2.1) hxy
  have hvc : x.vec = y.vec := congrArg (fun z => z.2.2) hxy
  have hmx : x ∈ xs := List.mem_of_getElem? hx
  have hmy : y ∈ ys := List.mem_of_getElem? hy
  have hrx := h.2 x hmx
  have hry := h'.2 y hmy
  have hvx := hv x hmx
  obtain ⟨b,o,rfl,hr⟩ := RdS.elem (g := HV.cells) (l := xs) (fun _ => rfl) h.1 hx rfl
  obtain ⟨b',o',rfl,hr'⟩ := RdS.elem (g := HV.cells) (l := ys) (fun _ => rfl) h'.1 hy rfl
  clear hx hy hmx hmy hxy he
  obtain ⟨xi,xd,xa,xc,xv⟩ := x
  obtain ⟨yi,yd,ya,yc,yv⟩ := y
  dsimp only at hid hds hvc hrx hry hvx
  subst hid hds hvc
  replace hr : RdC A b (o + k * 3) [.int .u64 xi,.int .u64 xd,.slice xa xv.length xc] := hr
  replace hr' : RdC A b' (o' + k * 3) [.int .u64 xi,.int .u64 xd,.slice ya xv.length yc] := hr'
  refine Q.r ?_;(repeat (intro b1;refine Q.r ?_))
  refine D.start [35] [35] [0,1,2,3,4,5,6,7,8,9,10,11,12,13,14,15,16,17,18,19,20,21,22,23,24,25,26,27,28,29,30,31,32,33,34,35,36,37] _ [] rfl (by kernel_rfl) rfl (by kernel_rfl) NoPanic.no (Ent.refl _) ?_
  repeat (first | refine Q.dyn rfl rfl rfl ?_ | refine Q.dyl rfl rfl rfl ?_ | refine D.y rfl rfl rfl (by kernel_rfl) (by first | exact (Y.ldRj rfl (by first | assumption | exact RdC.sub (by assumption)) rfl) | exact Y.guard rfl (Y.ldRj rfl (by first | assumption | exact RdC.sub (by assumption)) rfl)) ?_ | refine D.endA ?_ | refine Q.dp rfl rfl rfl ?_ | refine Q.dy rfl rfl rfl ?_ | refine D.end_ ?_ | refine Q.endH ?_ | (refine D.e rfl rfl rfl ?_;(first | refine S.gskip1 rfl ?_ | refine S.gskip rfl ?_ | refine S.y (Y.gskipU rfl) ?_);refine opsS_nil ?_;refine N.tn ?_) | refine Q.dT rfl rfl rfl ?_ | refine Q.dF rfl rfl rfl ?_ | (refine D.e rfl rfl rfl ?_;(first | (refine GQ.a ?_;refine Q.al (fun b1 => ?_)) | (refine GQ.s ?_;refine Q.st ?_));refine opsS_nil ?_;refine N.tn ?_))
  refine Q.dF rfl rfl rfl ?_ (by simp)
  repeat (first | refine Q.dyn rfl rfl rfl ?_ | refine Q.dyl rfl rfl rfl ?_ | refine D.y rfl rfl rfl (by kernel_rfl) (by first | exact (Y.ldRj rfl (by first | assumption | exact RdC.sub (by assumption)) rfl) | exact Y.guard rfl (Y.ldRj rfl (by first | assumption | exact RdC.sub (by assumption)) rfl)) ?_ | refine D.endA ?_ | refine Q.dp rfl rfl rfl ?_ | refine Q.dy rfl rfl rfl ?_ | refine D.end_ ?_ | refine Q.endH ?_ | (refine D.e rfl rfl rfl ?_;(first | refine S.gskip1 rfl ?_ | refine S.gskip rfl ?_ | refine S.y (Y.gskipU rfl) ?_);refine opsS_nil ?_;refine N.tn ?_) | refine Q.dT rfl rfl rfl ?_ | refine Q.dF rfl rfl rfl ?_ | (refine D.e rfl rfl rfl ?_;(first | (refine GQ.a ?_;refine Q.al (fun b1 => ?_)) | (refine GQ.s ?_;refine Q.st ?_));refine opsS_nil ?_;refine N.tn ?_))
  refine Q.dF rfl rfl rfl ?_ (by simp)
  repeat (first | refine Q.dyn rfl rfl rfl ?_ | refine Q.dyl rfl rfl rfl ?_ | refine D.y rfl rfl rfl (by kernel_rfl) (by first | exact (Y.ldRj rfl (by first | assumption | exact RdC.sub (by assumption)) rfl) | exact Y.guard rfl (Y.ldRj rfl (by first | assumption | exact RdC.sub (by assumption)) rfl)) ?_ | refine D.endA ?_ | refine Q.dp rfl rfl rfl ?_ | refine Q.dy rfl rfl rfl ?_ | refine D.end_ ?_ | refine Q.endH ?_ | (refine D.e rfl rfl rfl ?_;(first | refine S.gskip1 rfl ?_ | refine S.gskip rfl ?_ | refine S.y (Y.gskipU rfl) ?_);refine opsS_nil ?_;refine N.tn ?_) | refine Q.dT rfl rfl rfl ?_ | refine Q.dF rfl rfl rfl ?_ | (refine D.e rfl rfl rfl ?_;(first | (refine GQ.a ?_;refine Q.al (fun b1 => ?_)) | (refine GQ.s ?_;refine Q.st ?_));refine opsS_nil ?_;refine N.tn ?_))
  refine Q.dc rfl rfl rfl rfl ?_
  rw [List.append_nil]
  refine S.guard rfl ?_
  refine S.cr rfl (SameVec_spec xa xc xv ya yc xv _ hrx.sub hry.sub (by omega)) ?_
  rintro _ _ ⟨rfl,he⟩
  rw [he]
  clear he
  refine Q.r ?_;(repeat (intro b1;refine Q.r ?_))
  repeat (first | refine Q.dyn rfl rfl rfl ?_ | refine Q.dyl rfl rfl rfl ?_ | refine D.y rfl rfl rfl (by kernel_rfl) (by first | exact (Y.ldRj rfl (by first | assumption | exact RdC.sub (by assumption)) rfl) | exact Y.guard rfl (Y.ldRj rfl (by first | assumption | exact RdC.sub (by assumption)) rfl)) ?_ | refine D.endA ?_ | refine Q.dp rfl rfl rfl ?_ | refine Q.dy rfl rfl rfl ?_ | refine D.end_ ?_ | refine Q.endH ?_ | (refine D.e rfl rfl rfl ?_;(first | refine S.gskip1 rfl ?_ | refine S.gskip rfl ?_ | refine S.y (Y.gskipU rfl) ?_);refine opsS_nil ?_;refine N.tn ?_) | refine Q.dT rfl rfl rfl ?_ | refine Q.dF rfl rfl rfl ?_ | (refine D.e rfl rfl rfl ?_;(first | (refine GQ.a ?_;refine Q.al (fun b1 => ?_)) | (refine GQ.s ?_;refine Q.st ?_));refine opsS_nil ?_;refine N.tn ?_))
  refine Q.r ?_;(repeat (intro b1;refine Q.r ?_))
  exact ⟨k + 1,⟨rfl,rfl,rfl,rfl,trivial⟩,Ent.refl _,by omega,by omega⟩
 ·have hke : k = xs.length := by omega
  subst hke
  refine Q.r ?_;(repeat (intro b1;refine Q.r ?_))
  exact N.r1 (RV.tmp rfl RV.nil) (Ent.refl _) ⟨rfl,rfl⟩
theorem okmap {α β : Type} {f : α → β} {xs ys : List α} (he : xs.map f = ys.map f) {k : Nat} {x y : α} (hx : xs[k]? = some x) (hy : ys[k]? = some y) : f x = f y := by
 have h1 : (xs.map f)[k]? = some (f x) := by simp [hx]
 have h2 : (ys.map f)[k]? = some (f y) := by simp [hy]
 rw [he,h2] at h1
 exact (Option.some.inj h1).symm
set_option maxHeartbeats 4000000 in
theorem Same12_spec (n m : NV) (A : List HP) (h : RdN A n) (h' : RdN A m) (hk : OkN n) (hk' : OkN m) (he : n.abs = m.abs) :
  CallsS Tryz.prog 27 [n.val,m.val] A (fun r L' => r = .bool true ∧ L' = A) := by
 obtain ⟨x0,x1,x2,x3,x4,x5,x6,x7,x8,x9,x10,x11,pa,pc,ps,oa,oc,os,va,vc,vs,ha,hc,hs⟩ := n
 obtain ⟨y0,y1,y2,y3,y4,y5,y6,y7,y8,y9,y10,y11,pa',pc',ps',oa',oc',os',va',vc',vs',ha',hc',hs'⟩ := m
 simp only [NA.mk.injEq] at he
 obtain ⟨rfl,rfl,rfl,rfl,rfl,rfl,rfl,rfl,rfl,rfl,rfl,rfl,rfl,ho,rfl,hh⟩ := he
 have p1 := hk.p
 dsimp only at p1
 refine CallsS.of_body Tryz.func27 rfl rfl rfl ?_
 refine Q.r ?_;(repeat (intro b1;refine Q.r ?_))
 rename_i b0
 refine swp_cutB (σ := Unit) (fun _ => [(2,.pointer (some ⟨b0,0,none⟩)),(3,.pointer (some ⟨b1,0,none⟩))])
  (fun _ => pt b1 (cl (NV.cells ⟨x0,x1,x2,x3,x4,x5,x6,x7,x8,x9,x10,x11,pa',pc',ps,oa',oc',os',va',vc',vs,ha',hc',hs'⟩) 39) :: pt b0 (cl (NV.cells ⟨x0,x1,x2,x3,x4,x5,x6,x7,x8,x9,x10,x11,pa,pc,ps,oa,oc,os,va,vc,vs,ha,hc,hs⟩) 39) :: A) (fun _ => True) ?_ ?_
 ·refine swp_loop (σ := Nat) (fun k => [(2,.pointer (some ⟨b0,0,none⟩)),(3,.pointer (some ⟨b1,0,none⟩)),(99,.int .i64 ps.length),(100,.int .i64 k)])
   (fun _ => pt b1 (cl (NV.cells ⟨x0,x1,x2,x3,x4,x5,x6,x7,x8,x9,x10,x11,pa',pc',ps,oa',oc',os',va',vc',vs,ha',hc',hs'⟩) 39) :: pt b0 (cl (NV.cells ⟨x0,x1,x2,x3,x4,x5,x6,x7,x8,x9,x10,x11,pa,pc,ps,oa,oc,os,va,vc,vs,ha,hc,hs⟩) 39) :: A)
   (fun k => k ≤ ps.length) (fun k => ps.length - k) 0 ⟨rfl,rfl,rfl,rfl,trivial⟩ (Ent.refl _) (by omega) ?_
  intro k hk1
  by_cases hlt : k < ps.length
  ·obtain ⟨p,hp⟩ := mem_get hlt
   have hp1 : RdS A pa ps.length 1 (ps.map I64) := h.p
   have hp2 : RdS A pa' ps.length 1 (ps.map I64) := h'.p
   obtain ⟨bp,op,hpa,hr⟩ := RdS.elem (g := fun z => [I64 z]) (fun _ => rfl) (by rw [flat_I64];exact hp1) hp rfl
   obtain ⟨bq,oq,hqa,hr2⟩ := RdS.elem (g := fun z => [I64 z]) (fun _ => rfl) (by rw [flat_I64];exact hp2) hp rfl
   clear hp1 hp2
   subst hpa hqa
   refine Q.r ?_;(repeat (intro b1;refine Q.r ?_))
   refine D.start [] [] [0,1,2,3,4,5,6,7,8,9,10] _ [] rfl (by kernel_rfl) rfl (by kernel_rfl) NoPanic.no (Ent.refl _) ?_
   repeat (first | refine Q.dyn rfl rfl rfl ?_ | refine Q.dyl rfl rfl rfl ?_ | refine D.y rfl rfl rfl (by kernel_rfl) (by first | exact (Y.ldRj rfl (by first | assumption | exact RdC.sub (by assumption)) rfl) | exact Y.guard rfl (Y.ldRj rfl (by first | assumption | exact RdC.sub (by assumption)) rfl)) ?_ | refine D.endA ?_ | refine Q.dp rfl rfl rfl ?_ | refine Q.dy rfl rfl rfl ?_ | refine D.end_ ?_ | refine Q.endH ?_ | (refine D.e rfl rfl rfl ?_;(first | refine S.gskip1 rfl ?_ | refine S.gskip rfl ?_ | refine S.y (Y.gskipU rfl) ?_);refine opsS_nil ?_;refine N.tn ?_) | refine Q.dT rfl rfl rfl ?_ | refine Q.dF rfl rfl rfl ?_ | (refine D.e rfl rfl rfl ?_;(first | (refine GQ.a ?_;refine Q.al (fun b1 => ?_)) | (refine GQ.s ?_;refine Q.st ?_));refine opsS_nil ?_;refine N.tn ?_))
   refine Q.r ?_;(repeat (intro b1;refine Q.r ?_))
   exact ⟨k + 1,⟨rfl,rfl,rfl,rfl,trivial⟩,Ent.refl _,by omega,by omega⟩
  ·have hke : k = ps.length := by omega
   subst hke
   refine Q.r ?_;(repeat (intro b1;refine Q.r ?_))
   exact ⟨(),⟨rfl,rfl,trivial⟩,Ent.refl _,trivial⟩
 ·rintro _ _
  refine Q.r ?_;(repeat (intro b1;refine Q.r ?_))
  refine S.cr rfl (SameOps_spec oa oc os oa' oc' os' _ (RdO.sub h.o) (RdO.sub h'.o) hk.o hk.ov ho) ?_
  rintro _ _ ⟨rfl,rfl⟩
  refine Q.r ?_;(repeat (intro b1;refine Q.r ?_))
  refine S.cr rfl (SameVec_spec va vc vs va' vc' vs _ (RdS.sub h.v) (RdS.sub h'.v) (by have := hk.v;dsimp only at this;omega)) ?_
  rintro _ _ ⟨rfl,rfl⟩
  rw [decide_eq_true rfl]
  refine Q.r ?_;(repeat (intro b1;refine Q.r ?_))
  refine S.cr rfl (SameHitsN_spec ha hc hs ha' hc' hs' _ ⟨RdS.sub h.h,fun o ho => RdS.sub (h.hv o ho)⟩ ⟨RdS.sub h'.h,fun o ho => RdS.sub (h'.hv o ho)⟩ hk.h hk.hv hh) ?_
  rintro _ _ ⟨rfl,rfl⟩
  refine Q.r ?_;(repeat (intro b1;refine Q.r ?_))
  exact N.r1 (RV.tmp rfl RV.nil) (Ent.drop (Ent.drop (Ent.refl _))) ⟨rfl,rfl⟩
abbrev mcells (m : Int × NV) : List Value := I64 m.1 :: m.2.cells
end Go.Proofs.YtiampehfpgcogaaGreatDoor
namespace Go.SX
open Go
section
variable {P : Program} {n : Nat} {ops rest : List Oper} {cd : Code} {Q : Post} {f : Env} {L L0 L1 L2 : List HP} {d : Tmp} {ty : TypeId} {pos : String} {af : Array Edge} {A B C : HP} {g : FuncId} {xs : Array Operand} {ats : Array TypeId} {args : List Value} {R : Value → List HP → Prop}
theorem S.c1 [he : Enters P g] (hx : argsL f xs.toList = some args) (hc : CallsS P g args (A :: L0) R) [h1 : Pick A L L0] (hk : ∀ v L',R v L' → opsS P n ops rest Q (upd f d v) L') :
  opsS P n ops (⟨some d,.call ⟨.value (.func g),xs,ats⟩,ty,pos,af,none⟩ :: rest) Q f L := opsS_ent h1.ent (S.cr hx hc hk)
theorem S.c2 [he : Enters P g] (hx : argsL f xs.toList = some args) (hc : CallsS P g args (A :: B :: L1) R) [h1 : Pick A L L0] [h2 : Pick B L0 L1] (hk : ∀ v L',R v L' → opsS P n ops rest Q (upd f d v) L') :
  opsS P n ops (⟨some d,.call ⟨.value (.func g),xs,ats⟩,ty,pos,af,none⟩ :: rest) Q f L := opsS_ent (h1.ent.trans h2.ent.cons) (S.cr hx hc hk)
theorem S.c3 [he : Enters P g] (hx : argsL f xs.toList = some args) (hc : CallsS P g args (A :: B :: C :: L2) R) [h1 : Pick A L L0] [h2 : Pick B L0 L1] [h3 : Pick C L1 L2] (hk : ∀ v L',R v L' → opsS P n ops rest Q (upd f d v) L') :
  opsS P n ops (⟨some d,.call ⟨.value (.func g),xs,ats⟩,ty,pos,af,none⟩ :: rest) Q f L := opsS_ent (h1.ent.trans (h2.ent.trans h3.ent.cons).cons) (S.cr hx hc hk)
end
end Go.SX
namespace Go.Proofs.YtiampehfpgcogaaGreatDoor
open Go Go.SX
attribute [local irreducible] swp opsS thenS blockS retS CallsS St Ent YieldS anyS drawS
def liftQ (n : NV) (r : NA) : NV := if r.kind = 12 then ⟨12,n.txn,0,0,n.after,0,0,0,0,0,0,0,n.pa,n.pc,n.parts,n.oa,n.oc,n.ops,none,0,[],none,0,[]⟩ else r.nv
section
variable {n : Nat} {ops rest : List Oper} {cd : Code} {Q : Post} {f : Env} {L L0 : List HP}
end
theorem putL_perm {α : Type} {m : List (Int × α)} (h : keysOK m) (t : Int) (a : α) : (delL m t ++ [(t,a)]).Perm (putL m t a) := by
 rcases keyCase m h t with ⟨p,b,q,rfl,hp,hq⟩ | hn
 ·rw [putL_mid hp hq]
  have e : delL (p ++ (t,b) :: q) t = p ++ q := by
   unfold delL
   rw [List.filter_append,List.filter_eq_self.2 (fun u hu => by simpa using hp u hu),List.filter_cons,if_neg (by simp),List.filter_eq_self.2 (fun u hu => by simpa using hq u hu)]
  rw [e,List.append_assoc]
  exact List.Perm.append_left p List.perm_append_comm
 ·rw [putL_none hn,delL_none hn]
theorem insD_perm {ds done : List (Int × Int)} (hp : ds.Perm done) (hk : keysOK done) (d : Int × Int) : (insD ds d).Perm (putL done d.1 d.2) := by
 refine List.Perm.trans ?_ (putL_perm hk d.1 d.2)
 have h1 : (delL ds d.1).Perm (delL done d.1) := hp.filter _
 refine List.Perm.trans ?_ (h1.append_right _)
 unfold insD
 refine List.Perm.trans List.perm_middle ?_
 refine List.Perm.trans ?_ (List.perm_append_comm (l₁ := [(d.1,d.2)]))
 refine List.Perm.cons _ ?_
 have h2 : delL ds d.1 = ds.filter fun u => decide (u.1 < d.1) || decide (d.1 < u.1) := by
  unfold delL
  refine List.filter_congr fun u _ => ?_
  by_cases h : u.1 = d.1
  ·simp [h]
  ·simp [h];omega
 rw [h2]
 clear h1 h2 hp
 induction ds with
 | nil => simp
 | cons u ds ih =>
  rw [List.filter_cons,List.filter_cons,List.filter_cons]
  by_cases h : u.1 < d.1
  ·have h3 : ¬ d.1 < u.1 := by omega
   simp only [h,h3,decide_true,decide_false,Bool.true_or,if_true,List.cons_append]
   exact List.Perm.cons _ ih
  ·by_cases h3 : d.1 < u.1
   ·simp only [h,h3,decide_true,decide_false,Bool.or_true,if_true]
    exact List.Perm.trans List.perm_middle (List.Perm.cons _ ih)
   ·simp only [h,h3,decide_false,Bool.or_false,if_false]
    exact ih
theorem insD_sorted {ds : List (Int × Int)} (hs : (ds.map (·.1)).Pairwise (· < ·)) (d : Int × Int) : ((insD ds d).map (·.1)).Pairwise (· < ·) := by
 unfold insD
 rw [List.map_append,List.map_cons,List.pairwise_append]
 refine ⟨pw_filter (key := fun u : Int × Int => u.1) hs _,?_,?_⟩
 ·rw [List.pairwise_cons]
  refine ⟨fun x hx => ?_,pw_filter (key := fun u : Int × Int => u.1) hs _⟩
  obtain ⟨u,hu,rfl⟩ := List.mem_map.1 hx
  simpa using (List.mem_filter.1 hu).2
 ·intro x hx y hy
  obtain ⟨u,hu,rfl⟩ := List.mem_map.1 hx
  have h1 : u.1 < d.1 := by simpa using (List.mem_filter.1 hu).2
  rcases List.mem_cons.1 hy with rfl | hy
  ·exact h1
  ·obtain ⟨w,hw,rfl⟩ := List.mem_map.1 hy
   have h2 : d.1 < w.1 := by simpa using (List.mem_filter.1 hw).2
   omega
theorem RJOK.same {M : Nat → Option Obj} {j j' : JS} {sf : Int} {pa : Option Addr} {pc : Nat} {ps : List QV} {da : Option Addr} {dc : Nat} {ds : List (Int × Int)} (h : RJOK M j sf pa pc ps da dc ds) (hj : j'.parts = j.parts) (hd : j'.done = j.done) : RJOK M j' sf pa pc ps da dc ds :=
 ⟨h.s1,h.s2,hj ▸ h.pp,h.po,h.pS,hd ▸ h.dp,h.sd,h.dS,h.dc,hj ▸ h.kp,hd ▸ h.kd⟩
def RdNs (A : List HP) (a : Option Addr) (xs : List NV) : Prop := RdS A a xs.length 16 (xs.flatMap NV.cells) ∧ ∀ n ∈ xs,RdN A n ∧ OkN n
def RdMs (A : List HP) (a : Option Addr) (xs : List (Int × NV)) : Prop := RdS A a xs.length 17 (xs.flatMap mcells) ∧ ∀ n ∈ xs,RdN A n.2 ∧ OkN n.2
theorem RdNs.sub {A L : List HP} {a : Option Addr} {xs : List NV} (h : RdNs A a xs) [s : Sub A L] : RdNs L a xs := ⟨h.1.sub,fun n hn => ⟨(h.2 n hn).1.sub,(h.2 n hn).2⟩⟩
theorem RdMs.sub {A L : List HP} {a : Option Addr} {xs : List (Int × NV)} (h : RdMs A a xs) [s : Sub A L] : RdMs L a xs := ⟨h.1.sub,fun n hn => ⟨(h.2 n hn).1.sub,(h.2 n hn).2⟩⟩
set_option maxHeartbeats 1000000 in
theorem SameAll_spec (a : Option Addr) (c : Nat) (xs : List NV) (a' : Option Addr) (c' : Nat) (ys : List NV) (A : List HP) (h : RdNs A a xs) (h' : RdNs A a' ys) (hn : xs.length ≤ 1000000) (he : xs.map NV.abs = ys.map NV.abs) :
  CallsS Tryz.prog 84 [.slice a xs.length c,.slice a' ys.length c'] A (fun v L' => v = .bool true ∧ L' = A) := by
 have hl : ys.length = xs.length := by
  have := congrArg List.length he
  simp at this;omega
 refine CallsS.of_body Tryz.func84 rfl rfl rfl ?_
 refine Q.r ?_;(repeat (intro b1;refine Q.r ?_))
 refine swp_loop (σ := Nat) (fun k => [(0,.slice a xs.length c),(1,.slice a' ys.length c'),(12,.int .i64 xs.length),(13,.int .i64 k)]) (fun _ => A)
  (fun k => k ≤ xs.length) (fun k => xs.length - k) 0 ⟨rfl,rfl,rfl,rfl,trivial⟩ (Ent.refl _) (by omega) ?_
 intro k hk
 by_cases hlt : k < xs.length
 ·obtain ⟨x,hx⟩ := mem_get hlt
  obtain ⟨y,hy⟩ := mem_get (l := ys) (k := k) (by omega)
  have hxy := okmap he hx hy
  have hrx := h.2 x (List.mem_of_getElem? hx)
  have hry := h'.2 y (List.mem_of_getElem? hy)
  obtain ⟨b,o,rfl,hr⟩ := RdS.elem (g := NV.cells) (l := xs) (fun _ => rfl) h.1 hx rfl
  obtain ⟨b',o',rfl,hr'⟩ := RdS.elem (g := NV.cells) (l := ys) (fun _ => rfl) h'.1 hy rfl
  clear hx hy he
  refine Q.r ?_;(repeat (intro b1;refine Q.r ?_))
  refine D.start [8] [8] [0,1,2,3,4,5,6,7,8,9] _ [] rfl (by kernel_rfl) rfl (by kernel_rfl) NoPanic.no (Ent.refl _) ?_
  repeat (first | refine Q.dyn rfl rfl rfl ?_ | refine Q.dyl rfl rfl rfl ?_ | refine D.y rfl rfl rfl (by kernel_rfl) (by first | exact (Y.ldRj rfl (by first | assumption | exact RdC.sub (by assumption)) rfl) | exact Y.guard rfl (Y.ldRj rfl (by first | assumption | exact RdC.sub (by assumption)) rfl)) ?_ | refine D.endA ?_ | refine Q.dp rfl rfl rfl ?_ | refine Q.dy rfl rfl rfl ?_ | refine D.end_ ?_ | refine Q.endH ?_ | (refine D.e rfl rfl rfl ?_;(first | refine S.gskip1 rfl ?_ | refine S.gskip rfl ?_ | refine S.y (Y.gskipU rfl) ?_);refine opsS_nil ?_;refine N.tn ?_) | refine Q.dT rfl rfl rfl ?_ | refine Q.dF rfl rfl rfl ?_ | (refine D.e rfl rfl rfl ?_;(first | (refine GQ.a ?_;refine Q.al (fun b1 => ?_)) | (refine GQ.s ?_;refine Q.st ?_));refine opsS_nil ?_;refine N.tn ?_))
  refine Q.dc rfl rfl rfl rfl ?_
  rw [List.append_nil]
  refine S.cr (args := [x.val,y.val]) rfl (Same12_spec x y _ hrx.1 hry.1 hrx.2 hry.2 hxy) ?_
  rintro _ _ ⟨rfl,he⟩
  rw [he]
  clear he
  refine Q.r ?_;(repeat (intro b1;refine Q.r ?_))
  repeat (first | refine Q.dyn rfl rfl rfl ?_ | refine Q.dyl rfl rfl rfl ?_ | refine D.y rfl rfl rfl (by kernel_rfl) (by first | exact (Y.ldRj rfl (by first | assumption | exact RdC.sub (by assumption)) rfl) | exact Y.guard rfl (Y.ldRj rfl (by first | assumption | exact RdC.sub (by assumption)) rfl)) ?_ | refine D.endA ?_ | refine Q.dp rfl rfl rfl ?_ | refine Q.dy rfl rfl rfl ?_ | refine D.end_ ?_ | refine Q.endH ?_ | (refine D.e rfl rfl rfl ?_;(first | refine S.gskip1 rfl ?_ | refine S.gskip rfl ?_ | refine S.y (Y.gskipU rfl) ?_);refine opsS_nil ?_;refine N.tn ?_) | refine Q.dT rfl rfl rfl ?_ | refine Q.dF rfl rfl rfl ?_ | (refine D.e rfl rfl rfl ?_;(first | (refine GQ.a ?_;refine Q.al (fun b1 => ?_)) | (refine GQ.s ?_;refine Q.st ?_));refine opsS_nil ?_;refine N.tn ?_))
  refine Q.r ?_;(repeat (intro b1;refine Q.r ?_))
  exact ⟨k + 1,⟨rfl,rfl,rfl,rfl,trivial⟩,Ent.refl _,by omega,by omega⟩
 ·have hke : k = xs.length := by omega
  subst hke
  refine Q.r ?_;(repeat (intro b1;refine Q.r ?_))
  exact N.r1 (RV.tmp rfl RV.nil) (Ent.refl _) ⟨rfl,rfl⟩
set_option maxHeartbeats 1000000 in
theorem SameMail_spec (a : Option Addr) (c : Nat) (xs : List (Int × NV)) (a' : Option Addr) (c' : Nat) (ys : List (Int × NV)) (A : List HP) (h : RdMs A a xs) (h' : RdMs A a' ys) (hn : xs.length ≤ 1000000) (he : xs.map (fun m => (m.1,m.2.abs)) = ys.map (fun m => (m.1,m.2.abs))) :
  CallsS Tryz.prog 54 [.slice a xs.length c,.slice a' ys.length c'] A (fun v L' => v = .bool true ∧ L' = A) := by
 have hl : ys.length = xs.length := by
  have := congrArg List.length he
  simp at this;omega
 refine CallsS.of_body Tryz.func54 rfl rfl rfl ?_
 refine Q.r ?_;(repeat (intro b1;refine Q.r ?_))
 refine swp_loop (σ := Nat) (fun k => [(0,.slice a xs.length c),(1,.slice a' ys.length c'),(12,.int .i64 xs.length),(13,.int .i64 k)]) (fun _ => A)
  (fun k => k ≤ xs.length) (fun k => xs.length - k) 0 ⟨rfl,rfl,rfl,rfl,trivial⟩ (Ent.refl _) (by omega) ?_
 intro k hk
 by_cases hlt : k < xs.length
 ·obtain ⟨x,hx⟩ := mem_get hlt
  obtain ⟨y,hy⟩ := mem_get (l := ys) (k := k) (by omega)
  have hxy := okmap he hx hy
  have hrx := h.2 x (List.mem_of_getElem? hx)
  have hry := h'.2 y (List.mem_of_getElem? hy)
  obtain ⟨b,o,rfl,hr⟩ := RdS.elem (g := mcells) (l := xs) (fun _ => rfl) h.1 hx rfl
  obtain ⟨b',o',rfl,hr'⟩ := RdS.elem (g := mcells) (l := ys) (fun _ => rfl) h'.1 hy rfl
  clear hx hy he
  obtain ⟨x1,x2⟩ := x
  obtain ⟨y1,y2⟩ := y
  dsimp only at hrx hry hxy
  obtain ⟨hx1,hx2⟩ := Prod.mk.inj hxy
  subst hx1
  have ht : RdC A b (o + k * 17 + 1) x2.cells := hr.tail
  have ht' : RdC A b' (o' + k * 17 + 1) y2.cells := hr'.tail
  have hh : RdC A b (o + k * 17) [I64 x1] := hr.head
  have hh' : RdC A b' (o' + k * 17) [I64 x1] := hr'.head
  clear hr hr'
  refine Q.r ?_;(repeat (intro b1;refine Q.r ?_))
  refine D.start [22] [22] [0,1,2,3,4,5,6,7,8,9,10,11,12,13,14,15,16,17,18,19,20,21,22,23,24] _ [] rfl (by kernel_rfl) rfl (by kernel_rfl) NoPanic.no (Ent.refl _) ?_
  repeat (first | refine Q.dyn rfl rfl rfl ?_ | refine Q.dyl rfl rfl rfl ?_ | refine D.y rfl rfl rfl (by kernel_rfl) (by first | exact (Y.ldRj rfl (by first | assumption | exact RdC.sub (by assumption)) rfl) | exact Y.guard rfl (Y.ldRj rfl (by first | assumption | exact RdC.sub (by assumption)) rfl)) ?_ | refine D.endA ?_ | refine Q.dp rfl rfl rfl ?_ | refine Q.dy rfl rfl rfl ?_ | refine D.end_ ?_ | refine Q.endH ?_ | (refine D.e rfl rfl rfl ?_;(first | refine S.gskip1 rfl ?_ | refine S.gskip rfl ?_ | refine S.y (Y.gskipU rfl) ?_);refine opsS_nil ?_;refine N.tn ?_) | refine Q.dT rfl rfl rfl ?_ | refine Q.dF rfl rfl rfl ?_ | (refine D.e rfl rfl rfl ?_;(first | (refine GQ.a ?_;refine Q.al (fun b1 => ?_)) | (refine GQ.s ?_;refine Q.st ?_));refine opsS_nil ?_;refine N.tn ?_))
  refine Q.dF rfl rfl rfl ?_ (by simp)
  repeat (first | refine Q.dyn rfl rfl rfl ?_ | refine Q.dyl rfl rfl rfl ?_ | refine D.y rfl rfl rfl (by kernel_rfl) (by first | exact (Y.ldRj rfl (by first | assumption | exact RdC.sub (by assumption)) rfl) | exact Y.guard rfl (Y.ldRj rfl (by first | assumption | exact RdC.sub (by assumption)) rfl)) ?_ | refine D.endA ?_ | refine Q.dp rfl rfl rfl ?_ | refine Q.dy rfl rfl rfl ?_ | refine D.end_ ?_ | refine Q.endH ?_ | (refine D.e rfl rfl rfl ?_;(first | refine S.gskip1 rfl ?_ | refine S.gskip rfl ?_ | refine S.y (Y.gskipU rfl) ?_);refine opsS_nil ?_;refine N.tn ?_) | refine Q.dT rfl rfl rfl ?_ | refine Q.dF rfl rfl rfl ?_ | (refine D.e rfl rfl rfl ?_;(first | (refine GQ.a ?_;refine Q.al (fun b1 => ?_)) | (refine GQ.s ?_;refine Q.st ?_));refine opsS_nil ?_;refine N.tn ?_))
  refine Q.dc rfl rfl rfl rfl ?_
  rw [List.append_nil]
  refine S.guard rfl ?_
  refine S.cr (args := [x2.val,y2.val]) rfl (Same12_spec x2 y2 _ hrx.1 hry.1 hrx.2 hry.2 hx2) ?_
  rintro _ _ ⟨rfl,he⟩
  rw [he]
  clear he
  refine Q.r ?_;(repeat (intro b1;refine Q.r ?_))
  repeat (first | refine Q.dyn rfl rfl rfl ?_ | refine Q.dyl rfl rfl rfl ?_ | refine D.y rfl rfl rfl (by kernel_rfl) (by first | exact (Y.ldRj rfl (by first | assumption | exact RdC.sub (by assumption)) rfl) | exact Y.guard rfl (Y.ldRj rfl (by first | assumption | exact RdC.sub (by assumption)) rfl)) ?_ | refine D.endA ?_ | refine Q.dp rfl rfl rfl ?_ | refine Q.dy rfl rfl rfl ?_ | refine D.end_ ?_ | refine Q.endH ?_ | (refine D.e rfl rfl rfl ?_;(first | refine S.gskip1 rfl ?_ | refine S.gskip rfl ?_ | refine S.y (Y.gskipU rfl) ?_);refine opsS_nil ?_;refine N.tn ?_) | refine Q.dT rfl rfl rfl ?_ | refine Q.dF rfl rfl rfl ?_ | (refine D.e rfl rfl rfl ?_;(first | (refine GQ.a ?_;refine Q.al (fun b1 => ?_)) | (refine GQ.s ?_;refine Q.st ?_));refine opsS_nil ?_;refine N.tn ?_))
  refine Q.r ?_;(repeat (intro b1;refine Q.r ?_))
  exact ⟨k + 1,⟨rfl,rfl,rfl,rfl,trivial⟩,Ent.refl _,by omega,by omega⟩
 ·have hke : k = xs.length := by omega
  subst hke
  refine Q.r ?_;(repeat (intro b1;refine Q.r ?_))
  exact N.r1 (RV.tmp rfl RV.nil) (Ent.refl _) ⟨rfl,rfl⟩
structure EO where
 fr : Int
 n : NV
 w : Bool
 r : Bool
 ask : Int
 id : Int
abbrev EO.cells (o : EO) : List Value := [.int .i64 o.fr,.int .u8 o.n.kind,.int .u64 o.n.txn,.int .u64 o.n.batch,.int .u64 o.n.stamp,.int .u64 o.n.after,.int .u64 o.n.mark,.int .u64 o.n.query,.int .u64 o.n.id,.int .i64 o.n.k,.int .i64 o.n.ef,.int .i64 o.n.code,.int .i64 o.n.who,
 .slice o.n.pa o.n.parts.length o.n.pc,.slice o.n.oa o.n.ops.length o.n.oc,.slice o.n.va o.n.vec.length o.n.vc,.slice o.n.ha o.n.hits.length o.n.hc,.bool o.w,.bool o.r,.int .u64 o.ask,.int .u64 o.id]
structure EOK (M : Nat → Option Obj) (o : EO) : Prop where
 n : okN M o.n
 c : CapN o.n
 u : NumN o.n
 uu : NumA o.n.abs
theorem EOK.mono {M M' : Nat → Option Obj} {o : EO} (h : EOK M o) (hl : leM M M') : EOK M' o := ⟨h.n.mono hl,h.c,h.u,h.uu⟩
theorem NumN.few {n' : NV} {n : NV} (h : NumN n) (e : n'.abs = n.abs.few) : NumN n' := by
 have e1 : n'.kind = n.kind := congrArg NA.kind e
 have e2 : n'.txn = n.txn := congrArg NA.txn e
 have e3 : n'.stamp = n.stamp := congrArg NA.stamp e
 have e4 : n'.mark = n.mark := congrArg NA.mark e
 have e5 : n'.after = n.after := congrArg NA.after e
 exact ⟨by rw [e1];exact h.kind,by rw [e2];exact h.txn,by rw [e3];exact h.stamp,by rw [e4];exact h.mark,by rw [e5];exact h.after⟩
section
variable {n : Nat} {ops rest : List Oper} {Q : Post} {f : Env} {L L0 : List HP} {M : Nat → Option Obj}
end
structure OnceI (j : JS) (k : Nat) (P : List (Int × Bool)) : Prop where
 ok : JOK j k
 kP : keysOK P
 pr : ∀ t,(lkL j.v.its t).isSome = true → lkL P t = some true
structure S5 where
 b9 : Nat
 b10 : Nat
 ra : Option Addr
 rc : Nat
 ma : Option Addr
 mc : Nat
 ea : Option Addr
 ec : Nat
 qa : Option Addr
 qc : Nat
 qb : Option Addr
 qd : Nat
 qe : Option Addr
 qf : Nat
 M : Nat → Option Obj
theorem NumA.few {n' : NV} {n : NV} (h : NumA n.abs) (e : n'.abs = n.abs.few) : NumA n'.abs := by
 rw [e];exact ⟨h.kind,h.txn,h.batch,h.stamp,h.after,h.mark,h.query,h.id,h.k,h.ef,h.code,h.who⟩
structure RecOK (n2 n1 : NV) (r : NA) : Prop where
 e1 : (liftN n2 r).abs = r
 e2 : (liftQ n1 r).abs = r
 n2 : NumN (liftN n2 r)
 u1 : NumA (liftQ n1 r).abs
theorem okN.lift {M : Nat → Option Obj} {n : NV} (h : okN M n) (r : NA) : okN M (liftN n r) := by
 unfold liftN
 split
 ·exact ⟨h.p,h.o,h.v,h.h,h.hv⟩
 ·exact okN.nv r
theorem OkN.lift {n : NV} (h : OkN n) (r : NA) : OkN (liftN n r) := by
 unfold liftN
 split
 ·exact ⟨h.p,h.o,h.ov,h.v,h.h,h.hv⟩
 ·exact OkN.nv r
theorem okN.liftQ {M : Nat → Option Obj} {n : NV} (h : okN M n) (r : NA) : okN M (liftQ n r) := by
 unfold Go.Proofs.YtiampehfpgcogaaGreatDoor.liftQ
 split
 ·exact ⟨h.p,h.o,SlM.nil0,SlM.nil0,fun o ho => by cases ho⟩
 ·exact okN.nv r
theorem OkN.liftQ {n : NV} (h : OkN n) (r : NA) : OkN (liftQ n r) := by
 unfold Go.Proofs.YtiampehfpgcogaaGreatDoor.liftQ
 split
 ·exact ⟨h.p,h.o,h.ov,Nat.zero_le _,Nat.zero_le _,fun o ho => by cases ho⟩
 ·exact OkN.nv r
theorem JOW.zero {dim : Int} (h1 : 1 ≤ dim) (h2 : dim ≤ 8) : JOW ⟨⟨dim,[],[],0⟩,[],[]⟩ 0 :=
 ⟨⟨⟨h1,h2,Nat.le_refl _,(fun i hi => by cases hi),Nat.le_refl _,(fun c hc => by cases hc)⟩,by simp [keysOK],by simp [keysOK]⟩,by simp [keysOK],by simp [keysOK],(fun t s h => by cases h),Int.le_refl _,(fun c hc => by cases hc),(fun i hi => by cases hi),Nat.le_refl _,Nat.le_refl _⟩
end Go.Proofs.YtiampehfpgcogaaGreatDoor
namespace Go.Proofs.YtiampehfpgcogaaGreatDoor
open Go Go.SX
attribute [local irreducible] swp opsS thenS blockS retS CallsS St Ent YieldS anyS drawS
attribute [local irreducible] opsI
theorem KeysU_spec {α : Type} (rr : α → Value) (bm b : Nat) (m : List (Int × α)) (A : List HP) : SeqS Tryz.prog 107 [.pointer (some ⟨bm,0,none⟩)] U64 m.length (fun ks => ks.Perm (m.map (·.1)))
  (pt bm (cl [.map (some b)] 79) :: mpO U64 rr b m :: A) (mpO U64 rr b m :: A) := by
 intro l J hJ
 refine CallsS.of_body Tryz.func107 rfl rfl rfl ?_
 refine Q.r ?_;(repeat (intro b1;refine Q.r ?_))
 refine S.rg rfl (fun r => ?_)
 refine Q.r ?_;(repeat (intro b1;refine Q.r ?_))
 refine swp_loop (σ := List Nat) (fun vis => [(0,.func (.yield l) #[] #[]),(5,.pointer (some ⟨r,0,none⟩))])
  (fun vis => J (vis.filterMap fun i => (m[i]?).map (·.1)) :: itO U64 rr b r m vis :: A) (fun vis => vis.Nodup ∧ ∀ i ∈ vis,i < m.length) (fun vis => m.length - vis.length) [] ⟨rfl,rfl,trivial⟩ (by simp only [List.filterMap_nil];exact Go.SX.Ent.go) ⟨by simp,by simp⟩ ?_
 rintro vis ⟨hv1,hv2⟩
 refine Q.r ?_;(repeat (intro b1;refine Q.r ?_))
 refine S.nx rfl (fun hend => ?_) (fun i p hp hi => ?_)
 ·refine Q.r ?_;(repeat (intro b1;refine Q.r ?_))
  exact N.n0 RV.nil (Ent.cons itO_map) ⟨_,vis_map _ hv1 hv2 hend,rfl⟩
 ·have hil : i < m.length := (List.getElem?_eq_some_iff.1 hp).1
  obtain ⟨hm1,hm2,hm3⟩ := vis_more hv1 hv2 hil hi
  have hvl : (vis.filterMap fun i => (m[i]?).map (·.1)).length ≤ vis.length := List.length_filterMap_le _ _
  have happ : ((vis ++ [i]).filterMap fun i => (m[i]?).map (·.1)) = (vis.filterMap fun i => (m[i]?).map (·.1)) ++ [p.1] := by
   rw [List.filterMap_append];simp [hp]
  refine Q.r ?_;(repeat (intro b1;refine Q.r ?_))
  refine S.y (Y.en rfl hp) ?_
  refine S.y (Y.ext rfl rfl) ?_
  refine S.y (Y.as rfl) ?_
  refine opsS_nil ?_
  refine N.tn ?_
  refine swp_seq ?_
  refine swp_regionI ?_
  refine opsI_one (fun _ h => by cases h) rfl ?_
  refine Q.r ?_;(repeat (intro b1;refine Q.r ?_))
  refine opsI_one (fun _ h => by cases h) rfl ?_
  refine Q.r ?_;(repeat (intro b1;refine Q.r ?_))
  refine opsI_yield rfl rfl ((hJ _ p.1 (by omega)).frame (R := _)) ?_
  refine opsI_one (fun _ h => by cases h) rfl ?_
  refine Q.r ?_;(repeat (intro b1;refine Q.r ?_))
  refine opsI_nil ?_
  refine Q.r ?_;(repeat (intro b1;refine Q.r ?_))
  refine ⟨vis ++ [i],⟨rfl,rfl,trivial⟩,?_,⟨hm1,hm2⟩,by simp;omega⟩
  rw [happ]
  exact Go.SX.Ent.go
theorem MapKeysU_spec (mo : Option Nat) (L : List HP) : CallsS Tryz.prog 63 [.map mo] L
  (fun v L' => ∃ bm,v = .func (.func 107) #[] [.pointer (some ⟨bm,0,none⟩)].toArray ∧ L' = pt bm (cl [.map mo] 79) :: L) := by
 refine CallsS.of_body Tryz.func63 rfl rfl rfl ?_
 refine Q.r ?_;(repeat (intro b1;refine Q.r ?_))
 refine S.y (Y.mf rfl rfl) ?_
 refine Q.r ?_;(repeat (intro b1;refine Q.r ?_))
 exact N.r1 (RV.tmp rfl RV.nil) (Ent.refl _) ⟨_,rfl,rfl⟩
def srtM {α : Type} (m : List (Int × α)) : List (Int × α) := (sortL (m.map (·.1))).filterMap fun k => (lkL m k).map fun a => (k,a)
abbrev packVer (v : Int × List Int) : List UInt8 := numI v.1 ++ vecI v.2
abbrev packEnt (e : Int × VL) : List UInt8 := numI e.1 ++ numI (e.2.length : Int) ++ e.2.flatMap packVer
abbrev packPart (x : Int) : List UInt8 := numI (IntKind.u64.wrap x)
abbrev packInt (parts : List (Int × List Int)) (i : Int × Int × VL) : List UInt8 := numI i.1 ++ numI i.2.1 ++ numI (((lkL parts i.1).getD []).length : Int) ++ ((lkL parts i.1).getD []).flatMap packPart ++ numI (i.2.2.length : Int) ++ i.2.2.flatMap packVer
abbrev packDone (done : List (Int × Int)) (t : Int) : List UInt8 := numI t ++ numI ((lkL done t).getD 0)
def packV (j : JS) : List UInt8 :=
 numI j.v.mark ++ numI ((srtM j.v.ch).length : Int) ++ (srtM j.v.ch).flatMap packEnt ++ numI ((srtM j.v.its).length : Int) ++ (srtM j.v.its).flatMap (packInt j.parts) ++ numI (j.done.length : Int) ++ (sortL (j.done.map (·.1))).flatMap (packDone j.done)
end Go.Proofs.YtiampehfpgcogaaGreatDoor
namespace Go.Proofs.YtiampehfpgcogaaGreatDoor
open Go Go.SX
structure JPK (j : JS) : Prop where
 m : j.v.mark ≤ 18446744073709551615
 its : ∀ i ∈ j.v.its,i.1 ≤ 18446744073709551615 ∧ i.2.1 ≤ 18446744073709551615 ∧ ∀ o ∈ i.2.2,o.1 ≤ 18446744073709551615
 ch : ∀ c ∈ j.v.ch,c.1 ≤ 18446744073709551615 ∧ ∀ v ∈ c.2,v.1 ≤ 18446744073709551615
 done : ∀ d ∈ j.done,d.1 ≤ 18446744073709551615 ∧ d.2 ≤ 18446744073709551615
 parts : ∀ u ∈ j.parts,u.2.length ≤ 4
theorem JPK.zero {dim : Int} : JPK ⟨⟨dim,[],[],0⟩,[],[]⟩ := ⟨by show (0 : Int) ≤ 18446744073709551615;decide,(fun i hi => by cases hi),(fun i hi => by cases hi),(fun i hi => by cases hi),(fun i hi => by cases hi)⟩
end Go.Proofs.YtiampehfpgcogaaGreatDoor
namespace Go.Proofs.YtiampehfpgcogaaGreatDoor
open Go Go.SX
attribute [local irreducible] swp opsS thenS blockS retS CallsS St Ent YieldS anyS drawS
theorem flat_le {α : Type} {f : α → List UInt8} {c : Nat} : ∀ {l : List α},(∀ x ∈ l,(f x).length ≤ c) → (l.flatMap f).length ≤ l.length * c
 | [],_ => by simp
 | x :: l,h => by
  have h1 := h x (by simp)
  have h2 := flat_le (f := f) (c := c) (l := l) (fun y hy => h y (List.mem_cons_of_mem _ hy))
  rw [List.flatMap_cons,List.length_append,List.length_cons,Nat.succ_mul]
  omega
theorem take_le {α : Type} {l : List α} {f : α → List UInt8} {c : Nat} (k : Nat) (h : ∀ x ∈ l,(f x).length ≤ c) : ((l.take k).flatMap f).length ≤ l.length * c := by
 refine Nat.le_trans (flat_le fun x hx => h x (List.mem_of_mem_take hx)) (Nat.mul_le_mul_right c (by rw [List.length_take];omega))
theorem flat1 {α : Type} {l : List α} {k : Nat} {x : α} {f : α → List UInt8} (h : l[k]? = some x) : (l.take (k + 1)).flatMap f = (l.take k).flatMap f ++ f x := by rw [take_snoc h,List.flatMap_append];simp
theorem RdS.row1 {L : List HP} {b n : Nat} {l : List Value} {t : TypeId} [h : FindB b L (cl l t)] (hl : l.length = n) : RdS L (some ⟨b,0,none⟩) n 1 l := ⟨by rw [hl,Nat.mul_one],.inr ⟨b,0,rfl,RdC.row⟩⟩
theorem wH_new {w : Nat} {L : List HP} : Ent (pt w (cl [.slice none 0 0] 125) :: L) (wH w [] :: L) := Ent.trans (Ent.cons slO_nil) (wH_shut (a := none) (c := 0) (bs := []))
set_option maxHeartbeats 400000 in
theorem RSameB_spec (a a' : Option Addr) (c c' : Nat) (p q : List UInt8) (L : List HP) (h : RdS L a p.length 1 (p.map B)) (h' : RdS L a' q.length 1 (q.map B)) :
  CallsS Tryz.prog 52 [.slice a p.length c,.slice a' q.length c'] L (fun v L' => v = .bool (decide (p = q)) ∧ L' = L) := by
 refine CallsS.of_body Tryz.func52 rfl rfl rfl ?_
 repeat (first | (refine GQ.y ?_;refine Q.y ?_) | refine Q.go ?_ | (refine GQ.g ?_;refine Q.gq ?_) | (refine GQ.s ?_;refine Q.st ?_))
 refine S.y (by refine Y.b2s (bs := p) (by rfl) ?_;exact h.sub) ?_
 repeat (first | (refine GQ.y ?_;refine Q.y ?_) | refine Q.go ?_ | (refine GQ.g ?_;refine Q.gq ?_) | (refine GQ.s ?_;refine Q.st ?_))
 refine S.y (by refine Y.b2s (bs := q) (by rfl) ?_;exact h'.sub) ?_
 repeat (first | (refine GQ.y ?_;refine Q.y ?_) | refine Q.go ?_ | (refine GQ.g ?_;refine Q.gq ?_) | (refine GQ.s ?_;refine Q.st ?_))
 try refine S.y (Y.eqst (a := p) (b := q) rfl rfl) ?_
 repeat (first | (refine GQ.y ?_;refine Q.y ?_) | refine Q.go ?_ | (refine GQ.g ?_;refine Q.gq ?_) | (refine GQ.s ?_;refine Q.st ?_))
 refine N.r1 (RV.tmp rfl RV.nil) (Ent.refl _) ⟨rfl,rfl⟩
end Go.Proofs.YtiampehfpgcogaaGreatDoor
namespace Go.SX
open Go Go.ChangeShapes Go.WideShapes Go.RowKit
section
variable {H : Type} {enc : TypeId × Value → H} {P : Program} {W : World}
def Rd (enc : TypeId × Value → H) (P : Program) (W : World) (t : TypeId) (cs : List Value) : Prop := ∃ n x,DataW.trod enc P W 0 (fun _ => true) true n t cs = some x
theorem cells_of {w : World} {base : Nat} {a : Addr} {n : Nat} {cs : List Value} (h : w.cells? base a n = some cs) : cs.length = n ∧ ∀ j,j < n → w.cell? (a.add j) = cs[j]? := by
 unfold World.cells? at h
 split at h
 ·exact ⟨by simpa using mapM_some_length h,fun j hj => by simpa using mapM_some_get h j j (by simp [hj])⟩
 ·cases h
theorem cell_block {w : World} {a : Addr} {v : Value} (h : w.cell? a = some v) : ∃ l t fz,w.heap[a.block]? = some (.cells l t fz) ∧ l[a.off]? = some v ∧ a.spot = none := by
 unfold World.cell? at h
 split at h
 ·rename_i c t fz hb
  split at h
  ·cases h
  ·rename_i hs
   refine ⟨c,t,fz,hb,h,by simpa using hs⟩
 ·cases h
theorem add_at (x y n : Nat) : (⟨x,y,none⟩ : Addr).add n = ⟨x,y + n,none⟩ := by unfold Addr.add;split <;> simp_all
theorem flat_at {sz : Nat} : ∀ {rows : List (List Value)} {j : Nat} {v : Value},(∀ r ∈ rows,r.length = sz) → rows.flatten[j]? = some v → ∃ k r i,rows[k]? = some r ∧ r[i]? = some v ∧ j = k * sz + i
 | [],j,v,_,h => by simp at h
 | r :: rows,j,v,hr,h => by
  have h0 := hr r (by simp)
  rw [List.flatten_cons] at h
  by_cases hj : j < r.length
  ·rw [List.getElem?_append_left hj] at h
   exact ⟨0,r,j,rfl,h,by simp⟩
  ·rw [List.getElem?_append_right (by omega)] at h
   obtain ⟨k,r',i,h1,h2,h3⟩ := flat_at (fun x hx => hr x (by simp [hx])) h
   exact ⟨k + 1,r',i,by simpa using h1,h2,by rw [Nat.succ_mul];omega⟩
theorem Rd.slice {t e : TypeId} {sz : Nat} {cs : List Value} (h : Rd enc P W t cs) (ht : P.underlying t = some (.slice e)) (hs : P.cellsOf e = sz) (h0 : 0 < sz) :
  ∃ (a : Option Addr) (c : Nat) (rows : List (List Value)),cs = [.slice a rows.length c] ∧ rows.length ≤ c ∧ c ≤ maxLen ∧ SlM (all0 W) a rows.length sz rows.flatten ∧ ∀ r ∈ rows,r.length = sz ∧ Rd enc P W e r := by
 obtain ⟨n,x,h⟩ := h
 rcases DataW.trod_slice ht h with ⟨rfl,_⟩ | ⟨a,len,cap,elems,rest,n,rfl,rfl,_,_,hlc,hcm,hel,hat,_⟩
 ·exact ⟨none,0,[],rfl,Nat.le_refl _,Nat.zero_le _,SlM.nil,by simp⟩
 ·simp only [hs] at hat
  have hrow : ∀ i,i < len → ∃ r y,W.cells? 0 (a.add (i * sz)) sz = some r ∧ DataW.trod enc P W 0 (fun _ => true) true n e r = some y := fun i hi => by
   have := hat i hi
   have hi' : i < elems.length := by omega
   rw [List.getElem?_eq_getElem hi'] at this
   obtain ⟨r,h1,h2⟩ := Option.bind_eq_some_iff.1 this
   exact ⟨r,_,h1,h2⟩
  let rows := (List.range len).map fun i => (W.cells? 0 (a.add (i * sz)) sz).getD []
  have hrl : rows.length = len := by simp [rows]
  have hri : ∀ i r,rows[i]? = some r → i < len ∧ W.cells? 0 (a.add (i * sz)) sz = some r := fun i r hr => by
   have hi : i < len := by have := (List.getElem?_eq_some_iff.1 hr).1;omega
   obtain ⟨r',y,h1,_⟩ := hrow i hi
   refine ⟨hi,?_⟩
   simp only [rows,List.getElem?_map,List.getElem?_range hi,Option.map_some,Option.some.injEq,h1,Option.getD_some] at hr
   rw [← hr];exact h1
  have hmem : ∀ r ∈ rows,r.length = sz ∧ Rd enc P W e r := fun r hr => by
   obtain ⟨i,hi,rfl⟩ := List.getElem_of_mem hr
   obtain ⟨h1,h2⟩ := hri i _ (List.getElem?_eq_getElem hi)
   obtain ⟨r',y,h3,h4⟩ := hrow i h1
   rw [h2] at h3;cases h3
   exact ⟨(cells_of h2).1,n,y,h4⟩
  refine ⟨some a,cap,rows,by rw [hrl],by omega,hcm,⟨?_,?_⟩,hmem⟩
  ·have : ∀ l : List (List Value),(∀ r ∈ l,r.length = sz) → l.flatten.length = l.length * sz := by
    intro l
    induction l with
    | nil => simp
    | cons r l ih => intro h;rw [List.flatten_cons,List.length_append,h r (by simp),ih (fun x hx => h x (by simp [hx])),List.length_cons,Nat.succ_mul];omega
   exact this rows fun r hr => (hmem r hr).1
  ·by_cases hl0 : len = 0
   ·exact .inl (by omega)
   ·refine .inr ?_
    obtain ⟨r0,y0,h1,_⟩ := hrow 0 (by omega)
    have h2 := (cells_of h1).2 0 h0
    have hr0 : 0 < r0.length := by rw [(cells_of h1).1];exact h0
    rw [List.getElem?_eq_getElem hr0] at h2
    obtain ⟨l,tt,fz,hb,hc,hsp⟩ := cell_block h2
    have ea : (a.add (0 * sz)).add 0 = a := by simp [Addr.add]
    rw [ea] at hb hc hsp
    have eA : a = ⟨a.block,a.off,none⟩ := by cases a;simp_all
    refine ⟨a.block,a.off,l,tt,fz,by rw [← eA],hb,fun j v hv => ?_⟩
    obtain ⟨k,r,i,h3,h4,rfl⟩ := flat_at (fun r hr => (hmem r hr).1) hv
    obtain ⟨h5,h6⟩ := hri k r h3
    have hi : i < sz := by rw [← (cells_of h6).1];exact (List.getElem?_eq_some_iff.1 h4).1
    have h7 := (cells_of h6).2 i hi
    rw [h4] at h7
    have e2 : (a.add (k * sz)).add i = ⟨a.block,a.off + (k * sz + i),none⟩ := by
     rw [eA,add_at,add_at,Nat.add_assoc]
    rw [e2] at h7
    simp only [World.cell?,hb] at h7
    simpa using h7
theorem Rd.list {t e : TypeId} {sz : Nat} {cs : List Value} {α : Type} {g : α → List Value} {Q : α → Prop} (he : ∀ r,Rd enc P W e r → ∃ x,r = g x ∧ Q x) (h : Rd enc P W t cs) (ht : P.underlying t = some (.slice e)) (hs : P.cellsOf e = sz) (h0 : 0 < sz) :
  ∃ (a : Option Addr) (c : Nat) (xs : List α),cs = [.slice a xs.length c] ∧ xs.length ≤ c ∧ c ≤ maxLen ∧ SlM (all0 W) a xs.length sz (xs.flatMap g) ∧ ∀ x ∈ xs,Q x := by
 obtain ⟨a,c,rows,h1,h2,h3,h4,h5⟩ := h.slice ht hs h0
 have key : ∀ rows : List (List Value),(∀ r ∈ rows,r.length = sz ∧ Rd enc P W e r) → ∃ xs : List α,rows = xs.map g ∧ ∀ x ∈ xs,Q x := by
  intro rows
  induction rows with
  | nil => exact fun _ => ⟨[],rfl,by simp⟩
  | cons r rows ih =>
   intro h
   obtain ⟨xs,e1,e2⟩ := ih fun x hx => h x (by simp [hx])
   obtain ⟨x,e3,e4⟩ := he r (h r (by simp)).2
   refine ⟨x :: xs,by rw [List.map_cons,← e1,← e3],fun y hy => ?_⟩
   rcases List.mem_cons.1 hy with rfl | hy
   ·exact e4
   ·exact e2 y hy
 obtain ⟨xs,e1,e2⟩ := key rows h5
 have el : rows.length = xs.length := by rw [e1,List.length_map]
 rw [el] at h1 h2 h4
 refine ⟨a,c,xs,h1,h2,h3,?_,e2⟩
 rw [List.flatMap_def,← e1];exact h4
theorem Rd.int {t : TypeId} {k : IntKind} {cs : List Value} (h : Rd enc P W t cs) (ht : P.underlying t = some (.int k)) : ∃ n,cs = [.int k n] ∧ (Lit.int k n).wf = true := by
 obtain ⟨n,x,h⟩ := h
 obtain ⟨v,h1,_,h2⟩ := DataW.trod_int ht h
 exact ⟨v,h1,h2⟩
theorem Rd.bool {t : TypeId} {cs : List Value} (h : Rd enc P W t cs) (ht : P.underlying t = some .bool) : ∃ b,cs = [.bool b] := by
 obtain ⟨n,x,h⟩ := h
 obtain ⟨v,h1,_⟩ := DataW.trod_bool ht h
 exact ⟨v,h1⟩
theorem Rd.fields {t : TypeId} {fs : Array Field} {cs : List Value} (h : Rd enc P W t cs) (ht : P.underlying t = some (.struct fs)) : cs.length = P.cellsOf t ∧ ∀ (i : Nat) (f : Field),fs[i]? = some f → Rd enc P W f.type ((cs.drop f.offset).take (P.cellsOf f.type)) := by
 obtain ⟨n,x,h⟩ := h
 obtain ⟨xs,m,_,_,h1,h2,h3⟩ := DataW.trod_struct ht h
 refine ⟨h1,fun i f hf => ?_⟩
 have := h3 i f hf
 have hi : i < xs.length := by rw [h2];exact (Array.getElem?_eq_some_iff.1 hf).1
 rw [List.getElem?_eq_getElem hi] at this
 exact ⟨m,_,this⟩
theorem Rd.byte {t : TypeId} {cs : List Value} (h : Rd enc P W t cs) (ht : P.underlying t = some (.int .u8)) : ∃ x,cs = [B x] ∧ True := by
 obtain ⟨n,rfl,h1⟩ := h.int ht
 have h2 : 0 ≤ n ∧ n ≤ 255 := bounds_u8 h1
 refine ⟨UInt8.ofNat n.toNat,?_,trivial⟩
 have : (UInt8.ofNat n.toNat).toNat = n.toNat := by simp;omega
 simp only [B,this]
 rw [Int.toNat_of_nonneg h2.1]
theorem Rd.bytes {t e : TypeId} {cs : List Value} (h : Rd enc P W t cs) (ht : P.underlying t = some (.slice e)) (he : P.underlying e = some (.int .u8)) (hs : P.cellsOf e = 1) :
  ∃ (a : Option Addr) (c : Nat) (bs : List UInt8),cs = [.slice a bs.length c] ∧ bs.length ≤ c ∧ c ≤ maxLen ∧ SlM (all0 W) a bs.length 1 (bs.map B) := by
 obtain ⟨a,c,xs,h1,h2,h3,h4,_⟩ := Rd.list (g := fun x => [B x]) (fun r hr => hr.byte he) h ht hs (by omega)
 refine ⟨a,c,xs,h1,h2,h3,?_⟩
 have key : ∀ xs : List UInt8,xs.flatMap (fun x => [B x]) = xs.map B := fun xs => by induction xs with
  | nil => rfl
  | cons x xs ih => rw [List.flatMap_cons,ih];rfl
 rwa [key] at h4
theorem args_again (K : Kids P (· < P.types.size)) (hz : ∀ t e,t < P.types.size → P.underlying t = some (.slice e) → 0 < P.cellsOf e) {W' : World} {ts : List TypeId} {vs : List Value} {ds : List (DataW H)} {ps : List MemPlace} (hT : ∀ t ∈ ts,t < P.types.size)
  (h : DataW.TrodAll enc P W 0 (fun _ => true) true ts vs ds ps) (hk : Kept W W') (sp : Nat → Bool) (hs : ∀ p ∈ ps,sp p.block = true) : DataW.TrodAll enc P W' 0 sp true ts vs ds ps :=
 DataW.TrodAll.respare K hz hT (trodAll_kept hk h) hs
theorem trodAll_rd : ∀ {ts : List TypeId} {vs : List Value} {ds : List (DataW H)} {ps : List MemPlace},DataW.TrodAll enc P W 0 (fun _ => true) true ts vs ds ps → vs.length = ts.length ∧ ds.length = ts.length ∧ ∀ (i : Nat) (t : TypeId) (v : Value),ts[i]? = some t → vs[i]? = some v → Rd enc P W t v.cells.toList
 | [],[],[],_,_ => ⟨rfl,rfl,fun i t v h => by simp at h⟩
 | t :: ts,v :: vs,d :: ds,ps,⟨p,q,⟨n,h1⟩,h2,_⟩ => by
  obtain ⟨e1,e2,e3⟩ := trodAll_rd h2
  refine ⟨by simp [e1],by simp [e2],fun i t' v' h h' => ?_⟩
  cases i with
  | zero => simp at h h';subst h h';exact ⟨n,_,h1⟩
  | succ i => exact e3 i t' v' (by simpa using h) (by simpa using h')
structure Arg (enc : TypeId × Value → H) (P : Program) (W : World) (t : TypeId) (v : Value) : Prop where
 rd : Rd enc P W t v.cells.toList
 ok : ∃ base,Value.okWide P W .any base t v
theorem Arg.int {t : TypeId} {k : IntKind} {v : Value} (h : Arg enc P W t v) (ht : P.underlying t = some (.int k)) : ∃ n,v = .int k n ∧ (Lit.int k n).wf = true := by
 obtain ⟨r,_,o⟩ := h
 obtain ⟨n,rfl⟩ := okWide_int ht o
 obtain ⟨m,h1,h2⟩ := r.int ht
 simp [Value.cells] at h1
 subst h1
 exact ⟨n,rfl,h2⟩
theorem Arg.bool {t : TypeId} {v : Value} (h : Arg enc P W t v) (ht : P.underlying t = some .bool) : ∃ b,v = .bool b := by
 obtain ⟨r,_,o⟩ := h
 exact okWide_bool ht o
theorem Arg.list {t e : TypeId} {sz : Nat} {v : Value} {α : Type} {g : α → List Value} {Q : α → Prop} (h : Arg enc P W t v) (he : ∀ r,Rd enc P W e r → ∃ x,r = g x ∧ Q x) (ht : P.underlying t = some (.slice e)) (hs : P.cellsOf e = sz) (h0 : 0 < sz) :
  ∃ (a : Option Addr) (c : Nat) (xs : List α),v = .slice a xs.length c ∧ xs.length ≤ c ∧ c ≤ 9223372036854775807 ∧ SlM (all0 W) a xs.length sz (xs.flatMap g) ∧ ∀ x ∈ xs,Q x := by
 obtain ⟨r,_,o⟩ := h
 obtain ⟨a,l,c,rfl⟩ := okWide_slice ht o
 obtain ⟨a',c',xs,h1,h2,h3,h4,h5⟩ := r.list he ht hs h0
 simp [Value.cells] at h1
 obtain ⟨rfl,rfl,rfl⟩ := h1
 exact ⟨_,_,xs,rfl,h2,h3,h4,h5⟩
theorem Arg.bytes {t e : TypeId} {v : Value} (h : Arg enc P W t v) (ht : P.underlying t = some (.slice e)) (he : P.underlying e = some (.int .u8)) (hs : P.cellsOf e = 1) :
  ∃ (a : Option Addr) (c : Nat) (bs : List UInt8),v = .slice a bs.length c ∧ bs.length ≤ c ∧ c ≤ 9223372036854775807 ∧ SlM (all0 W) a bs.length 1 (bs.map B) := by
 obtain ⟨r,_,o⟩ := h
 obtain ⟨a,l,c,rfl⟩ := okWide_slice ht o
 obtain ⟨a',c',xs,h1,h2,h3,h4⟩ := r.bytes ht he hs
 simp [Value.cells] at h1
 obtain ⟨rfl,rfl,rfl⟩ := h1
 exact ⟨_,_,xs,rfl,h2,h3,h4⟩
theorem row_post {f : FuncId} {F : Func} {s : ChangeSpec} {tb : TypeId} {args : Array Value} {ds gs : List (DataW H)} {before : List MemPlace} {handsOn again : Bool} (K : Kids P (· < P.types.size)) (hz : ∀ t e,t < P.types.size → P.underlying t = some (.slice e) → 0 < P.cellsOf e)
  (hT : (F.params.toList.all fun t => decide (t < P.types.size)) = true) (hvs : s.vars = []) (hfn : ∀ ds : List (DataW H),ds.length = F.params.toList.length → s.fn H ds = { results := [.lit (.bool true)],args := ds }) (hrt : F.resultTypes = #[tb]) (htb : P.underlying tb = some .bool)
  {base : Nat} (hval : ∀ (j : Nat) t v,F.params[j]? = some t → args[j]? = some v → Value.okWide P W .any base t v)
  (hW : DataW.Whole enc P F.params.toList s.vars false W args.toList ds gs before)
  (hw : (∀ (i : Nat) (t : TypeId) (v : Value),F.params.toList[i]? = some t → args.toList[i]? = some v → Arg enc P W t v) → args.toList.length = F.params.toList.length → CallsS P f args.toList [roM (all0 W)] (fun v _ => v = .bool true)) :
  Calls P f args W fun e W' => ∃ v,e = .returned v ∧ s.post enc P F false true handsOn again W args v W' := by
 have hW' := hW
 obtain ⟨p,q,hA,hV,rfl,hfz,hnd⟩ := hW
 rw [hvs] at hV
 obtain ⟨rfl,rfl⟩ : gs = [] ∧ q = [] := by
  cases gs with
  | nil => exact ⟨rfl,hV⟩
  | cons g gs => exact hV.elim
 obtain ⟨h1,h2,h3⟩ := trodAll_rd hA
 have hc := (hw (fun i t v e1 e2 => ⟨h3 i t v e1 e2,base,hval i t v (by simpa using e1) (by simpa using e2)⟩) h1).kept
 refine hc.mono fun e W' ⟨he,hk⟩ => ?_
 subst he
 have hf := hfn ds h2
 refine ⟨_,rfl,post_kept (pa := p) (pv := []) hW' (fun b sp hd => ?_) (fun sp hsp => ?_) (fun sp _ => ?_) rfl hk ?_⟩
 ·rw [hrt,List.append_nil,hf]
  exact trodAll_cons_mk (shut_bool htb _) trodAll_mk0
 ·rw [List.append_nil,hf]
  exact args_again K hz (fun t ht => of_decide_eq_true (List.all_eq_true.1 hT t ht)) hA hk sp (fun x hx => hsp x (by simp [hx]))
 ·rw [hvs,List.append_nil,hf];rfl
 ·exact ok_one hrt rfl (okWide_bool_mk htb _)
end
end Go.SX
namespace Go.Proofs.YtiampehfpgcogaaGreatDoor
open Go Go.SX Go.ChangeShapes Go.WideShapes Go.ChangeAt Go.RowKit
theorem own : ownKnob Tryz.prog.godebug = none := by kernel_rfl
theorem Rd.i32 {H : Type} {enc : TypeId × Value → H} {W : World} {cs : List Value} (h : Rd enc Tryz.prog W 21 cs) : ∃ z,cs = cI z ∧ True := by
 obtain ⟨z,hz,_⟩ := Rd.int h Tryz.underlying21
 exact ⟨z,hz,trivial⟩
theorem u64_wf {n : Int} (h : (Lit.int .u64 n).wf = true) : 0 ≤ n ∧ n ≤ 18446744073709551615 := by
 have := (Lit.wf_int_iff .u64 n).1 h
 have e1 : IntKind.u64.min = 0 := by decide
 have e2 : IntKind.u64.max = 18446744073709551615 := by decide
 rw [e1,e2] at this;exact this
theorem Rd.u64 {H : Type} {enc : TypeId × Value → H} {W : World} {cs : List Value} (h : Rd enc Tryz.prog W 29 cs) : ∃ z,cs = cU z ∧ (0 ≤ z ∧ z ≤ 18446744073709551615) := by
 obtain ⟨z,hz,hw⟩ := Rd.int h Tryz.underlying29
 exact ⟨z,hz,u64_wf hw⟩
theorem Rd.vec {H : Type} {enc : TypeId × Value → H} {W : World} {cs : List Value} (h : Rd enc Tryz.prog W 36 cs) : ∃ (a : Option Addr) (c : Nat) (xs : List Int),cs = [.slice a xs.length c] ∧ xs.length ≤ c ∧ xs.length ≤ 9223372036854775807 ∧ SlM (all0 W) a xs.length 1 (xs.map I32) := by
 obtain ⟨a,c,ls,h1,h1c,h1m,h1s,h1q⟩ := Rd.list (fun r hr => Rd.i32 hr) h (sz := 1) Tryz.underlying36 (by kernel_rfl) (by decide)
 have hmx : maxLen = 9223372036854775807 := by decide
 rw [hmx] at h1m
 have hmm : ls.length ≤ 9223372036854775807 := Nat.le_trans h1c h1m
 rw [flat_I] at h1s
 exact ⟨a,c,ls,h1,h1c,hmm,h1s⟩
set_option maxRecDepth 100000 in
theorem Rd.op {H : Type} {enc : TypeId × Value → H} {W : World} {cs : List Value} (h : Rd enc Tryz.prog W 77 cs) : ∃ o : OV,cs = o.cells ∧ (SlM (all0 W) o.a o.vec.length 1 (o.vec.map I32) ∧ o.vec.length ≤ o.c ∧ o.vec.length ≤ 9223372036854775807 ∧ 0 ≤ o.id ∧ o.id ≤ 18446744073709551615) := by
 obtain ⟨hl,hf⟩ := h.fields Tryz.underlying77
 obtain ⟨x,h0,hx⟩ := Rd.u64 (hf 0 _ rfl)
 obtain ⟨a,c,xs,h1,h2,h3,h4⟩ := Rd.vec (hf 1 _ rfl)
 have hl' : cs.length = 2 := hl.trans (by kernel_rfl)
 match cs,hl' with
 | [u,v],_ =>
  have h0' : [u] = [Value.int .u64 x] := h0
  have h1' : [v] = [Value.slice a xs.length c] := h1
  simp only [List.cons.injEq,and_true] at h0' h1'
  subst h0' h1'
  exact ⟨⟨x,a,c,xs⟩,rfl,h4,h2,h3,hx⟩
def QOps (W : World) (a : Option Addr) (ops : List OV) : Prop := (SlM (all0 W) a ops.length 2 (ops.flatMap OV.cells) ∧ okR (all0 W) ops) ∧ (∀ u ∈ ops,u.vec.length ≤ u.c) ∧ ops.length ≤ 9223372036854775807
theorem Rd.u8 {H : Type} {enc : TypeId × Value → H} {W : World} {cs : List Value} (h : Rd enc Tryz.prog W 5 cs) : ∃ z,cs = [Value.int .u8 z] := by
 obtain ⟨z,hz,_⟩ := Rd.int h Tryz.underlying5
 exact ⟨z,hz⟩
theorem Rd.ops {H : Type} {enc : TypeId × Value → H} {W : World} {cs : List Value} (h : Rd enc Tryz.prog W 35 cs) : ∃ (a : Option Addr) (c : Nat) (ops : List OV),cs = [.slice a ops.length c] ∧ QOps W a ops := by
 obtain ⟨a,c,ls,h1,h1c,h1m,h1s,h1q⟩ := Rd.list (fun r hr => Rd.op hr) h (sz := 2) Tryz.underlying35 (by kernel_rfl) (by decide)
 have hmx : maxLen = 9223372036854775807 := by decide
 rw [hmx] at h1m
 exact ⟨a,c,ls,h1,⟨h1s,fun u hu => (h1q u hu).1⟩,fun u hu => (h1q u hu).2.1,Nat.le_trans h1c h1m⟩
theorem u8_wf {n : Int} (h : (Lit.int .u8 n).wf = true) : 0 ≤ n ∧ n ≤ 255 := bounds_u8 h
theorem Rd.u8b {H : Type} {enc : TypeId × Value → H} {W : World} {cs : List Value} (h : Rd enc Tryz.prog W 5 cs) : ∃ z,cs = [Value.int .u8 z] ∧ (0 ≤ z ∧ z ≤ 255) := by
 obtain ⟨z,hz,hw⟩ := Rd.int h Tryz.underlying5
 exact ⟨z,hz,u8_wf hw⟩
theorem Rd.i64 {H : Type} {enc : TypeId × Value → H} {W : World} {cs : List Value} (h : Rd enc Tryz.prog W 3 cs) : ∃ z,cs = [I64 z] ∧ True := by
 obtain ⟨z,hz,hw⟩ := Rd.int h Tryz.underlying3
 exact ⟨z,hz,trivial⟩
theorem Rd.i64b {H : Type} {enc : TypeId × Value → H} {W : World} {cs : List Value} (h : Rd enc Tryz.prog W 3 cs) : ∃ z,cs = [I64 z] ∧ (-9223372036854775808 ≤ z ∧ z ≤ 9223372036854775807) := by
 obtain ⟨z,hz,hw⟩ := Rd.int h Tryz.underlying3
 exact ⟨z,hz,bounds_i64 hw⟩
theorem Rd.errnob {H : Type} {enc : TypeId × Value → H} {W : World} {cs : List Value} (h : Rd enc Tryz.prog W 25 cs) : ∃ z,cs = [I64 z] ∧ (-9223372036854775808 ≤ z ∧ z ≤ 9223372036854775807) := by
 obtain ⟨z,hz,hw⟩ := Rd.int h Tryz.underlying25
 exact ⟨z,hz,bounds_i64 hw⟩
theorem Rd.pints {H : Type} {enc : TypeId × Value → H} {W : World} {cs : List Value} (h : Rd enc Tryz.prog W 34 cs) : ∃ (a : Option Addr) (c : Nat) (xs : List Int),cs = [.slice a xs.length c] ∧ xs.length ≤ c ∧ xs.length ≤ 9223372036854775807 ∧ SlM (all0 W) a xs.length 1 (xs.map I64) := by
 obtain ⟨a,c,ls,h1,h1c,h1m,h1s,h1q⟩ := Rd.list (fun r hr => Rd.i64 hr) h (sz := 1) Tryz.underlying34 (by kernel_rfl) (by decide)
 have hmx : maxLen = 9223372036854775807 := by decide
 rw [hmx] at h1m
 rw [flat_I64] at h1s
 exact ⟨a,c,ls,h1,h1c,Nat.le_trans h1c h1m,h1s⟩
set_option maxRecDepth 100000 in
theorem Rd.hit {H : Type} {enc : TypeId × Value → H} {W : World} {cs : List Value} (h : Rd enc Tryz.prog W 111 cs) : ∃ o : HV,cs = o.cells ∧ (SlM (all0 W) o.a o.vec.length 1 (o.vec.map I32) ∧ o.vec.length ≤ o.c) := by
 obtain ⟨hl,hf⟩ := h.fields Tryz.underlying111
 obtain ⟨x,h0,hx⟩ := Rd.u64 (hf 0 _ rfl)
 obtain ⟨y,h1,hy⟩ := Rd.u64 (hf 1 _ rfl)
 obtain ⟨a,c,xs,h2,h3,h4,h5⟩ := Rd.vec (hf 2 _ rfl)
 have hl' : cs.length = 3 := hl.trans (by kernel_rfl)
 match cs,hl' with
 | [u,v,w],_ =>
  have h0' : [u] = [Value.int .u64 x] := h0
  have h1' : [v] = [Value.int .u64 y] := h1
  have h2' : [w] = [Value.slice a xs.length c] := h2
  simp only [List.cons.injEq,and_true] at h0' h1' h2'
  subst h0' h1' h2'
  exact ⟨⟨x,y,a,c,xs⟩,rfl,h5,h3⟩
theorem Rd.hits {H : Type} {enc : TypeId × Value → H} {W : World} {cs : List Value} (h : Rd enc Tryz.prog W 37 cs) : ∃ (a : Option Addr) (c : Nat) (hs : List HV),cs = [.slice a hs.length c] ∧ SlM (all0 W) a hs.length 3 (hs.flatMap HV.cells) ∧ hs.length ≤ 9223372036854775807 ∧ ∀ x ∈ hs,SlM (all0 W) x.a x.vec.length 1 (x.vec.map I32) ∧ x.vec.length ≤ x.c := by
 obtain ⟨a,c,ls,h1,h1c,h1m,h1s,h1q⟩ := Rd.list (fun r hr => Rd.hit hr) h (sz := 3) Tryz.underlying37 (by kernel_rfl) (by decide)
 have hmx : maxLen = 9223372036854775807 := by decide
 rw [hmx] at h1m
 exact ⟨a,c,ls,h1,h1s,Nat.le_trans h1c h1m,h1q⟩
set_option maxHeartbeats 1000000 in
set_option maxRecDepth 100000 in
theorem Rd.note {H : Type} {enc : TypeId × Value → H} {W : World} {cs : List Value} (h : Rd enc Tryz.prog W 39 cs) : ∃ n : NV,cs = n.cells ∧ okN (all0 W) n ∧ CapN n ∧ NumN n ∧ NumA n.abs := by
 obtain ⟨hl,hf⟩ := h.fields Tryz.underlying39
 obtain ⟨x0,h0,k0⟩ := Rd.u8b (hf 0 _ rfl)
 obtain ⟨x1,h1,k1⟩ := Rd.u64 (hf 1 _ rfl)
 obtain ⟨x2,h2,k2⟩ := Rd.u64 (hf 2 _ rfl)
 obtain ⟨x3,h3,k3⟩ := Rd.u64 (hf 3 _ rfl)
 obtain ⟨x4,h4,k4⟩ := Rd.u64 (hf 4 _ rfl)
 obtain ⟨x5,h5,k5⟩ := Rd.u64 (hf 5 _ rfl)
 obtain ⟨x6,h6,k6⟩ := Rd.u64 (hf 6 _ rfl)
 obtain ⟨x7,h7,k7⟩ := Rd.u64 (hf 7 _ rfl)
 obtain ⟨x8,h8,k8⟩ := Rd.i64b (hf 8 _ rfl)
 obtain ⟨x9,h9,k9⟩ := Rd.i64b (hf 9 _ rfl)
 obtain ⟨x10,h10,k10⟩ := Rd.errnob (hf 10 _ rfl)
 obtain ⟨x11,h11,k11⟩ := Rd.i64b (hf 11 _ rfl)
 obtain ⟨pa,pc,ps,h12,p1,p2,p3⟩ := Rd.pints (hf 12 _ rfl)
 obtain ⟨oa,oc,os,h13,o1⟩ := Rd.ops (hf 13 _ rfl)
 obtain ⟨va,vc,vs,h14,v1,v2,v3⟩ := Rd.vec (hf 14 _ rfl)
 obtain ⟨ha,hc,hs,h15,q1,q2,q3⟩ := Rd.hits (hf 15 _ rfl)
 have hl' : cs.length = 16 := hl.trans (by kernel_rfl)
 match cs,hl' with
 | [u0,u1,u2,u3,u4,u5,u6,u7,u8,u9,u10,u11,u12,u13,u14,u15],_ =>
  have h0' : [u0] = [Value.int .u8 x0] := h0
  have h1' : [u1] = [Value.int .u64 x1] := h1
  have h2' : [u2] = [Value.int .u64 x2] := h2
  have h3' : [u3] = [Value.int .u64 x3] := h3
  have h4' : [u4] = [Value.int .u64 x4] := h4
  have h5' : [u5] = [Value.int .u64 x5] := h5
  have h6' : [u6] = [Value.int .u64 x6] := h6
  have h7' : [u7] = [Value.int .u64 x7] := h7
  have h8' : [u8] = [Value.int .i64 x8] := h8
  have h9' : [u9] = [Value.int .i64 x9] := h9
  have h10' : [u10] = [Value.int .i64 x10] := h10
  have h11' : [u11] = [Value.int .i64 x11] := h11
  have h12' : [u12] = [Value.slice pa ps.length pc] := h12
  have h13' : [u13] = [Value.slice oa os.length oc] := h13
  have h14' : [u14] = [Value.slice va vs.length vc] := h14
  have h15' : [u15] = [Value.slice ha hs.length hc] := h15
  simp only [List.cons.injEq,and_true] at h0' h1' h2' h3' h4' h5' h6' h7' h8' h9' h10' h11' h12' h13' h14' h15'
  subst h0' h1' h2' h3' h4' h5' h6' h7' h8' h9' h10' h11' h12' h13' h14' h15'
  exact ⟨⟨x0,x1,x2,x3,x4,x5,x6,x7,x8,x9,x10,x11,pa,pc,ps,oa,oc,os,va,vc,vs,ha,hc,hs⟩,rfl,⟨p3,⟨o1.1.1,o1.1.2⟩,v3,q1,fun x hx => (q3 x hx).1⟩,⟨p1,o1.2.1,v1,fun x hx => (q3 x hx).2,p2,o1.2.2,v2,q2⟩,⟨k0,k1.1,k3.1,k5.1,k4.1⟩,⟨k0,k1,k2,k3,k4,k5,k6,k7,k8.2,k9.2,k10.2,k11.2⟩⟩
abbrev sortD {H : Type} (p : ST) : DataW H := .agg [.lit (.string p.1),.lit (.int .i64 (p.2 : Int))]
theorem laid_is {H : Type} : (Rows.laid_armillary_note_sorts : DataW H) = .agg (sortsT.map sortD) := by kernel_rfl
theorem flat_of {α : Type} {g : α → List Value} {sz : Nat} (hg : ∀ x,(g x).length = sz) (h0 : 0 < sz) {l : List α} {cs : List Value} (hl : cs.length = l.length * sz) (h : ∀ i x,l[i]? = some x → (cs.drop (i * sz)).take sz = g x) : cs = l.flatMap g := by
 have hlen : (l.flatMap g).length = l.length * sz := by
  clear hl h
  induction l with
  | nil => simp
  | cons y l ih => rw [List.flatMap_cons,List.length_append,ih,hg,List.length_cons,Nat.succ_mul,Nat.add_comm]
 apply List.ext_getElem?
 intro k
 by_cases hk : k < l.length * sz
 ·have hi : k / sz < l.length := (Nat.div_lt_iff_lt_mul h0).2 hk
  have hr : k % sz < sz := Nat.mod_lt _ h0
  have e : k = k / sz * sz + k % sz := by rw [Nat.mul_comm];exact (Nat.div_add_mod k sz).symm
  obtain ⟨x,hx⟩ := mem_get hi
  have h1 := h _ x hx
  have h2 : (g x)[k % sz]? = cs[k]? := by
   rw [← h1,List.getElem?_take_of_lt hr,List.getElem?_drop,← e]
  have h3 : k % sz < (g x).length := by rw [hg];exact hr
  have h4 := flat_get hg l (k / sz) (k % sz) x _ hx (List.getElem?_eq_getElem h3)
  rw [← e] at h4
  rw [h4,← h2,List.getElem?_eq_getElem h3]
 ·rw [List.getElem?_eq_none (by omega),List.getElem?_eq_none (by omega)]
theorem gSorts : Tryz.prog.globalNamed "armillary/note.sorts" = some 0 := by kernel_rfl
theorem gSortsT : (Tryz.prog.globals[0]?).map (·.type) = some 189 := by kernel_rfl
theorem cellsS : Tryz.prog.cellsOf 163 = 2 := by kernel_rfl
theorem cellsSA : Tryz.prog.cellsOf 189 = 46 := by kernel_rfl
theorem cellsStr : Tryz.prog.cellsOf 9 = 1 := by kernel_rfl
theorem cellsInt : Tryz.prog.cellsOf 3 = 1 := by kernel_rfl
theorem sort_cells {W : World} {fuel : Nat} {cs : List Value} {p : ST} {q : List MemPlace} (h : DataW.trod (fun _ => ()) Tryz.prog W 0 (fun _ => true) false fuel 163 cs = some (sortD p,q)) : cs = ST.cells p := by
 obtain ⟨y0,y1,n,e,hl,h0,h1⟩ := trod_struct2 Tryz.underlying163 h
 rw [cellsS] at hl
 dsimp only at h0 h1
 rw [cellsStr] at h0
 rw [cellsInt] at h1
 have e' := congrArg Prod.fst e
 simp only [DataW.agg.injEq,List.cons.injEq,and_true] at e'
 obtain ⟨s,hs,hy0,_⟩ := DataW.trod_string Tryz.underlying9 h0
 obtain ⟨z,hz,hy1,_⟩ := DataW.trod_int Tryz.underlying3 h1
 subst hy0 hy1
 simp only [DataW.lit.injEq,Lit.string.injEq,Lit.int.injEq,true_and] at e'
 match cs,hl with
 | [u,v],_ =>
  have hs' : [u] = [Value.string s] := hs
  have hz' : [v] = [Value.int .i64 z] := hz
  simp only [List.cons.injEq,and_true] at hs' hz'
  subst hs' hz'
  have : str p.1 = Value.string s := by
   unfold str
   rw [e'.1]
  rw [← e'.2,← this]
theorem tab_of_laid {W : World} (h : laidMet Tryz.prog [("armillary/note.sorts",Rows.laid_armillary_note_sorts)] W) : TabM (all0 W) := by
 obtain ⟨ps,⟨g',t',cs,fuel,p,q,hg',ht',hvar,hd,_,_⟩,_⟩ := h
 obtain rfl := Option.some.inj (gSorts.symm.trans hg')
 obtain rfl := Option.some.inj (gSortsT.symm.trans ht')
 rw [laid_is] at hd
 obtain ⟨xs,m,_,e,hl,hxl,hx⟩ := DataW.trod_array Tryz.underlying189 hd
 rw [cellsSA] at hl
 have e1 := congrArg Prod.fst e
 simp only [DataW.agg.injEq] at e1
 have hcs : cs.toList = sortsC := by
  refine flat_of (g := ST.cells) (sz := 2) (fun _ => rfl) (by decide) (hl.trans (by decide)) (fun i x hi => ?_)
  have hi' : i < 23 := (List.getElem?_eq_some_iff.1 hi).1
  have h1 := hx i hi'
  rw [cellsS] at h1
  obtain ⟨y,hy⟩ := mem_get (l := xs) (by rw [hxl];exact hi')
  rw [hy] at h1
  have h2 : (xs.map (·.1))[i]? = some y.1 := by rw [List.getElem?_map,hy];rfl
  rw [← e1,List.getElem?_map,hi] at h2
  have h3 := Option.some.inj h2
  exact sort_cells (p := x) (q := y.2) (by rw [h1,show sortD x = y.1 from h3])
 unfold World.var? at hvar
 rw [gSorts] at hvar
 simp only [Option.bind_some] at hvar
 refine ⟨by decide,.inr ⟨0,0,?_⟩⟩
 cases hb : W.heap[0]? with
 | none => rw [hb] at hvar;cases hvar
 | some o =>
  rw [hb] at hvar
  cases o with
  | cells l t fz =>
   dsimp only at hvar
   cases hvar
   refine ⟨cs,t,fz,rfl,hb,fun j v hv => ?_⟩
   rw [← hcs] at hv
   rw [Nat.zero_add]
   simpa using hv
  | _ => cases hvar
end Go.Proofs.YtiampehfpgcogaaGreatDoor
namespace Go.Proofs.YtiampehfpgcogaaGreatDoor
open Go Go.SX
attribute [local irreducible] swp opsS thenS blockS retS CallsS St Ent YieldS anyS drawS
structure TR where
 txn : Int
 batch : Int
 stamp : Int
 after : Int
 who : Int
 parts : List Int
 yes : List Int
 acked : List Int
 ops : VL
structure TV where
 txn : Int
 batch : Int
 stamp : Int
 after : Int
 who : Int
 pa : Option Addr
 pc : Nat
 parts : List Int
 ya : Option Addr
 yc : Nat
 yes : List Int
 ka : Option Addr
 kc : Nat
 acked : List Int
 oa : Option Addr
 oc : Nat
 ops : List OV
abbrev TV.abs (t : TV) : TR := ⟨t.txn,t.batch,t.stamp,t.after,t.who,t.parts,t.yes,t.acked,t.ops.map OV.abs⟩
abbrev TV.cells (t : TV) : List Value := [.int .u64 t.txn,.int .u64 t.batch,.int .u64 t.stamp,.int .u64 t.after,.int .i64 t.who,.slice t.pa t.parts.length t.pc,.slice t.ya t.yes.length t.yc,.slice t.ka t.acked.length t.kc,.slice t.oa t.ops.length t.oc]
structure JG where
 shards : Int
 dim : Int
 epoch : Int
 seq : Int
 last : Int
 tr : List (Int × TR)
 done : List (Int × Int)
structure okT (M : Nat → Option Obj) (t : TV) : Prop where
 p : SlM M t.pa t.parts.length 1 (t.parts.map I64)
 y : SlM M t.ya t.yes.length 1 (t.yes.map I64)
 k : SlM M t.ka t.acked.length 1 (t.acked.map I64)
 o : SlM M t.oa t.ops.length 2 (t.ops.flatMap OV.cells)
 ov : okR M t.ops
 pl : t.parts.length ≤ 1000000
 yl : t.yes.length ≤ 1000000
 kl : t.acked.length ≤ 1000000
 ol : t.ops.length ≤ 1000000
theorem okT.mono {M M' : Nat → Option Obj} {t : TV} (h : okT M t) (hl : leM M M') : okT M' t := ⟨h.p.mono hl,h.y.mono hl,h.k.mono hl,h.o.mono hl,fun o ho => (h.ov o ho).mono hl,h.pl,h.yl,h.kl,h.ol⟩
abbrev TB := Int × Nat × TV
abbrev ptT (t : Nat × TV) : Value := .pointer (some ⟨t.1,0,none⟩)
abbrev oneT (t : Nat × TV) : HP := pt t.1 (cl t.2.cells 95)
def trsH (ts : List TB) : HP := allH (ts.map fun u => oneT u.2)
structure GQ' (M : Nat → Option Obj) (j : JG) (ts : List TB) : Prop where
 s1 : 1 ≤ j.shards
 s2 : j.shards ≤ 4
 tr : ts.map (fun u => (u.1,u.2.2.abs)) = j.tr
 ok : ∀ u ∈ ts,okT M u.2.2
theorem GQ'.mono {M M' : Nat → Option Obj} {j : JG} {ts : List TB} (h : GQ' M j ts) (hl : leM M M') : GQ' M' j ts := ⟨h.s1,h.s2,h.tr,fun u hu => (h.ok u hu).mono hl⟩
abbrev gP (p : Nat) (j : JG) (mt md : Nat) : HP := pt p (cl [.int .i64 j.shards,.int .i64 j.dim,.int .u64 j.epoch,.int .u64 j.seq,.int .u64 j.last,.map (some mt),.map (some md)] 81)
abbrev gT (mt : Nat) (ts : List TB) : HP := mpO U64 ptT mt ts
abbrev gD (md : Nat) (d : List (Int × Int)) : HP := mpO U64 U64 md d
structure GX where
 mt : Nat
 md : Nat
 ts : List TB
def jdgH (M : Nat → Option Obj) (p : Nat) (j : JG) : HP := exH fun x : GX => allH [pureH (GQ' M j x.ts),gP p j x.mt x.md,gT x.mt x.ts,trsH x.ts,gD x.md j.done]
theorem jdg_shut {p mt md : Nat} {M : Nat → Option Obj} {j : JG} {ts : List TB} {L : List HP} (h : GQ' M j ts) : Ent (gP p j mt md :: gT mt ts :: trsH ts :: gD md j.done :: L) (jdgH M p j :: L) :=
 Ent.trans (Ent.shut_pure h) (Ent.trans (Ent.shut_all (L := [_,_,_,_,_])) (Ent.shut_ex (P := fun x : GX => allH [pureH (GQ' M j x.ts),gP p j x.mt x.md,gT x.mt x.ts,trsH x.ts,gD x.md j.done]) ⟨mt,md,ts⟩))
theorem jdg_open {p : Nat} {M : Nat → Option Obj} {j : JG} {L L' : List HP} (h : ∀ mt md ts,GQ' M j ts → Ent (gP p j mt md :: gT mt ts :: trsH ts :: gD md j.done :: L) L') : Ent (jdgH M p j :: L) L' :=
 Ent.ex fun x => Ent.open_all.trans (Ent.pure fun hx => h x.mt x.md x.ts hx)
theorem jdg_mono {p : Nat} {M M' : Nat → Option Obj} {j : JG} {L : List HP} (hl : leM M M') : Ent (jdgH M p j :: L) (jdgH M' p j :: L) := jdg_open fun _ _ _ hq => jdg_shut (hq.mono hl)
theorem calls_jdg {g : FuncId} {args : List Value} {R : Value → List HP → Prop} {p : Nat} {M : Nat → Option Obj} {j : JG} {L : List HP}
  (h : ∀ mt md ts,GQ' M j ts → CallsS Tryz.prog g args (gP p j mt md :: gT mt ts :: trsH ts :: gD md j.done :: L) R) : CallsS Tryz.prog g args (jdgH M p j :: L) R :=
 CallsS.ex fun x => CallsS.all (CallsS.pure fun hx => h x.mt x.md x.ts hx)
class PickG (p : Nat) (L : List HP) (M : outParam (Nat → Option Obj)) (j : outParam JG) (L0 : outParam (List HP)) : Prop where
 ent : Ent L (jdgH M p j :: L0)
instance PickG.here {p : Nat} {M : Nat → Option Obj} {L : List HP} {j : JG} : PickG p (jdgH M p j :: L) M j L := ⟨Ent.refl _⟩
instance (priority := low) PickG.there {p : Nat} {M : Nat → Option Obj} {A : HP} {L L0 : List HP} {j : JG} [h : PickG p L M j L0] : PickG p (A :: L) M j (A :: L0) := ⟨(h.ent.cons).trans (Ent.perm (.swap _ _ _))⟩
section
variable {n : Nat} {ops rest : List Oper} {cd : Code} {Q : Post} {f : Env} {L L0 : List HP} {M : Nat → Option Obj} {j : JG}
theorem swp_jdg (p : Nat) [hp : PickG p L M j L0] (h : ∀ mt md ts,GQ' M j ts → swp Tryz.prog n cd Q f (gP p j mt md :: gT mt ts :: trsH ts :: gD md j.done :: L0)) : swp Tryz.prog n cd Q f L :=
 swp_ent hp.ent (swp_ex fun x => swp_all (swp_pure fun hx => h x.mt x.md x.ts hx))
theorem opsS_jdg (p : Nat) [hp : PickG p L M j L0] (h : ∀ mt md ts,GQ' M j ts → opsS Tryz.prog n ops rest Q f (gP p j mt md :: gT mt ts :: trsH ts :: gD md j.done :: L0)) : opsS Tryz.prog n ops rest Q f L :=
 opsS_ent hp.ent (opsS_ex fun x => opsS_all (opsS_pure fun hx => h x.mt x.md x.ts hx))
theorem opsS_gm (p : Nat) [hp : PickG p L M j L0] {M' : Nat → Option Obj} (hl : leM M M') (hk : opsS Tryz.prog n ops rest Q f (jdgH M' p j :: L0)) : opsS Tryz.prog n ops rest Q f L := opsS_ent (hp.ent.trans (jdg_mono hl)) hk
theorem swp_gm (p : Nat) [hp : PickG p L M j L0] {M' : Nat → Option Obj} (hl : leM M M') (hk : swp Tryz.prog n cd Q f (jdgH M' p j :: L0)) : swp Tryz.prog n cd Q f L := swp_ent (hp.ent.trans (jdg_mono hl)) hk
theorem S.cg {d : Tmp} {ty : TypeId} {pos : String} {af : Array Edge} {g : FuncId} {xs : Array Operand} {ats : Array TypeId} {args : List Value} {R : Value → List HP → Prop} {M2 : Nat → Option Obj} {L1 : List HP} (p : Nat) [hp : PickG p L M j L0] [hm : PickM L0 M2 L1] [he : Enters Tryz.prog g]
  (hx : argsL f xs.toList = some args) (hc : CallsS Tryz.prog g args (jdgH M p j :: roM M2 :: L1) R) (hk : ∀ v L',R v L' → opsS Tryz.prog n ops rest Q (upd f d v) L') :
  opsS Tryz.prog n ops (⟨some d,.call ⟨.value (.func g),xs,ats⟩,ty,pos,af,none⟩ :: rest) Q f L := opsS_ent (hp.ent.trans (Ent.cons hm.ent)) (S.cr hx hc hk)
theorem S.cgn {d : Tmp} {ty : TypeId} {pos : String} {af : Array Edge} {g : FuncId} {xs : Array Operand} {ats : Array TypeId} {args : List Value} {R : Value → List HP → Prop} (p : Nat) [hp : PickG p L M j L0] [he : Enters Tryz.prog g]
  (hx : argsL f xs.toList = some args) (hc : CallsS Tryz.prog g args (jdgH M p j :: L0) R) (hk : ∀ v L',R v L' → opsS Tryz.prog n ops rest Q (upd f d v) L') :
  opsS Tryz.prog n ops (⟨some d,.call ⟨.value (.func g),xs,ats⟩,ty,pos,af,none⟩ :: rest) Q f L := opsS_ent hp.ent (S.cr hx hc hk)
end
theorem erase_perm {α : Type} : ∀ (l : List α) (k : Nat) (x : α),l[k]? = some x → l.Perm (x :: l.eraseIdx k)
 | [],k,x,h => by simp at h
 | a :: l,0,x,h => by
  simp only [List.getElem?_cons_zero,Option.some.injEq] at h
  subst h
  exact List.Perm.refl _
 | a :: l,k + 1,x,h => by
  simp only [List.getElem?_cons_succ] at h
  exact ((erase_perm l k x h).cons a).trans (List.Perm.swap x a _)
theorem set_perm {α : Type} : ∀ (l : List α) (k : Nat) (x : α),k < l.length → (x :: l.eraseIdx k).Perm (l.set k x)
 | [],k,x,h => by simp at h
 | a :: l,0,x,h => List.Perm.refl _
 | a :: l,k + 1,x,h => by
  simp only [List.length_cons] at h
  exact (List.Perm.swap a x _).trans ((set_perm l k x (by omega)).cons a)
theorem trs_out {ts : List TB} {k : Nat} {u : TB} (h : ts[k]? = some u) {L : List HP} : Ent (trsH ts :: L) (oneT u.2 :: trsH (ts.eraseIdx k) :: L) := by
 refine Ent.trans Ent.open_all (Ent.trans (Ent.perm ?_) (Ent.cons (Ent.shut_all (L := (ts.eraseIdx k).map fun u => oneT u.2))))
 exact ((erase_perm ts k u h).map fun u => oneT u.2).append_right L
theorem trs_in {ts : List TB} {k : Nat} (hk : k < ts.length) (u : TB) {L : List HP} : Ent (oneT u.2 :: trsH (ts.eraseIdx k) :: L) (trsH (ts.set k u) :: L) := by
 refine Ent.trans (Ent.cons Ent.open_all) (Ent.trans (Ent.perm ?_) (Ent.shut_all (L := (ts.set k u).map fun u => oneT u.2)))
 exact ((set_perm ts k u hk).map fun u => oneT u.2).append_right L
theorem trs_new (ts : List TB) (u : TB) {L : List HP} : Ent (oneT u.2 :: trsH ts :: L) (trsH (ts ++ [u]) :: L) := by
 refine Ent.trans (Ent.cons Ent.open_all) (Ent.trans (Ent.perm ?_) (Ent.shut_all (L := (ts ++ [u]).map fun u => oneT u.2)))
 have hp : (u :: ts).Perm (ts ++ [u]) := (List.perm_append_singleton u ts).symm
 exact (hp.map fun u => oneT u.2).append_right L
def homeV (s id : Int) : Int := ((IntKind.u64.wrap (id * 11400714819323198485)).fdiv (2 ^ 32)).tmod s
theorem wrap_u64_b (a : Int) : 0 ≤ IntKind.u64.wrap a ∧ IntKind.u64.wrap a < 18446744073709551616 := by
 have e : IntKind.u64.wrap a = a % 18446744073709551616 := by simp [IntKind.wrap,IntKind.bits,IntKind.signed]
 rw [e];omega
theorem homeV_b {s : Int} (h : 1 ≤ s) (id : Int) : 0 ≤ homeV s id ∧ homeV s id < s := by
 unfold homeV
 have h1 := wrap_u64_b (id * 11400714819323198485)
 generalize IntKind.u64.wrap (id * 11400714819323198485) = w at h1
 have h2 : 0 ≤ w.fdiv (2 ^ 32) := Int.fdiv_nonneg h1.1 (by decide)
 exact ⟨Int.tmod_nonneg _ h2,Int.tmod_lt_of_pos _ (by omega)⟩
theorem Home_spec (id s : Int) (L : List HP) (h1 : 1 ≤ s) (h2 : s ≤ 4) :
  CallsS Tryz.prog 25 [.int .u64 id,.int .i64 s] L (fun r L' => r = .int .i64 (homeV s id) ∧ L' = L) := by
 refine CallsS.of_body Tryz.func25 rfl rfl rfl ?_
 refine Q.r ?_;(repeat (intro b1;refine Q.r ?_))
 refine S.y (Y.mul rfl rfl) ?_
 refine Q.r ?_;(repeat (intro b1;refine Q.r ?_))
 refine S.y (Y.shrI (b := 32) rfl rfl (by decide)) ?_
 refine Q.r ?_;(repeat (intro b1;refine Q.r ?_))
 refine S.y (Y.cvi rfl) ?_
 have es : IntKind.u64.wrap s = s := wrap_u64 (by omega) (by omega)
 rw [es]
 refine Q.r ?_;(repeat (intro b1;refine Q.r ?_))
 refine S.y (Y.rem rfl rfl (by omega)) ?_
 refine Q.r ?_;(repeat (intro b1;refine Q.r ?_))
 refine S.y (Y.cvi rfl) ?_
 have hb := homeV_b h1 id
 have eh : IntKind.i64.wrap (homeV s id) = homeV s id := wrap_i64 (by omega) (by omega)
 unfold homeV at eh
 rw [eh]
 refine Q.r ?_;(repeat (intro b1;refine Q.r ?_))
 exact N.r1 (RV.tmp rfl RV.nil) (Ent.refl _) ⟨rfl,rfl⟩
abbrev ptrG (p : Nat) : Value := .pointer (some ⟨p,0,none⟩)
abbrev JG0 (shards dim : Int) : JG := ⟨shards,dim,0,0,0,[],[]⟩
theorem GNew_spec (M : Nat → Option Obj) (s dim : Int) (L : List HP) (s1 : 1 ≤ s) (s2 : s ≤ 4) (h1 : 1 ≤ dim) (h2 : dim ≤ 8) :
  CallsS Tryz.prog 9 [.int .i64 s,.int .i64 dim] L (fun r L' => ∃ p,r = .tuple #[ptrG p,.int .i64 0] ∧ L' = jdgH M p (JG0 s dim) :: L) := by
 refine CallsS.of_body Tryz.func9 rfl rfl rfl ?_
 refine Q.r ?_;(repeat (intro b1;refine Q.r ?_))
 refine S.mkm U64 ptT (fun mt => ?_)
 refine Q.r ?_;(repeat (intro b1;refine Q.r ?_))
 refine S.mkm U64 U64 (fun md => ?_)
 refine Q.r ?_;(repeat (intro b1;refine Q.r ?_))
 refine N.r2 (RV.tmp rfl (RV.tmp rfl RV.nil)) ?_ ⟨b1,rfl,rfl⟩
 refine Ent.trans (M := gP b1 (JG0 s dim) mt md :: gT mt [] :: gD md [] :: L) (by exact Go.SX.Ent.go) ?_
 refine Ent.trans ?_ (jdg_shut (p := b1) (mt := mt) (md := md) (j := JG0 s dim) (ts := []) ⟨s1,s2,rfl,fun u hu => by cases hu⟩)
 refine Ent.cons (Ent.cons ?_)
 exact Ent.trans (Ent.perm (List.Perm.refl _)) (Ent.shut_all (L := []))
theorem GDone_spec (M : Nat → Option Obj) (p : Nat) (j : JG) (t : Int) (L : List HP) :
  CallsS Tryz.prog 16 [ptrG p,.int .u64 t] (jdgH M p j :: L) (fun r L' => r = .tuple #[.int .u64 ((lkL j.done t).getD 0),.bool (lkL j.done t).isSome] ∧ L' = jdgH M p j :: L) := by
 refine calls_jdg fun mt md ts hq => ?_
 refine CallsS.of_body Tryz.func16 rfl rfl rfl ?_
 refine Q.r ?_;(repeat (intro b1;refine Q.r ?_))
 refine S.y (Y.lk true rfl rfl (fun w => Tryz.zeroValue29 w)) ?_
 cases hz : lkL j.done t with
 | none =>
  dsimp only
  refine Q.r ?_;(repeat (intro b1;refine Q.r ?_))
  exact N.r2 (RV.tmp rfl (RV.tmp rfl RV.nil)) (jdg_shut hq) ⟨rfl,rfl⟩
 | some s =>
  dsimp only
  refine Q.r ?_;(repeat (intro b1;refine Q.r ?_))
  exact N.r2 (RV.tmp rfl (RV.tmp rfl RV.nil)) (jdg_shut hq) ⟨rfl,rfl⟩
theorem GLast_spec (M : Nat → Option Obj) (p : Nat) (j : JG) (L : List HP) :
  CallsS Tryz.prog 22 [ptrG p] (jdgH M p j :: L) (fun r L' => r = .int .u64 j.last ∧ L' = jdgH M p j :: L) := by
 refine calls_jdg fun mt md ts hq => ?_
 refine CallsS.of_body Tryz.func22 rfl rfl rfl ?_
 refine Q.r ?_;(repeat (intro b1;refine Q.r ?_))
 exact N.r1 (RV.tmp rfl RV.nil) (jdg_shut hq) ⟨rfl,rfl⟩
theorem Ghome_spec (p : Nat) (j : JG) (mt md : Nat) (id : Int) (L : List HP) (s1 : 1 ≤ j.shards) (s2 : j.shards ≤ 4) :
  CallsS Tryz.prog 126 [ptrG p,.int .u64 id] (gP p j mt md :: L) (fun r L' => r = .int .i64 (homeV j.shards id + 1) ∧ L' = gP p j mt md :: L) := by
 refine CallsS.of_body Tryz.func126 rfl rfl rfl ?_
 have hb := homeV_b s1 id
 refine Q.r ?_;(repeat (intro b1;refine Q.r ?_))
 refine S.cr rfl (Home_spec id j.shards _ s1 s2) ?_
 rintro _ _ ⟨rfl,rfl⟩
 refine Q.r ?_;(repeat (intro b1;refine Q.r ?_))
 exact N.r1 (RV.tmp rfl RV.nil) (Ent.refl _) ⟨congrArg (Value.int .i64) (Int.add_comm _ _),rfl⟩
abbrev decM (p txn stamp code : Int) : Int × NA := (p,{ NA.zero with kind := 5,txn := txn,stamp := stamp,code := code })
abbrev repM (to batch stamp code : Int) : Int × NA := (to,{ NA.zero with kind := 2,batch := batch,stamp := stamp,code := code })
abbrev goneN (txn : Int) : NA := { NA.zero with kind := 22,txn := txn }
theorem Greply_spec (to b s c : Int) (L : List HP) :
  CallsS Tryz.prog 88 [.int .i64 to,.int .u64 b,.int .u64 s,.int .i64 c] L (fun r L' => r = .agg (mailC (repM to b s c)).toArray ∧ L' = L) := by
 refine CallsS.of_body Tryz.func88 rfl rfl rfl ?_
 refine Q.r ?_;(repeat (intro b1;refine Q.r ?_))
 exact N.r1 (by apply RV.cellN;rfl;exact RdC.row;rfl;exact RV.nil) (Ent.drop (Ent.refl _)) ⟨rfl,rfl⟩
theorem Ggone_spec (t : Nat × TV) (L : List HP) :
  CallsS Tryz.prog 34 [ptT t] (oneT t :: L) (fun r L' => ∃ b,r = .slice (some ⟨b,0,none⟩) 1 1 ∧ L' = slO 52 16 (some ⟨b,0,none⟩) 1 1 (goneN t.2.txn).nv.cells :: oneT t :: L) := by
 refine CallsS.of_body Tryz.func34 rfl rfl rfl ?_
 refine Q.r ?_;(repeat (intro b1;refine Q.r ?_))
 refine N.r1 (RV.tmp rfl RV.nil) ?_ ⟨b1,rfl,rfl⟩
 refine Ent.trans ?_ (slO_fold rfl)
 exact Go.SX.Ent.go
theorem GlastOf_spec (t : Nat × TV) (a : Option Addr) (l c : Nat) (L : List HP) (hl : l ≤ 1000000) (h2 : t.2.parts.length ≤ 1000000) :
  CallsS Tryz.prog 100 [ptT t,.slice a l c] (oneT t :: L) (fun r L' => r = .bool (decide (l + 1 = t.2.parts.length)) ∧ L' = oneT t :: L) := by
 refine CallsS.of_body Tryz.func100 rfl rfl rfl ?_
 refine Q.r ?_;(repeat (intro b1;refine Q.r ?_))
 refine N.r1 (RV.tmp rfl RV.nil) (Ent.refl _) ⟨congrArg Value.bool ?_,rfl⟩
 rw [Bool.eq_iff_iff]
 simp only [decide_eq_true_eq]
 omega
theorem IndexP_spec (a : Option Addr) (c : Nat) (xs : List Int) (x : Int) (A : List HP) (h : RdS A a xs.length 1 (xs.map I64)) (hn : xs.length ≤ 1000000) :
  CallsS Tryz.prog 123 [.slice a xs.length c,.int .i64 x] A (fun r L' => ((∃ k : Nat,k < xs.length ∧ xs[k]? = some x ∧ r = .int .i64 k) ∨ (x ∉ xs ∧ r = .int .i64 (-1))) ∧ L' = A) := by
 refine CallsS.of_body Tryz.func123 rfl rfl rfl ?_
 refine Q.r ?_;(repeat (intro b1;refine Q.r ?_))
 refine swp_loop (σ := Nat) (fun k => [(0,.slice a xs.length c),(1,.int .i64 x),(7,.int .i64 xs.length),(8,.int .i64 k)])
  (fun _ => A) (fun k => k ≤ xs.length ∧ x ∉ xs.take k) (fun k => xs.length - k) 0 ⟨rfl,rfl,rfl,rfl,trivial⟩ (Ent.refl _) ⟨Nat.zero_le _,by simp⟩ ?_
 rintro k ⟨hk,hx⟩
 by_cases hlt : k < xs.length
 ·obtain ⟨q,hq⟩ := mem_get hlt
  obtain ⟨b,oo,hia,hr⟩ := RdS.elem (g := fun z : Int => [I64 z]) (fun _ => rfl) (by rw [flat_I64];exact h) hq rfl
  rw [hia]
  by_cases he : x = q
  ·subst he
   refine Q.r ?_;(repeat (intro b1;refine Q.r ?_))
   exact N.r1 (RV.tmp rfl RV.nil) (Ent.refl _) ⟨.inl ⟨k,hlt,hq,rfl⟩,rfl⟩
  ·refine Q.r ?_;(repeat (intro b1;refine Q.r ?_))
   refine ⟨k + 1,⟨rfl,rfl,rfl,rfl,trivial⟩,Ent.refl _,⟨by omega,?_⟩,by omega⟩
   rw [take_snoc hq,List.mem_append,List.mem_singleton]
   exact fun h => h.elim hx he
 ·have hke : k = xs.length := by omega
  subst hke
  rw [List.take_length] at hx
  refine Q.r ?_;(repeat (intro b1;refine Q.r ?_))
  exact N.r1 (RV.tmp rfl RV.nil) (Ent.refl _) ⟨.inr ⟨hx,rfl⟩,rfl⟩
theorem ContainsP_spec (a : Option Addr) (c : Nat) (xs : List Int) (x : Int) (A : List HP) (h : RdS A a xs.length 1 (xs.map I64)) (hn : xs.length ≤ 1000000) :
  CallsS Tryz.prog 95 [.slice a xs.length c,.int .i64 x] A (fun r L' => r = .bool (decide (x ∈ xs)) ∧ L' = A) := by
 refine CallsS.of_body Tryz.func95 rfl rfl rfl ?_
 refine Q.r ?_;(repeat (intro b1;refine Q.r ?_))
 refine S.cr rfl (IndexP_spec a c xs x _ h hn) ?_
 rintro _ _ ⟨⟨k,hk,hx,rfl⟩ | ⟨hx,rfl⟩,rfl⟩
 ·have hm : x ∈ xs := List.mem_of_getElem? hx
  refine Q.r ?_;(repeat (intro b1;refine Q.r ?_))
  refine N.r1 (RV.tmp rfl RV.nil) (Ent.refl _) ⟨congrArg Value.bool ?_,rfl⟩
  rw [decide_eq_true hm]
  exact decide_eq_true (by omega)
 ·refine Q.r ?_;(repeat (intro b1;refine Q.r ?_))
  refine N.r1 (RV.tmp rfl RV.nil) (Ent.refl _) ⟨congrArg Value.bool ?_,rfl⟩
  rw [decide_eq_false hx]
  rfl
theorem Gdecide_spec (txn stamp code : Int) (a : Option Addr) (c : Nat) (ps : List Int) (A : List HP) (h : RdS A a ps.length 1 (ps.map I64)) (hn : ps.length ≤ 1000000) :
  CallsS Tryz.prog 87 [.int .u64 txn,.int .u64 stamp,.int .i64 code,.slice a ps.length c] A (fun r L' => ∃ a' c',r = .slice a' ps.length c' ∧ L' = slO 54 17 a' ps.length c' ((ps.map fun p => decM p txn stamp code).flatMap mailC) :: A) := by
 refine CallsS.of_body Tryz.func87 rfl rfl rfl ?_
 refine Q.r ?_;(repeat (intro b1;refine Q.r ?_))
 refine swp_loop (σ := Nat × Option Addr × Nat × List (Int × NA)) (fun s => [(0,.int .u64 txn),(1,.int .u64 stamp),(2,.int .i64 code),(12,.slice a ps.length c),(13,.int .i64 ps.length),(9,.slice s.2.1 s.2.2.2.length s.2.2.1),(14,.int .i64 s.1)])
  (fun s => slO 54 17 s.2.1 s.2.2.2.length s.2.2.1 (s.2.2.2.flatMap mailC) :: A)
  (fun s => s.1 ≤ ps.length ∧ s.2.2.2 = (ps.take s.1).map fun p => decM p txn stamp code) (fun s => ps.length - s.1) (0,none,0,[]) ⟨rfl,rfl,rfl,rfl,rfl,rfl,rfl,trivial⟩ slO_nil ⟨by omega,by simp⟩ ?_
 rintro ⟨k,a3,c3,us⟩ ⟨hk,hus⟩
 dsimp only at hk hus ⊢
 have hul : us.length = k := by rw [hus,List.length_map,List.length_take];omega
 by_cases hlt : k < ps.length
 ·obtain ⟨q,hq⟩ := mem_get hlt
  have hrs : RdS (slO 54 17 a3 us.length c3 (us.flatMap mailC) :: A) a ps.length 1 (ps.flatMap fun z : Int => [I64 z]) := by rw [flat_I64];exact h.sub
  obtain ⟨b,oo,hia,hr⟩ := RdS.elem (g := fun z : Int => [I64 z]) (fun _ => rfl) hrs hq rfl
  clear hrs
  rw [hia]
  refine Q.r ?_;(repeat (intro b1;refine Q.r ?_))
  refine S.app rfl rfl (SrcS.sl RdC.row (by rfl) (by rfl)) (by rfl) (by omega) (by omega) (fun a7 c7 => ?_)
  refine Q.r ?_;(repeat (intro b1;refine Q.r ?_))
  refine ⟨(k + 1,a7,c7,us ++ [decM q txn stamp code]),⟨rfl,rfl,rfl,rfl,rfl,congrArg some (by simp),rfl,trivial⟩,?_,⟨by dsimp only;omega,?_⟩,by dsimp only;omega⟩
  ·dsimp only
   rw [len_snoc,flat_snoc]
   exact Go.SX.Ent.go
  ·dsimp only
   rw [take_snoc hq,List.map_append,← hus]
   rfl
 ·have hke : k = ps.length := by omega
  subst hke
  rw [List.take_length] at hus
  subst hus
  refine Q.r ?_;(repeat (intro b1;refine Q.r ?_))
  rw [List.length_map]
  exact N.r1 (RV.tmp rfl RV.nil) (Ent.refl _) ⟨a3,c3,rfl,rfl⟩
abbrev toldM (t : TR) (stamp code : Int) : List (Int × NA) := (t.parts.map fun p => decM p t.txn stamp code) ++ [repM t.who t.batch stamp code]
theorem Gtold_spec (t : Nat × TV) (stamp code : Int) (M : Nat → Option Obj) (L : List HP) (ht : okT M t.2) :
  CallsS Tryz.prog 35 [ptT t,.int .u64 stamp,.int .i64 code] (oneT t :: roM M :: L) (fun r L' => ∃ a' c',r = .slice a' (t.2.parts.length + 1) c' ∧ L' = slO 54 17 a' (t.2.parts.length + 1) c' ((toldM t.2.abs stamp code).flatMap mailC) :: oneT t :: roM M :: L) := by
 refine CallsS.of_body Tryz.func35 rfl rfl rfl ?_
 have hpl := ht.pl
 refine Q.r ?_;(repeat (intro b1;refine Q.r ?_))
 refine Q.dgo [true] [12,25,26,27] [] [0,1,2,3,4,5,6,7,8,9,10,11,13,14,15,16,17,18,19,20,21,22,23,24,12,25,26,27,28] ?_
 refine Q.rd ?_;(repeat (intro b1;refine Q.rd ?_))
 refine D.e rfl rfl rfl ?_
 refine S.cr rfl (Gdecide_spec t.2.txn stamp code t.2.pa t.2.pc t.2.parts _ ht.p.rd ht.pl) ?_
 rintro _ _ ⟨a1,c1,rfl,rfl⟩
 refine Q.r ?_;(repeat (intro b1;refine Q.r ?_))
 refine Q.rd ?_;(repeat (intro b1;refine Q.rd ?_))
 refine D.e rfl rfl rfl ?_
 refine S.cr rfl (Greply_spec t.2.who t.2.batch stamp code _) ?_
 rintro _ _ ⟨rfl,rfl⟩
 refine Q.r ?_;(repeat (intro b1;refine Q.r ?_))
 refine Q.rd ?_;(repeat (intro b1;refine Q.rd ?_))
 refine D.e rfl rfl rfl ?_
 refine S.app rfl rfl (SrcS.sl RdC.row (by rfl) (by rfl)) (by rfl) (by omega) (by omega) (fun a7 c7 => ?_)
 refine Q.r ?_;(repeat (intro b1;refine Q.r ?_))
 refine Q.rd ?_;(repeat (intro b1;refine Q.rd ?_))
 refine Q.r ?_;(repeat (intro b1;refine Q.r ?_))
 refine N.r1 (RV.tmp rfl RV.nil) ?_ ⟨a7,c7,rfl,rfl⟩
 unfold toldM
 rw [flat_snoc]
 exact Go.SX.Ent.go
end Go.Proofs.YtiampehfpgcogaaGreatDoor
namespace Go.SX
open Go
def EntX (L : List HP) (F : List HP → Prop) : Prop := ∀ w G,St w (L ++ G) → ∃ L2,F L2 ∧ St w (L2 ++ G)
theorem EntX.ent {L L' : List HP} {F : List HP → Prop} (h : Ent L L') (hk : EntX L' F) : EntX L F := fun w G t => hk w G (h w G t)
theorem EntX.done {L : List HP} {F : List HP → Prop} (h : F L) : EntX L F := fun _ _ t => ⟨L,h,t⟩
theorem EntX.ex {α : Sort _} {X : α → HP} {L : List HP} {F : List HP → Prop} (h : ∀ x,EntX (X x :: L) F) : EntX (exH X :: L) F := fun w G t => let ⟨x,t⟩ := St.open_ex t;h x w G t
theorem EntX.pure {φ : Prop} {L : List HP} {F : List HP → Prop} (h : φ → EntX L F) : EntX (pureH φ :: L) F := fun w G t => let ⟨x,t⟩ := St.open_pure t;h x w G t
theorem EntX.abs (a : Option Addr) {t sz m c : Nat} {cs : List Value} {M : Nat → Option Obj} {L L0 L1 : List HP} {F : List HP → Prop} [h : PickS a L t sz m c cs L0] [h1 : PickM L0 M L1] (hk : ∀ M',leM M M' → SlM M' a m sz cs → EntX (roM M' :: L1) F) : EntX L F :=
 EntX.ent h.ent (EntX.ent Ent.absorb (EntX.ex fun M' => EntX.ent Ent.open_all (EntX.pure fun h => hk M' h.1 h.2)))
theorem CallsS.post {P : Program} {g : FuncId} {args : List Value} {L : List HP} {R R' : Value → List HP → Prop} (h : CallsS P g args L R) (hR : ∀ v L1,R v L1 → EntX L1 (R' v)) : CallsS P g args L R' := by
 intro F w t
 refine (h F w t).mono ?_
 rintro e w' ⟨v,M,rfl,t',r⟩
 obtain ⟨L2,h1,h2⟩ := hR v M r w' F t'
 exact ⟨v,L2,rfl,h2,h1⟩
end Go.SX
