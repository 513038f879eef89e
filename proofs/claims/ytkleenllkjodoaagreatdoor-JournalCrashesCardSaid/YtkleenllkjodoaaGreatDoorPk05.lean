/- The disk's Write. The disk's Write, Firm, Swap. The disk's Loose, Trim, Swap. The disk's Swap, Drop. slices.AppendSeq, slices.Collect, maps.Keys at strings. Contracts of the library, laid at this seat (written by the kit's lay-shelf.mjs and lay-plain.mjs, cut by gen/shl.py). Numbers and names of files: strconv's Itoa and Atoi, strings.CutPrefix; journal's name and number. slices.Sort of strings; the names of files, rising. The disk's Crash. slices.Chunk at bytes. No condition. -/
import Derived.Shelf.Small.Bits
import Derived.Shelf.Strconv.Atoi
import Derived.Shelf.Strconv.Itoa0
import Derived.Shelf.Strconv.Itoa1
import Derived.Shelf.LaysM
import Derived.Shelf.Strconv.Itoa2
import Derived.Shelf.Strconv.Itoa3
import Derived.Shelf.Strconv.AtoiErrFast
import Derived.Shelf.Strconv.ParseIntEmpty
import Derived.Shelf.Strconv.AtoiFail
import Derived.Shelf.Strconv.Clone
import Derived.Shelf.Strconv.SyntaxError
import Derived.Shelf.LaysC
import Derived.Shelf.Strconv.ToError
import Derived.Shelf.Strconv.Lower
import Derived.Shelf.Strconv.ParseUint10
import Derived.Shelf.Strconv.ParseUint10Empty
import Derived.Shelf.Strconv.ParseUint10Any
import Derived.Shelf.Strconv.ParseInt10
import Derived.Shelf.Strconv.AtoiLong
import Derived.Shelf.Strconv.AtoiInnerAll
import Derived.Shelf.Strconv.RangeError
import Derived.Shelf.Strconv.ToErrorRange
import Derived.Shelf.Strconv.AtoiAll
import Derived.Shelf.Strconv.ErrVarAll
import Derived.Shelf.Sort.Plain
import Derived.Shelf.Slices.In.SortNone
import Derived.Test.YtkleenllkjodoaaGreatDoorChecked
import Derived.Test.YtkleenllkjodoaaGreatDoorPk04
set_option linter.unusedVariables false
set_option linter.unusedSimpArgs false
set_option linter.unusedSectionVars false
namespace Go.Proofs.YtkleenllkjodoaaGreatDoor
open Go Go.SX
attribute [local irreducible] swp opsS thenS blockS retS CallsS St Ent YieldS anyS drawS
def fileD (d : DK) (n : List UInt8) : List UInt8 × Nat := (lkL d.fs n).getD ([], 0)
def fullD (d : DK) (bs : List UInt8) : Prop := d.room < usedD d.fs + bs.length
instance (d : DK) (bs : List UInt8) : Decidable (fullD d bs) := inferInstanceAs (Decidable (_ < _))
def wrD (d : DK) (n bs : List UInt8) : DK := { d with fs := putL d.fs n ((fileD d n).1 ++ bs, (fileD d n).2) }
theorem dM_congr {ts ts' : List DE} (mp : Nat) (h : ts.map (fun u => (u.1, u.2.1)) = ts'.map fun u => (u.1, u.2.1)) : dM mp ts = dM mp ts' := by
  have e1 : ∀ l : List DE, (l.map fun p => (str p.1, ptF p.2)) = (l.map fun u => (u.1, u.2.1)).map fun q => (str q.1, Value.pointer (some ⟨q.2, 0, none⟩)) := fun l => by rw [List.map_map]; rfl
  have e2 : ∀ l : List DE, l.map (·.1) = (l.map fun u => (u.1, u.2.1)).map (·.1) := fun l => by rw [List.map_map]; rfl
  unfold dM mpO entsOK keysOK
  rw [e1, e2, h, ← e1, ← e2]
theorem put_set {κ α : Type} [DecidableEq κ] {m : List (κ × α)} {k : Nat} {x : κ} {a c : α} (hk : keysOK m) (h : m[k]? = some (x, a)) : putL m x c = m.set k (x, c) := by
  have hlt := (List.getElem?_eq_some_iff.1 h).1
  have e : m = m.take k ++ (x, a) :: m.drop (k + 1) := by
    conv => lhs; rw [← List.take_append_drop k m]
    congr 1
    rw [List.drop_eq_getElem_cons hlt, (List.getElem?_eq_some_iff.1 h).2]
  have hk2 : keysOK (m.take k ++ (x, a) :: m.drop (k + 1)) := e ▸ hk
  unfold keysOK at hk2
  rw [List.map_append, List.map_cons, List.nodup_append] at hk2
  obtain ⟨_, h2, h3⟩ := hk2
  have hp : ∀ u ∈ m.take k, u.1 ≠ x := fun u hu he => h3 _ (List.mem_map_of_mem hu) _ (by simp) he
  have hq : ∀ u ∈ m.drop (k + 1), u.1 ≠ x := fun u hu he => (List.nodup_cons.1 h2).1 (List.mem_map.2 ⟨u, hu, he⟩)
  conv => lhs; rw [e]
  rw [putL_mid hp hq, List.set_eq_take_append_cons_drop, if_pos hlt]
theorem key_fs {ts : List DE} {fs : List (List UInt8 × List UInt8 × Nat)} (h : ts.map DE.abs = fs) (hk : keysOK ts) : keysOK fs := by
  subst h
  unfold keysOK at *
  rw [List.map_map]; exact hk
theorem used_app (a b : List (List UInt8 × List UInt8 × Nat)) : usedD (a ++ b) = usedD a + usedD b := by simp [usedD]
theorem used_wr {d : DK} (hk : keysOK d.fs) (n bs : List UInt8) : usedD (wrD d n bs).fs = usedD d.fs + bs.length := by
  show usedD (putL d.fs n _) = _
  unfold fileD
  rcases keyCase d.fs hk n with ⟨p, v, q, e, hp, hq⟩ | hno
  · rw [e, putL_mid hp hq, lkL_mid hp]
    rw [used_app, used_app]
    simp [usedD]; omega
  · rw [putL_none hno, lkL_none hno, used_app]
    simp [usedD]
theorem set_same {α β : Type} (f : α → β) {l : List α} {k : Nat} {x y : α} (h : l[k]? = some x) (hf : f x = f y) : (l.set k y).map f = l.map f := by
  apply List.ext_getElem?
  intro i
  rw [List.map_set, List.getElem?_set]
  by_cases hik : k = i
  · subst hik
    have := (List.getElem?_eq_some_iff.1 h).1
    rw [if_pos rfl, List.getElem?_map, h]
    simp [this, hf]
  · rw [if_neg hik]
theorem DOK.set {d d' : DK} {ts : List DE} (hd : DOK d ts) {k : Nat} {n : List UInt8} {ub : Nat} {fv : FV} (hkk : ts[k]? = some (n, ub, fv)) (fv' : FV) (hl : d'.left = d.left) (hr : d'.room = d.room) (hfs : d'.fs = d.fs.set k (n, fv'.bs, fv'.firm)) (hu : (usedD d'.fs : Int) ≤ d'.room) (hfi : fv'.firm ≤ fv'.bs.length) : DOK d' (ts.set k (n, ub, fv')) := by
  refine ⟨?_, ?_, by rw [hl]; exact hd.lm, by rw [hr]; exact hd.rm, hu, by rw [List.length_set]; exact hd.few, fun u hu => ?_⟩
  · rw [hfs, ← hd.fs, List.map_set]
  · have hk2 := hd.key
    unfold keysOK at *
    rw [set_same (·.1) (y := (n, ub, fv')) hkk rfl]; exact hk2
  · rcases List.mem_or_eq_of_mem_set hu with hu | rfl
    · exact hd.firm u hu
    · exact hfi
theorem disk_upd {p mp : Nat} {d' : DK} {ts : List DE} {k : Nat} {n : List UInt8} {ub : Nat} {fv fv' : FV} {L : List HP} (hkk : ts[k]? = some (n, ub, fv)) (hd2 : DOK d' (ts.set k (n, ub, fv'))) :
    Ent (oneP (ub, fv') :: oneS (ub, fv') :: fsH (ts.eraseIdx k) :: dP p mp d' :: dM mp ts :: L) (diskH p d' :: L) := by
  rw [dM_congr (ts := ts) (ts' := ts.set k (n, ub, fv')) mp (set_same (fun u => (u.1, u.2.1)) (y := (n, ub, fv')) hkk rfl).symm]
  refine Ent.trans (fs_in (List.getElem?_eq_some_iff.1 hkk).1 (n, ub, fv')) ?_
  exact Ent.trans (M := dP p mp d' :: dM mp (ts.set k (n, ub, fv')) :: fsH (ts.set k (n, ub, fv')) :: L) (by repeat (first | exact Ent.refl _ | exact Ent.nil | refine Ent.pick ?_ | refine Ent.nilS ?_ | refine Ent.nilM ?_ | refine Ent.drop ?_)) (disk_shut hd2)
def wrR (p : Nat) (d : DK) (n bs : List UInt8) (M : Nat → Option Obj) (L : List HP) (r : Value) (L' : List HP) : Prop :=
  ∃ M', leM M M' ∧ ((fullD d bs ∧ r = .int .i64 8 ∧ L' = diskH p d :: roM M' :: L) ∨ (¬ fullD d bs ∧ r = .int .i64 0 ∧ L' = diskH p (wrD d n bs) :: roM M' :: L))
set_option maxHeartbeats 4000000 in
theorem WriteF_spec (p bp bn bd : Nat) (d : DK) (n : List UInt8) (a : Option Addr) (c : Nat) (vs : List YB) (M : Nat → Option Obj) (L : List HP) (hn : rightS n) (hfew : d.fs.length ≤ 15) (h : SlM M a vs.length 1 (vs.flatMap YB.cells)) (hv : ∀ v ∈ vs, okYM M v) (hc : vs.length ≤ c) (hvl : vs.length ≤ 1000000) (hb : (catY vs).length ≤ 1000000000) :
    CallsS Tryz.prog 50 [ptrD bp, ptrD bn, ptrD bd] (diskH p d :: pt bp (cl [.slice a vs.length c] 23) :: pt bn (cl [str n] 9) :: pt bd (cl [ptrD p] 26) :: roM M :: L) (wrR p d n (catY vs) M L) := by
  refine calls_disk fun mp ts hd => ?_
  refine CallsS.of_body Tryz.func50 rfl rfl rfl ?_
  refine Q.r ?_; (repeat (intro b1; refine Q.r ?_))
  refine S.cr rfl (Join_spec a c vs M _ _ (SlM.rd h) (fun v hm => (hv v hm).rd) hc hvl (by omega)) ?_
  rintro _ _ ⟨v, M1, rfl, hvb, hvo, hvc, hl1, rfl⟩
  rw [← hvb]
  refine Q.r ?_; (repeat (intro b1; refine Q.r ?_))
  refine S.cr rfl (right_spec n _ hn) ?_
  rintro _ _ ⟨rfl, rfl⟩
  refine Q.r ?_; (repeat (intro b1; refine Q.r ?_))
  have hur := hd.used
  have hrm := hd.rm
  have hvl2 : v.bs.length ≤ 1000000000 := by rw [hvb]; exact hb
  refine Q.dgo [false, true, false, false, true, true, true] [1] [] [0, 2, 3, 5, 6, 7, 8, 1, 4, 9, 10] ?_
  repeat (first | refine D.endA ?_ | refine Q.dp rfl rfl rfl ?_ | refine Q.dy rfl rfl rfl ?_ | refine D.end_ ?_ | refine Q.endH ?_ | (refine D.e rfl rfl rfl ?_; (first | refine S.gskip1 rfl ?_ | refine S.gskip rfl ?_ | refine S.y (Y.gskipU rfl) ?_); refine opsS_nil ?_; refine N.tn ?_))
  refine D.ea rfl rfl rfl ?_
  refine S.c3 (A := dP p mp d) (B := dM mp ts) (C := fsH ts) rfl (Used_spec p mp d ts _ hd) ?_
  rintro _ _ ⟨rfl, rfl⟩
  refine opsS_nil ?_; refine N.tn ?_; refine D.back ?_
  repeat (first | refine D.endA ?_ | refine Q.dp rfl rfl rfl ?_ | refine Q.dy rfl rfl rfl ?_ | refine D.end_ ?_ | refine Q.endH ?_ | (refine D.e rfl rfl rfl ?_; (first | refine S.gskip1 rfl ?_ | refine S.gskip rfl ?_ | refine S.y (Y.gskipU rfl) ?_); refine opsS_nil ?_; refine N.tn ?_))
  by_cases hf : fullD d v.bs
  · have hf' : d.room < (usedD d.fs : Int) + (v.bs.length : Int) := hf
    refine Q.r ?_; (repeat (intro b1; refine Q.r ?_))
    refine N.r1 (RV.tmp rfl RV.nil) ?_ ⟨M1, hl1, .inl ⟨hf, rfl, rfl⟩⟩
    exact Ent.trans (M := dP p mp d :: dM mp ts :: fsH ts :: roM M1 :: L) (by repeat (first | exact Ent.refl _ | exact Ent.nil | refine Ent.pick ?_ | refine Ent.nilS ?_ | refine Ent.nilM ?_ | refine Ent.drop ?_)) (disk_shut hd)
  have hf' : ¬ d.room < (usedD d.fs : Int) + (v.bs.length : Int) := hf
  have hlen : ts.length ≤ 15 := by have := hd.fs; rw [← this, List.length_map] at hfew; exact hfew
  refine Q.r ?_; (repeat (intro b1; refine Q.r ?_))
  refine swp_ent (L' := dP p mp d :: dM mp ts :: fsH ts :: pt bp (cl [.slice a vs.length c] 23) :: pt bn (cl [str n] 9) :: pt bd (cl [ptrD p] 26) :: roM M1 :: L) (by repeat (first | exact Ent.refl _ | exact Ent.nil | refine Ent.pick ?_ | refine Ent.nilS ?_ | refine Ent.nilM ?_ | refine Ent.drop ?_)) ?_
  refine Q.dgo [true, true, true, true, true, true, true] [] [] [0, 1, 2, 3, 4, 5, 6, 7, 8, 9, 10, 11, 12, 13, 14, 15] ?_
  refine Q.rd ?_; (repeat (intro b1; refine Q.rd ?_))
  refine D.y rfl rfl rfl (by kernel_rfl) (Y.lk false rfl rfl (fun w => Tryz.zeroValue82 w)) ?_
  cases hz : lkL (α := Nat × FV) ts n with
  | none =>
    dsimp only
    refine Q.rd ?_; (repeat (intro b1; refine Q.rd ?_))
    refine Q.r ?_; (repeat (intro b1; refine Q.r ?_))
    refine Q.dgo [true, true, true, true, true, true, true] [] [] [0, 1, 2, 3, 4, 5, 6] ?_
    refine Q.rd ?_; (repeat (intro b1; refine Q.rd ?_))
    refine D.y rfl rfl rfl (by kernel_rfl) (Y.lk false rfl rfl (fun w => Tryz.zeroValue82 w)) ?_
    rw [hz]
    dsimp only
    refine Q.rd ?_; (repeat (intro b1; refine Q.rd ?_))
    refine Q.r ?_; (repeat (intro b1; refine Q.r ?_))
    refine Q.dgo [true, false, true, true, true, true, true] [6, 7] [] [0, 1, 2, 3, 4, 5, 6, 7] ?_
    refine Q.rd ?_; (repeat (intro b1; refine Q.rd ?_))
    refine D.e rfl rfl rfl ?_
    refine S.mu (r := ptF) (u := (b1, (⟨none, 0, [], 0⟩ : FV))) rfl rfl rfl ?_
    refine Q.r ?_; (repeat (intro b1; refine Q.r ?_))
    refine Q.rd ?_; (repeat (intro b1; refine Q.rd ?_))
    have hnk : ∀ u ∈ ts, u.1 ≠ n := fun u hu he => by
      have h1 := hd.key
      have h2 : lkL (α := Nat × FV) ts n = some u.2 := (lkL_iff h1).2 (by rw [← he]; exact hu)
      rw [h2] at hz; cases hz
    rw [putL_none hnk]
    have hkk : (ts ++ [((n, b1, ⟨none, 0, [], 0⟩) : DE)])[ts.length]? = some (n, b1, ⟨none, 0, [], 0⟩) := by simp
    have hd1 : DOK { d with fs := d.fs ++ [(n, [], 0)] } (ts ++ [((n, b1, ⟨none, 0, [], 0⟩) : DE)]) := by
      refine ⟨by rw [List.map_append, hd.fs]; rfl, ?_, hd.lm, hd.rm, ?_, by rw [List.length_append]; simp; omega, fun u hu => ?_⟩
      · have h1 := hd.key
        unfold keysOK at *
        rw [List.map_append, List.nodup_append]
        refine ⟨h1, by simp, fun x hx y hy he => ?_⟩
        obtain ⟨u, hu, rfl⟩ := List.mem_map.1 hx
        simp at hy; subst hy; exact hnk u hu he
      · show (usedD (d.fs ++ [(n, [], 0)]) : Int) ≤ d.room
        rw [used_app]; simpa [usedD] using hd.used
      · rcases List.mem_append.1 hu with hu | hu
        · exact hd.firm u hu
        · rw [List.mem_singleton.1 hu]; exact Nat.le_refl _
    have hz1 : lkL (α := Nat × FV) (ts ++ [((n, b1, ⟨none, 0, [], 0⟩) : DE)]) n = some (b1, ⟨none, 0, [], 0⟩) := (lkL_iff hd1.key).2 (by simp)
    refine Q.r ?_; (repeat (intro b1; refine Q.r ?_))
    refine swp_ent (L' := fsH (ts ++ [((n, b1, ⟨none, 0, [], 0⟩) : DE)]) :: dP p mp d :: dM mp (ts ++ [((n, b1, ⟨none, 0, [], 0⟩) : DE)]) :: pt bp (cl [.slice a vs.length c] 23) :: pt bn (cl [str n] 9) :: pt bd (cl [ptrD p] 26) :: roM M1 :: L) ?_ ?_
    · exact Ent.trans (M := oneP (b1, (⟨none, 0, [], 0⟩ : FV)) :: oneS (b1, (⟨none, 0, [], 0⟩ : FV)) :: fsH ts :: dP p mp d :: dM mp (ts ++ [((n, b1, ⟨none, 0, [], 0⟩) : DE)]) :: pt bp (cl [.slice a vs.length c] 23) :: pt bn (cl [str n] 9) :: pt bd (cl [ptrD p] 26) :: roM M1 :: L) (by repeat (first | exact Ent.refl _ | exact Ent.nil | refine Ent.pick ?_ | refine Ent.nilS ?_ | refine Ent.nilM ?_ | refine Ent.drop ?_)) (fs_new ts (n, b1, ⟨none, 0, [], 0⟩))
    generalize hub : b1 = ub at *
    refine swp_fs hkk ?_
    refine Q.dgo [true, false, false, true, true, true, true, true] [16, 19] [19] [0, 1, 2, 3, 4, 5, 6, 7, 8, 9, 10, 11, 12, 13, 14, 15, 16, 17, 18, 19] ?_
    repeat (first | refine D.endA ?_ | refine Q.dp rfl rfl rfl ?_ | refine Q.dy rfl rfl rfl ?_ | refine D.end_ ?_ | refine Q.endH ?_ | (refine D.e rfl rfl rfl ?_; (first | refine S.gskip1 rfl ?_ | refine S.gskip rfl ?_ | refine S.y (Y.gskipU rfl) ?_); refine opsS_nil ?_; refine N.tn ?_))
    refine D.y rfl rfl rfl (by kernel_rfl) (Y.lk false rfl rfl (fun w => Tryz.zeroValue82 w)) ?_
    rw [hz1]
    dsimp only
    repeat (first | refine D.endA ?_ | refine Q.dp rfl rfl rfl ?_ | refine Q.dy rfl rfl rfl ?_ | refine D.end_ ?_ | refine Q.endH ?_ | (refine D.e rfl rfl rfl ?_; (first | refine S.gskip1 rfl ?_ | refine S.gskip rfl ?_ | refine S.y (Y.gskipU rfl) ?_); refine opsS_nil ?_; refine N.tn ?_))
    refine D.y rfl rfl rfl (by kernel_rfl) (Y.lk false rfl rfl (fun w => Tryz.zeroValue82 w)) ?_
    rw [hz1]
    dsimp only
    repeat (first | refine D.endA ?_ | refine Q.dp rfl rfl rfl ?_ | refine Q.dy rfl rfl rfl ?_ | refine D.end_ ?_ | refine Q.endH ?_ | (refine D.e rfl rfl rfl ?_; (first | refine S.gskip1 rfl ?_ | refine S.gskip rfl ?_ | refine S.y (Y.gskipU rfl) ?_); refine opsS_nil ?_; refine N.tn ?_))
    refine D.e rfl rfl rfl ?_
    refine S.app rfl rfl (SrcS.rd hvo.rd (B_one _)) (by rfl) (by show (0 + v.bs.length) * 1 ≤ _; omega) (by show 0 + v.bs.length ≤ _; omega) (fun a7 c7 => ?_)
    refine Q.r ?_; (repeat (intro b1; refine Q.r ?_))
    repeat (first | refine D.endA ?_ | refine Q.dp rfl rfl rfl ?_ | refine Q.dy rfl rfl rfl ?_ | refine D.end_ ?_ | refine Q.endH ?_ | (refine D.e rfl rfl rfl ?_; (first | refine S.gskip1 rfl ?_ | refine S.gskip rfl ?_ | refine S.y (Y.gskipU rfl) ?_); refine opsS_nil ?_; refine N.tn ?_))
    refine Q.dc rfl rfl rfl rfl ?_
    refine Q.r ?_; (repeat (intro b1; refine Q.r ?_))
    repeat (first | refine D.endA ?_ | refine Q.dp rfl rfl rfl ?_ | refine Q.dy rfl rfl rfl ?_ | refine D.end_ ?_ | refine Q.endH ?_ | (refine D.e rfl rfl rfl ?_; (first | refine S.gskip1 rfl ?_ | refine S.gskip rfl ?_ | refine S.y (Y.gskipU rfl) ?_); refine opsS_nil ?_; refine N.tn ?_))
    refine Q.r ?_; (repeat (intro b1; refine Q.r ?_))
    have hwf : (wrD d n v.bs).fs = (d.fs ++ [(n, [], 0)]).set d.fs.length (n, [] ++ v.bs, 0) := by
      show putL d.fs n _ = _
      have hl0 : lkL d.fs n = none := (lk_none hd.fs).2 hz
      unfold fileD
      rw [hl0, putL_none (fun u hu he => by
        have h2 : lkL d.fs n = some u.2 := (lkL_iff (key_fs hd.fs hd.key)).2 (by rw [← he]; exact hu)
        rw [h2] at hl0; cases hl0)]
      simp
    have hlf : d.fs.length = ts.length := by rw [← hd.fs, List.length_map]
    rw [hlf] at hwf
    have hd2 : DOK (wrD d n v.bs) ((ts ++ [((n, ub, ⟨none, 0, [], 0⟩) : DE)]).set ts.length (n, ub, ⟨a7, c7, [] ++ v.bs, 0⟩)) := hd1.set hkk _ rfl rfl hwf (by
      rw [used_wr (key_fs hd.fs hd.key)]
      show ((usedD d.fs + v.bs.length : Nat) : Int) ≤ d.room
      omega) (Nat.zero_le _)
    refine N.r1 (RV.tmp rfl RV.nil) ?_ ⟨M1, hl1, .inr ⟨hf, rfl, rfl⟩⟩
    refine Ent.trans (M := oneP (ub, (⟨a7, c7, [] ++ v.bs, 0⟩ : FV)) :: oneS (ub, (⟨a7, c7, [] ++ v.bs, 0⟩ : FV)) :: fsH ((ts ++ [((n, ub, ⟨none, 0, [], 0⟩) : DE)]).eraseIdx ts.length) :: dP p mp d :: dM mp (ts ++ [((n, ub, ⟨none, 0, [], 0⟩) : DE)]) :: roM M1 :: L) ?_ (disk_upd hkk hd2)
    show Ent _ (pt ub (cl [.slice a7 ([] ++ v.bs).length c7, .int .i64 0] 84) :: slO 5 1 a7 ([] ++ v.bs).length c7 (([] ++ v.bs).map B) :: fsH _ :: dP p mp d :: dM mp (ts ++ [((n, ub, ⟨none, 0, [], 0⟩) : DE)]) :: roM M1 :: L)
    rw [List.length_append, List.map_append]
    repeat (first | exact Ent.refl _ | exact Ent.nil | refine Ent.pick ?_ | refine Ent.nilS ?_ | refine Ent.nilM ?_ | refine Ent.drop ?_)
  | some u =>
    dsimp only
    refine Q.rd ?_; (repeat (intro b1; refine Q.rd ?_))
    refine Q.r ?_; (repeat (intro b1; refine Q.r ?_))
    refine Q.dgo [true, true, true, true, true, true, true] [] [] [0, 1, 2, 3, 4, 5, 6] ?_
    refine Q.rd ?_; (repeat (intro b1; refine Q.rd ?_))
    refine D.y rfl rfl rfl (by kernel_rfl) (Y.lk false rfl rfl (fun w => Tryz.zeroValue82 w)) ?_
    rw [hz]
    dsimp only
    refine Q.rd ?_; (repeat (intro b1; refine Q.rd ?_))
    refine Q.r ?_; (repeat (intro b1; refine Q.r ?_))
    obtain ⟨k, hkk⟩ := lk_ix hz
    obtain ⟨ub, ua, uc, ubs, ufirm⟩ := u
    have hul : ubs.length ≤ usedD d.fs := by
      rw [← used_ts hd]
      exact sum_mem (List.mem_map_of_mem (f := fun u : DE => u.2.2.bs.length) (List.mem_of_getElem? hkk))
    refine swp_fs hkk ?_
    refine Q.dgo [true, false, false, true, true, true, true, true] [16, 19] [19] [0, 1, 2, 3, 4, 5, 6, 7, 8, 9, 10, 11, 12, 13, 14, 15, 16, 17, 18, 19] ?_
    repeat (first | refine D.endA ?_ | refine Q.dp rfl rfl rfl ?_ | refine Q.dy rfl rfl rfl ?_ | refine D.end_ ?_ | refine Q.endH ?_ | (refine D.e rfl rfl rfl ?_; (first | refine S.gskip1 rfl ?_ | refine S.gskip rfl ?_ | refine S.y (Y.gskipU rfl) ?_); refine opsS_nil ?_; refine N.tn ?_))
    refine D.y rfl rfl rfl (by kernel_rfl) (Y.lk false rfl rfl (fun w => Tryz.zeroValue82 w)) ?_
    rw [hz]
    dsimp only
    repeat (first | refine D.endA ?_ | refine Q.dp rfl rfl rfl ?_ | refine Q.dy rfl rfl rfl ?_ | refine D.end_ ?_ | refine Q.endH ?_ | (refine D.e rfl rfl rfl ?_; (first | refine S.gskip1 rfl ?_ | refine S.gskip rfl ?_ | refine S.y (Y.gskipU rfl) ?_); refine opsS_nil ?_; refine N.tn ?_))
    refine D.y rfl rfl rfl (by kernel_rfl) (Y.lk false rfl rfl (fun w => Tryz.zeroValue82 w)) ?_
    rw [hz]
    dsimp only
    repeat (first | refine D.endA ?_ | refine Q.dp rfl rfl rfl ?_ | refine Q.dy rfl rfl rfl ?_ | refine D.end_ ?_ | refine Q.endH ?_ | (refine D.e rfl rfl rfl ?_; (first | refine S.gskip1 rfl ?_ | refine S.gskip rfl ?_ | refine S.y (Y.gskipU rfl) ?_); refine opsS_nil ?_; refine N.tn ?_))
    refine D.e rfl rfl rfl ?_
    refine S.app rfl rfl (SrcS.rd hvo.rd (B_one _)) (by rfl) (by dsimp only; omega) (by dsimp only; omega) (fun a7 c7 => ?_)
    refine Q.r ?_; (repeat (intro b1; refine Q.r ?_))
    repeat (first | refine D.endA ?_ | refine Q.dp rfl rfl rfl ?_ | refine Q.dy rfl rfl rfl ?_ | refine D.end_ ?_ | refine Q.endH ?_ | (refine D.e rfl rfl rfl ?_; (first | refine S.gskip1 rfl ?_ | refine S.gskip rfl ?_ | refine S.y (Y.gskipU rfl) ?_); refine opsS_nil ?_; refine N.tn ?_))
    refine Q.dc rfl rfl rfl rfl ?_
    refine Q.r ?_; (repeat (intro b1; refine Q.r ?_))
    repeat (first | refine D.endA ?_ | refine Q.dp rfl rfl rfl ?_ | refine Q.dy rfl rfl rfl ?_ | refine D.end_ ?_ | refine Q.endH ?_ | (refine D.e rfl rfl rfl ?_; (first | refine S.gskip1 rfl ?_ | refine S.gskip rfl ?_ | refine S.y (Y.gskipU rfl) ?_); refine opsS_nil ?_; refine N.tn ?_))
    refine Q.r ?_; (repeat (intro b1; refine Q.r ?_))
    have hkf := key_fs hd.fs hd.key
    have hfk : d.fs[k]? = some (n, ubs, ufirm) := by rw [← hd.fs, List.getElem?_map, hkk]; rfl
    have hlk : lkL d.fs n = some (ubs, ufirm) := by rw [lk_fs hd.fs, hz]; rfl
    have hwf : (wrD d n v.bs).fs = d.fs.set k (n, ubs ++ v.bs, ufirm) := by
      show putL d.fs n _ = _
      unfold fileD
      rw [hlk]
      exact put_set hkf hfk
    have hd2 : DOK (wrD d n v.bs) (ts.set k (n, ub, ⟨a7, c7, ubs ++ v.bs, ufirm⟩)) := hd.set hkk _ rfl rfl hwf (by
      rw [used_wr hkf]
      show ((usedD d.fs + v.bs.length : Nat) : Int) ≤ d.room
      omega) (by
      have := hd.firm _ (List.mem_of_getElem? hkk)
      dsimp only at this ⊢
      rw [List.length_append]; omega)
    refine N.r1 (RV.tmp rfl RV.nil) ?_ ⟨M1, hl1, .inr ⟨hf, rfl, rfl⟩⟩
    refine Ent.trans (M := oneP (ub, (⟨a7, c7, ubs ++ v.bs, ufirm⟩ : FV)) :: oneS (ub, (⟨a7, c7, ubs ++ v.bs, ufirm⟩ : FV)) :: fsH (ts.eraseIdx k) :: dP p mp d :: dM mp ts :: roM M1 :: L) ?_ (disk_upd hkk hd2)
    show Ent _ (pt ub (cl [.slice a7 (ubs ++ v.bs).length c7, .int .i64 ufirm] 84) :: slO 5 1 a7 (ubs ++ v.bs).length c7 ((ubs ++ v.bs).map B) :: fsH (ts.eraseIdx k) :: dP p mp d :: dM mp ts :: roM M1 :: L)
    rw [List.length_append, List.map_append]
    repeat (first | exact Ent.refl _ | exact Ent.nil | refine Ent.pick ?_ | refine Ent.nilS ?_ | refine Ent.nilM ?_ | refine Ent.drop ?_)
end Go.Proofs.YtkleenllkjodoaaGreatDoor
namespace Go.Proofs.YtkleenllkjodoaaGreatDoor
open Go Go.SX
attribute [local irreducible] swp opsS thenS blockS retS CallsS St Ent YieldS anyS drawS
def wrE (d : DK) (bs : List UInt8) : Int := if spendB d = false then 9 else if fullD (spendD d) bs then 8 else 0
def wrS (d : DK) (n bs : List UInt8) : DK := if wrE d bs = 0 then wrD (spendD d) n bs else spendD d
set_option maxHeartbeats 2000000 in
theorem Write_spec (p : Nat) (d : DK) (n : List UInt8) (a : Option Addr) (c : Nat) (vs : List YB) (M : Nat → Option Obj) (L : List HP) (hn : rightS n) (hfew : d.fs.length ≤ 15) (h : SlM M a vs.length 1 (vs.flatMap YB.cells)) (hv : ∀ v ∈ vs, okYM M v) (hc : vs.length ≤ c) (hvl : vs.length ≤ 1000000) (hb : (catY vs).length ≤ 1000000000) :
    CallsS Tryz.prog 21 [ptrD p, str n, .slice a vs.length c] (diskH p d :: roM M :: L) (fun r L' => r = .int .i64 (wrE d (catY vs)) ∧ ∃ M', leM M M' ∧ L' = diskH p (wrS d n (catY vs)) :: roM M' :: L) := by
  refine CallsS.of_body Tryz.func21 rfl rfl rfl ?_
  refine Q.r ?_; (repeat (intro b1; refine Q.r ?_))
  refine S.y (Y.mf rfl rfl) ?_
  rename_i bd bn
  refine S.ck p rfl (change_spec p d 50 [ptrD b1, ptrD bn, ptrD bd] none 0 [] _ (wrR p (spendD d) n (catY vs) M L) (fun X => ⟨rfl, .inl rfl⟩) (by simp) (fun h1 h2 => ?_)) ?_
  · refine CallsS.ent (L' := diskH p (spendD d) :: pt b1 (cl [.slice a vs.length c] 23) :: pt bn (cl [str n] 9) :: pt bd (cl [ptrD p] 26) :: roM M :: L) (by repeat (first | exact Ent.refl _ | exact Ent.nil | refine Ent.pick ?_ | refine Ent.nilS ?_ | refine Ent.nilM ?_ | refine Ent.drop ?_)) ?_
    exact WriteF_spec p b1 bn bd (spendD d) n a c vs M L hn (by rw [spendD_fs]; exact hfew) h hv hc hvl hb
  intro v L' hR
  refine Q.r ?_; (repeat (intro b1; refine Q.r ?_))
  rcases hR with ⟨h1, rfl, rfl⟩ | ⟨_, ⟨x, hx, _⟩, _, _⟩ | ⟨h1, _, M1, hl1, hw⟩
  · have e : wrE d (catY vs) = 9 := by unfold wrE; rw [if_pos h1]
    refine N.r1 (RV.tmp rfl RV.nil) ?_ ⟨by rw [e], M, leM.refl _, by unfold wrS; rw [e, if_neg (by decide)]⟩
    repeat (first | exact Ent.refl _ | exact Ent.nil | refine Ent.pick ?_ | refine Ent.nilS ?_ | refine Ent.nilM ?_ | refine Ent.drop ?_)
  · cases hx
  · rcases hw with ⟨hf, rfl, rfl⟩ | ⟨hf, rfl, rfl⟩
    · have e : wrE d (catY vs) = 8 := by unfold wrE; rw [if_neg (by rw [h1]; decide), if_pos hf]
      exact N.r1 (RV.tmp rfl RV.nil) (Ent.refl _) ⟨by rw [e], M1, hl1, by unfold wrS; rw [e, if_neg (by decide)]⟩
    · have e : wrE d (catY vs) = 0 := by unfold wrE; rw [if_neg (by rw [h1]; decide), if_neg hf]
      exact N.r1 (RV.tmp rfl RV.nil) (Ent.refl _) ⟨by rw [e], M1, hl1, by unfold wrS; rw [e, if_pos rfl]⟩
def fmD (d : DK) (n : List UInt8) : DK := { d with fs := putL d.fs n ((fileD d n).1, (fileD d n).1.length) }
set_option maxHeartbeats 2000000 in
theorem FirmF_spec (p bp bd : Nat) (d : DK) (n : List UInt8) (a : Option Addr) (c : Nat) (M : Nat → Option Obj) (L : List HP) (h : SlM M a 1 1 [str n]) (hh : hasD d n) :
    CallsS Tryz.prog 77 [ptrD bp, ptrD bd] (diskH p d :: pt bp (cl [.slice a 1 c] 54) :: pt bd (cl [ptrD p] 26) :: roM M :: L) (fun r L' => r = .int .i64 0 ∧ L' = diskH p (fmD d n) :: roM M :: L) := by
  refine calls_disk fun mp ts hd => ?_
  refine CallsS.of_body Tryz.func77 rfl rfl rfl ?_
  obtain ⟨u, hz⟩ : ∃ u, lkL (α := Nat × FV) ts n = some u := by
    cases hz : lkL (α := Nat × FV) ts n with
    | some u => exact ⟨u, rfl⟩
    | none => exact absurd ((lk_none hd.fs).2 hz) hh
  obtain ⟨k, hkk⟩ := lk_ix hz
  obtain ⟨ub, ua, uc, ubs, ufirm⟩ := u
  refine swp_fs hkk ?_
  refine Q.r ?_; (repeat (intro b1; refine Q.r ?_))
  have hrd : RdS (oneP (ub, (⟨ua, uc, ubs, ufirm⟩ : FV)) :: oneS (ub, (⟨ua, uc, ubs, ufirm⟩ : FV)) :: fsH (ts.eraseIdx k) :: dP p mp d :: dM mp ts :: pt bp (cl [.slice a 1 c] 54) :: pt bd (cl [ptrD p] 26) :: roM M :: L) a 1 1 ([n].flatMap sC) := h.rd
  obtain ⟨b, o, rfl, hr⟩ := RdS.elem (k := 0) (x := n) (g := sC) (fun _ => rfl) hrd rfl rfl
  refine swp_cutB (σ := Unit) (fun _ => []) (fun _ => diskH p (fmD d n) :: roM M :: L) (fun _ => True) ?_ ?_
  · refine swp_loop (σ := Nat) (fun k => [(1, ptrD bd), (5, .slice (some ⟨b, o, none⟩) 1 c), (6, .int .i64 ((1 : Nat) : Int)), (7, .int .i64 k)])
      (fun i => oneP (ub, (⟨ua, uc, ubs, if i = 0 then ufirm else ubs.length⟩ : FV)) :: oneS (ub, (⟨ua, uc, ubs, ufirm⟩ : FV)) :: fsH (ts.eraseIdx k) :: dP p mp d :: dM mp ts :: pt bp (cl [.slice (some ⟨b, o, none⟩) 1 c] 54) :: pt bd (cl [ptrD p] 26) :: roM M :: L)
      (fun i => i ≤ 1) (fun i => 1 - i) 0 ⟨rfl, rfl, rfl, rfl, trivial⟩ (Ent.refl _) (by omega) ?_
    intro i hi
    by_cases h0 : i = 0
    · subst h0
      rw [if_pos rfl]
      refine Q.r ?_; (repeat (intro b1; refine Q.r ?_))
      refine Q.dgo [true, false, false, true, true, true, true] [18] [18] [0, 1, 2, 3, 4, 5, 6, 7, 8, 9, 10, 11, 12, 13, 14, 15, 16, 17, 18] ?_
      repeat (first | refine D.endA ?_ | refine Q.dp rfl rfl rfl ?_ | refine Q.dy rfl rfl rfl ?_ | refine D.end_ ?_ | refine Q.endH ?_ | (refine D.e rfl rfl rfl ?_; (first | refine S.gskip1 rfl ?_ | refine S.gskip rfl ?_ | refine S.y (Y.gskipU rfl) ?_); refine opsS_nil ?_; refine N.tn ?_))
      refine D.y rfl rfl rfl (by kernel_rfl) (Y.lk false rfl rfl (fun w => Tryz.zeroValue82 w)) ?_
      rw [hz]
      dsimp only
      repeat (first | refine D.endA ?_ | refine Q.dp rfl rfl rfl ?_ | refine Q.dy rfl rfl rfl ?_ | refine D.end_ ?_ | refine Q.endH ?_ | (refine D.e rfl rfl rfl ?_; (first | refine S.gskip1 rfl ?_ | refine S.gskip rfl ?_ | refine S.y (Y.gskipU rfl) ?_); refine opsS_nil ?_; refine N.tn ?_))
      refine D.y rfl rfl rfl (by kernel_rfl) (Y.lk false rfl rfl (fun w => Tryz.zeroValue82 w)) ?_
      rw [hz]
      dsimp only
      repeat (first | refine D.endA ?_ | refine Q.dp rfl rfl rfl ?_ | refine Q.dy rfl rfl rfl ?_ | refine D.end_ ?_ | refine Q.endH ?_ | (refine D.e rfl rfl rfl ?_; (first | refine S.gskip1 rfl ?_ | refine S.gskip rfl ?_ | refine S.y (Y.gskipU rfl) ?_); refine opsS_nil ?_; refine N.tn ?_))
      refine Q.dc rfl rfl rfl rfl ?_
      refine Q.r ?_; (repeat (intro b1; refine Q.r ?_))
      repeat (first | refine D.endA ?_ | refine Q.dp rfl rfl rfl ?_ | refine Q.dy rfl rfl rfl ?_ | refine D.end_ ?_ | refine Q.endH ?_ | (refine D.e rfl rfl rfl ?_; (first | refine S.gskip1 rfl ?_ | refine S.gskip rfl ?_ | refine S.y (Y.gskipU rfl) ?_); refine opsS_nil ?_; refine N.tn ?_))
      refine Q.r ?_; (repeat (intro b1; refine Q.r ?_))
      exact ⟨1, ⟨rfl, rfl, rfl, rfl, trivial⟩, by rw [if_neg (by decide)]; repeat (first | exact Ent.refl _ | exact Ent.nil | refine Ent.pick ?_ | refine Ent.nilS ?_ | refine Ent.nilM ?_ | refine Ent.drop ?_), by omega, by omega⟩
    · have h1 : i = 1 := by omega
      subst h1
      rw [if_neg (by decide)]
      refine Q.r ?_; (repeat (intro b1; refine Q.r ?_))
      have hkf := key_fs hd.fs hd.key
      have hfk : d.fs[k]? = some (n, ubs, ufirm) := by rw [← hd.fs, List.getElem?_map, hkk]; rfl
      have hlk : lkL d.fs n = some (ubs, ufirm) := by rw [lk_fs hd.fs, hz]; rfl
      have hwf : (fmD d n).fs = d.fs.set k (n, ubs, ubs.length) := by
        show putL d.fs n _ = _
        unfold fileD
        rw [hlk]
        exact put_set hkf hfk
      have hus : usedD (fmD d n).fs = usedD d.fs := by
        rw [hwf]; unfold usedD
        rw [set_same (fun u : List UInt8 × List UInt8 × Nat => u.2.1.length) (y := (n, ubs, ubs.length)) hfk rfl]
      have hd2 : DOK (fmD d n) (ts.set k (n, ub, ⟨ua, uc, ubs, ubs.length⟩)) := hd.set hkk _ rfl rfl hwf (by rw [hus]; exact hd.used) (Nat.le_refl _)
      refine ⟨(), trivial, ?_, trivial⟩
      exact Ent.trans (M := oneP (ub, (⟨ua, uc, ubs, ubs.length⟩ : FV)) :: oneS (ub, (⟨ua, uc, ubs, ubs.length⟩ : FV)) :: fsH (ts.eraseIdx k) :: dP p mp d :: dM mp ts :: roM M :: L) (by repeat (first | exact Ent.refl _ | exact Ent.nil | refine Ent.pick ?_ | refine Ent.nilS ?_ | refine Ent.nilM ?_ | refine Ent.drop ?_)) (disk_upd hkk hd2)
  · intro _ _
    refine Q.r ?_; (repeat (intro b1; refine Q.r ?_))
    exact N.r1 (RV.tmp rfl RV.nil) (Ent.refl _) ⟨rfl, rfl⟩
theorem hasM_app {M : Nat → Option Obj} {L : List HP} : ∀ X : List HP, HasM M L → HasM M (X ++ L)
  | [], h => h
  | A :: X, h => by
    have := hasM_app X h
    exact HasM.there
def fmE (d : DK) (n : List UInt8) : Int := if spendB d = false then 9 else if hasD d n then 0 else 6
def fmS (d : DK) (n : List UInt8) : DK := if fmE d n = 0 then fmD (spendD d) n else spendD d
theorem hasD_spend (d : DK) (n : List UInt8) : hasD (spendD d) n ↔ hasD d n := by unfold hasD; rw [spendD_fs]
set_option maxHeartbeats 2000000 in
theorem Firm_spec (p : Nat) (d : DK) (n : List UInt8) (a : Option Addr) (c : Nat) (M : Nat → Option Obj) (L : List HP) (h : SlM M a 1 1 [str n]) :
    CallsS Tryz.prog 56 [ptrD p, .slice a 1 c] (diskH p d :: roM M :: L) (fun r L' => r = .int .i64 (fmE d n) ∧ L' = diskH p (fmS d n) :: roM M :: L) := by
  refine CallsS.of_body Tryz.func56 rfl rfl rfl ?_
  refine Q.r ?_; (repeat (intro b1; refine Q.r ?_))
  refine S.y (Y.mf rfl rfl) ?_
  refine Q.r ?_; (repeat (intro b1; refine Q.r ?_))
  rename_i bd
  refine S.ck p rfl (change_spec p d 77 [ptrD b1, ptrD bd] a c [n] _ (fun r L' => r = .int .i64 0 ∧ L' = diskH p (fmD (spendD d) n) :: roM M :: L) (fun X => SlM.rd h (hm := hasM_app X inferInstance)) (by simp) (fun h1 h2 => ?_)) ?_
  · refine CallsS.ent (L' := diskH p (spendD d) :: pt b1 (cl [.slice a 1 c] 54) :: pt bd (cl [ptrD p] 26) :: roM M :: L) (by repeat (first | exact Ent.refl _ | exact Ent.nil | refine Ent.pick ?_ | refine Ent.nilS ?_ | refine Ent.nilM ?_ | refine Ent.drop ?_)) ?_
    exact FirmF_spec p b1 bd (spendD d) n a c M L h ((hasD_spend d n).2 (h2 n (by simp)))
  intro v L' hR
  refine Q.r ?_; (repeat (intro b1; refine Q.r ?_))
  rcases hR with ⟨h1, rfl, rfl⟩ | ⟨h1, ⟨x, hx, hx2⟩, rfl, rfl⟩ | ⟨h1, h2, rfl, rfl⟩
  · have e : fmE d n = 9 := by unfold fmE; rw [if_pos h1]
    refine N.r1 (RV.tmp rfl RV.nil) ?_ ⟨by rw [e], by unfold fmS; rw [e, if_neg (by decide)]⟩
    repeat (first | exact Ent.refl _ | exact Ent.nil | refine Ent.pick ?_ | refine Ent.nilS ?_ | refine Ent.nilM ?_ | refine Ent.drop ?_)
  · rw [List.mem_singleton.1 hx] at hx2
    have e : fmE d n = 6 := by unfold fmE; rw [if_neg (by rw [h1]; decide), if_neg hx2]
    refine N.r1 (RV.tmp rfl RV.nil) ?_ ⟨by rw [e], by unfold fmS; rw [e, if_neg (by decide)]⟩
    repeat (first | exact Ent.refl _ | exact Ent.nil | refine Ent.pick ?_ | refine Ent.nilS ?_ | refine Ent.nilM ?_ | refine Ent.drop ?_)
  · have e : fmE d n = 0 := by unfold fmE; rw [if_neg (by rw [h1]; decide), if_pos (h2 n (by simp))]
    exact N.r1 (RV.tmp rfl RV.nil) (Ent.refl _) ⟨by rw [e], by unfold fmS; rw [e, if_pos rfl]⟩
end Go.Proofs.YtkleenllkjodoaaGreatDoor
namespace Go.SX
open Go
theorem swp_sl {P : Program} {n : Nat} {cd : Code} {Q : Post} {f : Env} {L : List HP} (a : Option Addr) {t sz m c : Nat} {cs : List Value} {L0 : List HP} [h : PickS a L t sz m c cs L0]
    (hk : cs.length = m * sz → (m = 0 ∨ ∃ b, a = some ⟨b, 0, none⟩) → m ≤ c → swp P n cd Q f (slO t sz a m c cs :: L0)) : swp P n cd Q f L :=
  swp_ent (h.ent.trans slO_adr) (swp_pure fun hp => hk hp.1 hp.2.1 hp.2.2)
theorem slO_take {t sz m c k : Nat} {a : Option Addr} {cs : List Value} {L : List HP} (hk : k ≤ m) : Ent (slO t sz a m c cs :: L) (slO t sz a k c (cs.take (k * sz)) :: L) := fun w F H => by
  have H0 : St w (slO t sz a m c cs :: (L ++ F)) := by simpa using H
  obtain ⟨hl, hq⟩ := St.slO_open H0
  rcases hq with ⟨rfl, rfl, rfl, rfl, H2⟩ | ⟨b, rest, rfl, hm, hc, H2⟩
  · have : k = 0 := by omega
    subst this
    have := St.slO_none (t := t) (sz := sz) H2
    simpa using this
  · have e : cs ++ rest = cs.take (k * sz) ++ (cs.drop (k * sz) ++ rest) := by rw [← List.append_assoc, List.take_append_drop]
    have hks : k * sz ≤ m * sz := Nat.mul_le_mul_right _ hk
    rw [e] at H2 hc
    have := St.slO_shut (sz := sz) (m := k) (c := c) (by rw [List.length_take]; omega) (by omega) hc H2
    simpa using this
end Go.SX
namespace Go.Proofs.YtkleenllkjodoaaGreatDoor
open Go Go.SX
attribute [local irreducible] swp opsS thenS blockS retS CallsS St Ent YieldS anyS drawS
theorem slB_take {t m c k : Nat} {a : Option Addr} {bs : List UInt8} {L : List HP} (hm : bs.length = m) (hk : k ≤ m) : Ent (slO t 1 a m c (bs.map B) :: L) (slO t 1 a (bs.take k).length c ((bs.take k).map B) :: L) := by
  have h := slO_take (t := t) (sz := 1) (m := m) (c := c) (k := k) (a := a) (cs := bs.map B) (L := L) hk
  rw [Nat.mul_one, ← List.map_take] at h
  have e : (bs.take k).length = k := by rw [List.length_take]; omega
  rw [e]; exact h
theorem DOK.len {d : DK} {ts : List DE} (hd : DOK d ts) {k : Nat} {u : DE} (h : ts[k]? = some u) : u.2.2.bs.length ≤ 1048576 ∧ u.2.2.bs.length ≤ usedD d.fs := by
  have h1 := hd.used
  have h2 := hd.rm
  have h3 : u.2.2.bs.length ≤ usedD d.fs := by
    rw [← used_ts hd]
    exact sum_mem (List.mem_map_of_mem (f := fun u : DE => u.2.2.bs.length) (List.mem_of_getElem? h))
  omega
theorem used_set {l : List (List UInt8 × List UInt8 × Nat)} {i : Nat} {u v : List UInt8 × List UInt8 × Nat} (h : l[i]? = some u) (hl : v.2.1.length ≤ u.2.1.length) : usedD (l.set i v) ≤ usedD l := by
  induction l generalizing i with
  | nil => simp at h
  | cons x l ih =>
    cases i with
    | zero =>
      simp at h; subst h
      show v.2.1.length + usedD l ≤ x.2.1.length + usedD l
      omega
    | succ i =>
      have := ih (i := i) (by simpa using h)
      show x.2.1.length + usedD (l.set i v) ≤ x.2.1.length + usedD l
      omega
def looseD (d : DK) (n : List UInt8) : Nat := (fileD d n).1.length - (fileD d n).2
set_option maxHeartbeats 2000000 in
theorem Loose_spec (p : Nat) (d : DK) (n : List UInt8) (L : List HP) :
    CallsS Tryz.prog 25 [ptrD p, str n] (diskH p d :: L) (fun r L' => r = .int .i64 (looseD d n) ∧ L' = diskH p d :: L) := by
  refine calls_disk fun mp ts hd => ?_
  refine CallsS.of_body Tryz.func25 rfl rfl rfl ?_
  refine Q.r ?_; (repeat (intro b1; refine Q.r ?_))
  refine S.y (Y.lk false rfl rfl (fun w => Tryz.zeroValue82 w)) ?_
  cases hz : lkL (α := Nat × FV) ts n with
  | none =>
    dsimp only
    refine Q.r ?_; (repeat (intro b1; refine Q.r ?_))
    refine N.r1 (RV.tmp rfl RV.nil) (disk_shut hd) ⟨?_, rfl⟩
    unfold looseD fileD
    rw [lk_fs hd.fs, hz]; rfl
  | some u =>
    dsimp only
    obtain ⟨k, hkk⟩ := lk_ix hz
    obtain ⟨ub, ua, uc, ubs, ufirm⟩ := u
    have hfi := hd.firm _ (List.mem_of_getElem? hkk)
    dsimp only at hfi
    have hul := hd.len hkk
    dsimp only at hul
    refine opsS_fs hkk ?_
    refine Q.r ?_; (repeat (intro b1; refine Q.r ?_))
    refine Q.dgo [true, false, false, true, true] [] [] [0, 1, 2, 3, 4, 5, 6, 7, 8, 9, 10, 11, 12, 13, 14, 15, 16, 17, 18, 19, 20] ?_
    refine Q.rd ?_; (repeat (intro b1; refine Q.rd ?_))
    refine D.y rfl rfl rfl (by kernel_rfl) (Y.lk false rfl rfl (fun w => Tryz.zeroValue82 w)) ?_
    rw [hz]
    dsimp only
    refine Q.rd ?_; (repeat (intro b1; refine Q.rd ?_))
    refine D.y rfl rfl rfl (by kernel_rfl) (Y.lk false rfl rfl (fun w => Tryz.zeroValue82 w)) ?_
    rw [hz]
    dsimp only
    refine Q.rd ?_; (repeat (intro b1; refine Q.rd ?_))
    refine D.yp rfl rfl rfl (Y.subN (a := ubs.length) (b := ufirm) rfl rfl ⟨hfi, by omega⟩) ?_
    refine Q.rd ?_; (repeat (intro b1; refine Q.rd ?_))
    refine Q.r ?_; (repeat (intro b1; refine Q.r ?_))
    refine N.r1 (RV.tmp rfl RV.nil) (Ent.trans (M := oneP (ub, (⟨ua, uc, ubs, ufirm⟩ : FV)) :: oneS (ub, (⟨ua, uc, ubs, ufirm⟩ : FV)) :: fsH (ts.eraseIdx k) :: dP p mp d :: dM mp ts :: L) (by repeat (first | exact Ent.refl _ | exact Ent.nil | refine Ent.pick ?_ | refine Ent.nilS ?_ | refine Ent.nilM ?_ | refine Ent.drop ?_)) (Ent.trans (fs_back hkk) (Ent.trans (M := dP p mp d :: dM mp ts :: fsH ts :: L) (by repeat (first | exact Ent.refl _ | exact Ent.nil | refine Ent.pick ?_ | refine Ent.nilS ?_ | refine Ent.nilM ?_ | refine Ent.drop ?_)) (disk_shut hd)))) ⟨?_, rfl⟩
    unfold looseD fileD
    rw [lk_fs hd.fs, hz]; rfl
def tmD (d : DK) (n : List UInt8) (k : Nat) : DK := { d with fs := putL d.fs n ((fileD d n).1.take k, min (fileD d n).2 k) }
set_option maxHeartbeats 2000000 in
theorem TrimF_spec (p bd bn bk : Nat) (d : DK) (n : List UInt8) (k : Nat) (L : List HP) (hh : hasD d n) (hk : k ≤ (fileD d n).1.length) :
    CallsS Tryz.prog 84 [ptrD bd, ptrD bn, ptrD bk] (diskH p d :: pt bd (cl [ptrD p] 26) :: pt bn (cl [str n] 9) :: pt bk (cl [.int .i64 k] 3) :: L) (fun r L' => r = .int .i64 0 ∧ L' = diskH p (tmD d n k) :: L) := by
  refine calls_disk fun mp ts hd => ?_
  refine CallsS.of_body Tryz.func84 rfl rfl rfl ?_
  obtain ⟨u, hz⟩ : ∃ u, lkL (α := Nat × FV) ts n = some u := by
    cases hz : lkL (α := Nat × FV) ts n with
    | some u => exact ⟨u, rfl⟩
    | none => exact absurd ((lk_none hd.fs).2 hz) hh
  obtain ⟨i, hkk⟩ := lk_ix hz
  obtain ⟨ub, ua, uc, ubs, ufirm⟩ := u
  have hlk : lkL d.fs n = some (ubs, ufirm) := by rw [lk_fs hd.fs, hz]; rfl
  have hfd : fileD d n = (ubs, ufirm) := by unfold fileD; rw [hlk]; rfl
  rw [hfd] at hk
  dsimp only at hk
  have hfi := hd.firm _ (List.mem_of_getElem? hkk)
  dsimp only at hfi
  have hul := hd.len hkk
  dsimp only at hul
  refine swp_fs hkk ?_
  refine Q.r ?_; (repeat (intro b1; refine Q.r ?_))
  refine Q.dgo [false, false, false, true, true, true, true, true] [] [] [0, 1, 2, 3, 4, 5, 6] ?_
  refine Q.rd ?_; (repeat (intro b1; refine Q.rd ?_))
  refine D.y rfl rfl rfl (by kernel_rfl) (Y.lk false rfl rfl (fun w => Tryz.zeroValue82 w)) ?_
  rw [hz]
  dsimp only [cond_false]
  refine Q.rd ?_; (repeat (intro b1; refine Q.rd ?_))
  refine Q.r ?_; (repeat (intro b1; refine Q.r ?_))
  refine Q.dgo [true, false, false, true, true, true, true, true] [] [] [0, 1, 2, 3, 4, 5, 6, 7, 8, 9, 10] ?_
  refine Q.rd ?_; (repeat (intro b1; refine Q.rd ?_))
  refine Q.r ?_; (repeat (intro b1; refine Q.r ?_))
  have hfin : Ent (slO 5 1 ua ubs.length uc (ubs.map B) :: pt ub (cl [.slice ua k uc, .int .i64 (min (ufirm : Int) (k : Int))] 84) :: fsH (ts.eraseIdx i) :: dP p mp d :: dM mp ts :: L) (diskH p (tmD d n k) :: L) := by
    have hkf := key_fs hd.fs hd.key
    have hfk : d.fs[i]? = some (n, ubs, ufirm) := by rw [← hd.fs, List.getElem?_map, hkk]; rfl
    have hwf : (tmD d n k).fs = d.fs.set i (n, ubs.take k, min ufirm k) := by
      show putL d.fs n _ = _
      rw [hfd]
      exact put_set hkf hfk
    have hd2 : DOK (tmD d n k) (ts.set i (n, ub, ⟨ua, uc, ubs.take k, min ufirm k⟩)) := hd.set hkk _ rfl rfl hwf (by
      have h1 := hd.used
      have h2 : usedD (tmD d n k).fs ≤ usedD d.fs := by
        rw [hwf]
        exact used_set hfk (by simp; omega)
      show (usedD (tmD d n k).fs : Int) ≤ d.room
      omega) (by
      show min ufirm k ≤ (ubs.take k).length
      rw [List.length_take]; omega)
    refine Ent.trans (slB_take rfl hk) ?_
    have e1 : (ubs.take k).length = k := by rw [List.length_take]; omega
    have e2 : (min (ufirm : Int) (k : Int)) = ((min ufirm k : Nat) : Int) := by omega
    refine Ent.trans (M := oneP (ub, (⟨ua, uc, ubs.take k, min ufirm k⟩ : FV)) :: oneS (ub, (⟨ua, uc, ubs.take k, min ufirm k⟩ : FV)) :: fsH (ts.eraseIdx i) :: dP p mp d :: dM mp ts :: L) ?_ (disk_upd hkk hd2)
    show Ent _ (pt ub (cl [.slice ua (ubs.take k).length uc, .int .i64 ((min ufirm k : Nat) : Int)] 84) :: slO 5 1 ua (ubs.take k).length uc ((ubs.take k).map B) :: fsH (ts.eraseIdx i) :: dP p mp d :: dM mp ts :: L)
    rw [e1, e2]
    repeat (first | exact Ent.refl _ | exact Ent.nil | refine Ent.pick ?_ | refine Ent.nilS ?_ | refine Ent.nilM ?_ | refine Ent.drop ?_)

  refine swp_sl ua (fun _ _ hcap => ?_)
  dsimp only at hcap
  refine swp_ent (L' := oneP (ub, (⟨ua, uc, ubs, ufirm⟩ : FV)) :: oneS (ub, (⟨ua, uc, ubs, ufirm⟩ : FV)) :: fsH (ts.eraseIdx i) :: dP p mp d :: dM mp ts :: pt bd (cl [ptrD p] 26) :: pt bn (cl [str n] 9) :: pt bk (cl [.int .i64 k] 3) :: L) (by repeat (first | exact Ent.refl _ | exact Ent.nil | refine Ent.pick ?_ | refine Ent.nilS ?_ | refine Ent.nilM ?_ | refine Ent.drop ?_)) ?_
  refine Q.dgo [false, true, true, true, true, true, true, true] [5, 11, 16, 19] [] [0, 1, 2, 3, 4, 6, 8, 9, 10, 12, 99999, 0, 0, 0, 0, 0, 0, 0, 0, 0] ?_
  repeat (first | refine D.endA ?_ | refine Q.dp rfl rfl rfl ?_ | refine Q.dy rfl rfl rfl ?_ | refine D.end_ ?_ | refine Q.endH ?_ | (refine D.e rfl rfl rfl ?_; (first | refine S.gskip1 rfl ?_ | refine S.gskip rfl ?_ | refine S.y (Y.gskipU rfl) ?_); refine opsS_nil ?_; refine N.tn ?_))
  refine D.two 5 11 [7, 11, 13, 14, 15, 16, 17, 18, 19] [13, 5, 7, 14, 15, 16, 17, 18, 19] (by kernel_rfl) rfl rfl rfl rfl (by kernel_rfl) (by kernel_rfl) ?_ ?_
  · refine Q.r ?_; (repeat (intro b1; refine Q.r ?_))
    repeat (first | refine D.endA ?_ | refine Q.dp rfl rfl rfl ?_ | refine Q.dy rfl rfl rfl ?_ | refine D.end_ ?_ | refine Q.endH ?_ | (refine D.e rfl rfl rfl ?_; (first | refine S.gskip1 rfl ?_ | refine S.gskip rfl ?_ | refine S.y (Y.gskipU rfl) ?_); refine opsS_nil ?_; refine N.tn ?_))
    refine D.yp rfl rfl rfl (Y.slT (h := k) rfl rfl rfl (by dsimp only; omega)) ?_
    repeat (first | refine D.endA ?_ | refine Q.dp rfl rfl rfl ?_ | refine Q.dy rfl rfl rfl ?_ | refine D.end_ ?_ | refine Q.endH ?_ | (refine D.e rfl rfl rfl ?_; (first | refine S.gskip1 rfl ?_ | refine S.gskip rfl ?_ | refine S.y (Y.gskipU rfl) ?_); refine opsS_nil ?_; refine N.tn ?_))
    refine D.e rfl rfl rfl ?_
    refine Q.r ?_; (repeat (intro b1; refine Q.r ?_))
    repeat (first | refine D.endA ?_ | refine Q.dp rfl rfl rfl ?_ | refine Q.dy rfl rfl rfl ?_ | refine D.end_ ?_ | refine Q.endH ?_ | (refine D.e rfl rfl rfl ?_; (first | refine S.gskip1 rfl ?_ | refine S.gskip rfl ?_ | refine S.y (Y.gskipU rfl) ?_); refine opsS_nil ?_; refine N.tn ?_))
    refine D.e rfl rfl rfl ?_
    refine Q.r ?_; (repeat (intro b1; refine Q.r ?_))
    repeat (first | refine D.endA ?_ | refine Q.dp rfl rfl rfl ?_ | refine Q.dy rfl rfl rfl ?_ | refine D.end_ ?_ | refine Q.endH ?_ | (refine D.e rfl rfl rfl ?_; (first | refine S.gskip1 rfl ?_ | refine S.gskip rfl ?_ | refine S.y (Y.gskipU rfl) ?_); refine opsS_nil ?_; refine N.tn ?_))
    refine D.e rfl rfl rfl ?_
    refine Q.r ?_; (repeat (intro b1; refine Q.r ?_))
    repeat (first | refine D.endA ?_ | refine Q.dp rfl rfl rfl ?_ | refine Q.dy rfl rfl rfl ?_ | refine D.end_ ?_ | refine Q.endH ?_ | (refine D.e rfl rfl rfl ?_; (first | refine S.gskip1 rfl ?_ | refine S.gskip rfl ?_ | refine S.y (Y.gskipU rfl) ?_); refine opsS_nil ?_; refine N.tn ?_))
    refine Q.r ?_; (repeat (intro b1; refine Q.r ?_))
    refine N.r1 (RV.tmp rfl RV.nil) (Ent.trans (M := slO 5 1 ua ubs.length uc (ubs.map B) :: pt ub (cl [.slice ua k uc, .int .i64 (min (ufirm : Int) (k : Int))] 84) :: fsH (ts.eraseIdx i) :: dP p mp d :: dM mp ts :: L) (by repeat (first | exact Ent.refl _ | exact Ent.nil | refine Ent.pick ?_ | refine Ent.nilS ?_ | refine Ent.nilM ?_ | refine Ent.drop ?_)) hfin) ⟨rfl, rfl⟩
  · refine Q.r ?_; (repeat (intro b1; refine Q.r ?_))
    repeat (first | refine D.endA ?_ | refine Q.dp rfl rfl rfl ?_ | refine Q.dy rfl rfl rfl ?_ | refine D.end_ ?_ | refine Q.endH ?_ | (refine D.e rfl rfl rfl ?_; (first | refine S.gskip1 rfl ?_ | refine S.gskip rfl ?_ | refine S.y (Y.gskipU rfl) ?_); refine opsS_nil ?_; refine N.tn ?_))
    refine D.e rfl rfl rfl ?_
    refine Q.r ?_; (repeat (intro b1; refine Q.r ?_))
    repeat (first | refine D.endA ?_ | refine Q.dp rfl rfl rfl ?_ | refine Q.dy rfl rfl rfl ?_ | refine D.end_ ?_ | refine Q.endH ?_ | (refine D.e rfl rfl rfl ?_; (first | refine S.gskip1 rfl ?_ | refine S.gskip rfl ?_ | refine S.y (Y.gskipU rfl) ?_); refine opsS_nil ?_; refine N.tn ?_))
    refine D.yp rfl rfl rfl (Y.slT (h := k) rfl rfl rfl (by dsimp only; omega)) ?_
    repeat (first | refine D.endA ?_ | refine Q.dp rfl rfl rfl ?_ | refine Q.dy rfl rfl rfl ?_ | refine D.end_ ?_ | refine Q.endH ?_ | (refine D.e rfl rfl rfl ?_; (first | refine S.gskip1 rfl ?_ | refine S.gskip rfl ?_ | refine S.y (Y.gskipU rfl) ?_); refine opsS_nil ?_; refine N.tn ?_))
    refine D.e rfl rfl rfl ?_
    refine Q.r ?_; (repeat (intro b1; refine Q.r ?_))
    repeat (first | refine D.endA ?_ | refine Q.dp rfl rfl rfl ?_ | refine Q.dy rfl rfl rfl ?_ | refine D.end_ ?_ | refine Q.endH ?_ | (refine D.e rfl rfl rfl ?_; (first | refine S.gskip1 rfl ?_ | refine S.gskip rfl ?_ | refine S.y (Y.gskipU rfl) ?_); refine opsS_nil ?_; refine N.tn ?_))
    refine D.e rfl rfl rfl ?_
    refine Q.r ?_; (repeat (intro b1; refine Q.r ?_))
    repeat (first | refine D.endA ?_ | refine Q.dp rfl rfl rfl ?_ | refine Q.dy rfl rfl rfl ?_ | refine D.end_ ?_ | refine Q.endH ?_ | (refine D.e rfl rfl rfl ?_; (first | refine S.gskip1 rfl ?_ | refine S.gskip rfl ?_ | refine S.y (Y.gskipU rfl) ?_); refine opsS_nil ?_; refine N.tn ?_))
    refine Q.r ?_; (repeat (intro b1; refine Q.r ?_))
    refine N.r1 (RV.tmp rfl RV.nil) (Ent.trans (M := slO 5 1 ua ubs.length uc (ubs.map B) :: pt ub (cl [.slice ua k uc, .int .i64 (min (ufirm : Int) (k : Int))] 84) :: fsH (ts.eraseIdx i) :: dP p mp d :: dM mp ts :: L) (by repeat (first | exact Ent.refl _ | exact Ent.nil | refine Ent.pick ?_ | refine Ent.nilS ?_ | refine Ent.nilM ?_ | refine Ent.drop ?_)) hfin) ⟨rfl, rfl⟩
def tmE (d : DK) (n : List UInt8) : Int := if spendB d = false then 9 else if hasD d n then 0 else 6
def tmS (d : DK) (n : List UInt8) (k : Nat) : DK := if tmE d n = 0 then tmD (spendD d) n k else spendD d
theorem fileD_spend (d : DK) (n : List UInt8) : fileD (spendD d) n = fileD d n := by unfold fileD; rw [spendD_fs]
theorem RdS.rowk {L : List HP} {b n : Nat} {l : List Value} {t : TypeId} [h : FindB b L (cl l t)] (hl : l.length = n) : RdS L (some ⟨b, 0, none⟩) n 1 l := ⟨by rw [hl, Nat.mul_one], .inr ⟨b, 0, rfl, RdC.row⟩⟩
theorem RdS.app {L : List HP} {a : Option Addr} {m sz : Nat} {cs : List Value} (h : RdS L a m sz cs) : ∀ X : List HP, RdS (X ++ L) a m sz cs
  | [] => h
  | A :: X => RdS.ent (RdS.app h X) (Sub.there (A := A) (h := Sub.refl)).ent
set_option maxHeartbeats 2000000 in
theorem Trim_spec (p : Nat) (d : DK) (n : List UInt8) (k : Nat) (L : List HP) (hk : k ≤ (fileD d n).1.length) :
    CallsS Tryz.prog 68 [ptrD p, str n, .int .i64 k] (diskH p d :: L) (fun r L' => r = .int .i64 (tmE d n) ∧ L' = diskH p (tmS d n k) :: L) := by
  refine CallsS.of_body Tryz.func68 rfl rfl rfl ?_
  refine Q.r ?_; (repeat (intro b1; refine Q.r ?_))
  refine S.y (Y.mf rfl rfl) ?_
  refine Q.r ?_; (repeat (intro b1; refine Q.r ?_))
  rename_i bd bn bk
  refine S.ck p rfl (change_spec p d 84 [ptrD bd, ptrD bn, ptrD bk] (some ⟨b1, 0, none⟩) 1 [n] _ (fun r L' => r = .int .i64 0 ∧ L' = diskH p (tmD (spendD d) n k) :: L) (fun X => RdS.app (RdS.rowk rfl) X) (by simp) (fun h1 h2 => ?_)) ?_
  · refine CallsS.ent (L' := diskH p (spendD d) :: pt bd (cl [ptrD p] 26) :: pt bn (cl [str n] 9) :: pt bk (cl [.int .i64 k] 3) :: L) (by repeat (first | exact Ent.refl _ | exact Ent.nil | refine Ent.pick ?_ | refine Ent.nilS ?_ | refine Ent.nilM ?_ | refine Ent.drop ?_)) ?_
    exact TrimF_spec p bd bn bk (spendD d) n k L ((hasD_spend d n).2 (h2 n (by simp))) (by rw [fileD_spend]; exact hk)
  intro v L' hR
  refine Q.r ?_; (repeat (intro b1; refine Q.r ?_))
  rcases hR with ⟨h1, rfl, rfl⟩ | ⟨h1, ⟨x, hx, hx2⟩, rfl, rfl⟩ | ⟨h1, h2, rfl, rfl⟩
  · have e : tmE d n = 9 := by unfold tmE; rw [if_pos h1]
    refine N.r1 (RV.tmp rfl RV.nil) ?_ ⟨by rw [e], by unfold tmS; rw [e, if_neg (by decide)]⟩
    repeat (first | exact Ent.refl _ | exact Ent.nil | refine Ent.pick ?_ | refine Ent.nilS ?_ | refine Ent.nilM ?_ | refine Ent.drop ?_)
  · rw [List.mem_singleton.1 hx] at hx2
    have e : tmE d n = 6 := by unfold tmE; rw [if_neg (by rw [h1]; decide), if_neg hx2]
    refine N.r1 (RV.tmp rfl RV.nil) ?_ ⟨by rw [e], by unfold tmS; rw [e, if_neg (by decide)]⟩
    repeat (first | exact Ent.refl _ | exact Ent.nil | refine Ent.pick ?_ | refine Ent.nilS ?_ | refine Ent.nilM ?_ | refine Ent.drop ?_)
  · have e : tmE d n = 0 := by unfold tmE; rw [if_neg (by rw [h1]; decide), if_pos (h2 n (by simp))]
    exact N.r1 (RV.tmp rfl RV.nil) (Ent.refl _) ⟨by rw [e], by unfold tmS; rw [e, if_pos rfl]⟩
end Go.Proofs.YtkleenllkjodoaaGreatDoor
namespace Go.Proofs.YtkleenllkjodoaaGreatDoor
open Go Go.SX
attribute [local irreducible] swp opsS thenS blockS retS CallsS St Ent YieldS anyS drawS
theorem del_eraseK {α : Type} {ts : List (List UInt8 × α)} (hk : keysOK ts) {k : Nat} {n : List UInt8} {u : α} (h : ts[k]? = some (n, u)) : delL ts n = ts.eraseIdx k := by
  have hkl : k < ts.length := (List.getElem?_eq_some_iff.1 h).1
  have he := (List.getElem?_eq_some_iff.1 h).2
  rcases keyCase ts hk n with ⟨p, a, q, hpq, hp, hqn⟩ | hn
  · have hkp : k = p.length := by
      rw [hpq] at h
      rcases Nat.lt_trichotomy k p.length with h1 | h1 | h1
      · rw [List.getElem?_append_left h1] at h
        exact absurd rfl (hp _ (List.mem_of_getElem? h))
      · exact h1
      · rw [List.getElem?_append_right (by omega)] at h
        obtain ⟨d, hd⟩ : ∃ d, k - p.length = d + 1 := ⟨k - p.length - 1, by omega⟩
        rw [hd, List.getElem?_cons_succ] at h
        exact absurd rfl (hqn _ (List.mem_of_getElem? h))
    rw [hpq, delL_mid hp hqn, hkp, List.eraseIdx_append_of_length_le (Nat.le_refl _), Nat.sub_self, List.eraseIdx_cons_zero]
  · exact absurd rfl (hn (n, u) (List.mem_of_getElem? h))
theorem used_del (l : List (List UInt8 × List UInt8 × Nat)) (n : List UInt8) : usedD (delL l n) ≤ usedD l := by
  induction l with
  | nil => exact Nat.le_refl _
  | cons x l ih =>
    have e : usedD (x :: l) = x.2.1.length + usedD l := by simp [usedD]
    by_cases h : x.1 = n
    · have : delL (x :: l) n = delL l n := by simp [delL, h]
      rw [this]; omega
    · have : delL (x :: l) n = x :: delL l n := by simp [delL, h]
      rw [this]
      have : usedD (x :: delL l n) = x.2.1.length + usedD (delL l n) := by simp [usedD]
      omega
theorem abs_del (ts : List DE) (n : List UInt8) : (delL (α := Nat × FV) ts n).map DE.abs = delL (ts.map DE.abs) n := by
  induction ts with
  | nil => rfl
  | cons x ts ih =>
    by_cases h : x.1 = n
    · have e1 : delL (α := Nat × FV) (x :: ts) n = delL (α := Nat × FV) ts n := by simp [delL, h]
      have e2 : delL ((x :: ts).map DE.abs) n = delL (ts.map DE.abs) n := by simp [delL, h]
      rw [e1, e2, ih]
    · have e1 : delL (α := Nat × FV) (x :: ts) n = x :: delL (α := Nat × FV) ts n := by simp [delL, h]
      have e2 : delL ((x :: ts).map DE.abs) n = x.abs :: delL (ts.map DE.abs) n := by simp [delL, h]
      rw [e1, e2, ← ih]; rfl
def delD (d : DK) (n : List UInt8) : DK := { d with fs := delL d.fs n }
theorem DOK.del {d : DK} {ts : List DE} (h : DOK d ts) (n : List UInt8) : DOK (delD d n) (delL (α := Nat × FV) ts n) :=
  ⟨by rw [abs_del, h.fs]; rfl, delL_ok h.key n, h.lm, h.rm, by
    have h1 := used_del d.fs n
    have h2 := h.used
    show (usedD (delL d.fs n) : Int) ≤ d.room
    omega, Nat.le_trans (List.length_filter_le _ _) h.few, fun u hu => h.firm u (List.mem_filter.1 hu).1⟩
theorem fs_del {ts : List DE} (hk : keysOK ts) (n : List UInt8) {L : List HP} : Ent (fsH ts :: L) (fsH (delL (α := Nat × FV) ts n) :: L) := by
  cases hz : lkL (α := Nat × FV) ts n with
  | none =>
    have e : delL (α := Nat × FV) ts n = ts := delL_none fun u hu h => by
      have := (lkL_iff hk (x := n) (a := u.2)).2 (by rw [← h]; exact hu)
      rw [this] at hz; cases hz
    rw [e]; exact Ent.refl _
  | some u =>
    obtain ⟨k, hkk⟩ := lk_ix hz
    rw [del_eraseK hk hkk]
    exact Ent.trans (fs_out hkk) (Ent.drop (Ent.drop (Ent.refl _)))
def swD (d : DK) (n m : List UInt8) : DK := { d with fs := delL d.fs n ++ [(m, (fileD d n).1.take (fileD d n).2, (fileD d n).2)] }
set_option maxHeartbeats 2000000 in
theorem SwapF_spec (p bd bn bm : Nat) (d : DK) (n m : List UInt8) (L : List HP) (hh : hasD d n) (hm : ¬ hasD d m) (hr : rightS m) :
    CallsS Tryz.prog 89 [ptrD bd, ptrD bn, ptrD bm] (diskH p d :: pt bd (cl [ptrD p] 26) :: pt bn (cl [str n] 9) :: pt bm (cl [str m] 9) :: L) (fun r L' => r = .int .i64 0 ∧ L' = diskH p (swD d n m) :: L) := by
  refine calls_disk fun mp ts hd => ?_
  refine CallsS.of_body Tryz.func89 rfl rfl rfl ?_
  obtain ⟨u, hz⟩ : ∃ u, lkL (α := Nat × FV) ts n = some u := by
    cases hz : lkL (α := Nat × FV) ts n with
    | some u => exact ⟨u, rfl⟩
    | none => exact absurd ((lk_none hd.fs).2 hz) hh
  obtain ⟨i, hkk⟩ := lk_ix hz
  obtain ⟨ub, ua, uc, ubs, ufirm⟩ := u
  have hlk : lkL d.fs n = some (ubs, ufirm) := by rw [lk_fs hd.fs, hz]; rfl
  have hfd : fileD d n = (ubs, ufirm) := by unfold fileD; rw [hlk]; rfl
  have hfi := hd.firm _ (List.mem_of_getElem? hkk)
  dsimp only at hfi
  have hul := hd.len hkk
  dsimp only at hul
  refine swp_fs hkk ?_
  refine Q.r ?_; (repeat (intro b1; refine Q.r ?_))
  refine Q.dgo [false, false, false, true, true, true, true, true] [] [] [0, 1, 2, 3, 4, 5, 6] ?_
  refine Q.rd ?_; (repeat (intro b1; refine Q.rd ?_))
  refine D.y rfl rfl rfl (by kernel_rfl) (Y.lk false rfl rfl (fun w => Tryz.zeroValue82 w)) ?_
  rw [hz]
  dsimp only [cond_false]
  refine Q.rd ?_; (repeat (intro b1; refine Q.rd ?_))
  refine Q.r ?_; (repeat (intro b1; refine Q.r ?_))
  refine S.cr rfl (right_spec m _ hr) ?_
  rintro _ _ ⟨rfl, rfl⟩
  refine Q.r ?_; (repeat (intro b1; refine Q.r ?_))
  refine swp_sl ua (fun _ _ hcap => ?_)
  dsimp only at hcap
  refine swp_ent (L' := oneP (ub, (⟨ua, uc, ubs, ufirm⟩ : FV)) :: oneS (ub, (⟨ua, uc, ubs, ufirm⟩ : FV)) :: fsH (ts.eraseIdx i) :: dP p mp d :: dM mp ts :: pt bd (cl [ptrD p] 26) :: pt bn (cl [str n] 9) :: pt bm (cl [str m] 9) :: L) (by repeat (first | exact Ent.refl _ | exact Ent.nil | refine Ent.pick ?_ | refine Ent.nilS ?_ | refine Ent.nilM ?_ | refine Ent.drop ?_)) ?_
  refine Q.dgo [true, false, false, false, false, false, false, false] [12] [12] [0, 1, 2, 3, 4, 5, 6, 7, 8, 9, 10, 11, 12] ?_
  repeat (first | refine D.endA ?_ | refine Q.dp rfl rfl rfl ?_ | refine Q.dy rfl rfl rfl ?_ | refine D.end_ ?_ | refine Q.endH ?_ | (refine D.e rfl rfl rfl ?_; (first | refine S.gskip1 rfl ?_ | refine S.gskip rfl ?_ | refine S.y (Y.gskipU rfl) ?_); refine opsS_nil ?_; refine N.tn ?_))
  refine D.yp rfl rfl rfl (Y.slT (h := ufirm) rfl rfl rfl (by dsimp only; omega)) ?_
  repeat (first | refine D.endA ?_ | refine Q.dp rfl rfl rfl ?_ | refine Q.dy rfl rfl rfl ?_ | refine D.end_ ?_ | refine Q.endH ?_ | (refine D.e rfl rfl rfl ?_; (first | refine S.gskip1 rfl ?_ | refine S.gskip rfl ?_ | refine S.y (Y.gskipU rfl) ?_); refine opsS_nil ?_; refine N.tn ?_))
  refine Q.dc rfl rfl rfl rfl ?_
  refine Q.r ?_; (repeat (intro b1; refine Q.r ?_))
  repeat (first | refine D.endA ?_ | refine Q.dp rfl rfl rfl ?_ | refine Q.dy rfl rfl rfl ?_ | refine D.end_ ?_ | refine Q.endH ?_ | (refine D.e rfl rfl rfl ?_; (first | refine S.gskip1 rfl ?_ | refine S.gskip rfl ?_ | refine S.y (Y.gskipU rfl) ?_); refine opsS_nil ?_; refine N.tn ?_))
  refine Q.r ?_; (repeat (intro b1; refine Q.r ?_))
  refine swp_ent (L' := pt ub (cl [.slice ua ufirm uc, .int .i64 ufirm] 84) :: slO 5 1 ua ubs.length uc (ubs.map B) :: fsH (ts.eraseIdx i) :: dP p mp d :: pt bd (cl [ptrD p] 26) :: pt bn (cl [str n] 9) :: pt bm (cl [str m] 9) :: dM mp ts :: L) (by repeat (first | exact Ent.refl _ | exact Ent.nil | refine Ent.pick ?_ | refine Ent.nilS ?_ | refine Ent.nilM ?_ | refine Ent.drop ?_)) ?_
  refine Q.dgo [false, false, false, true, true, true, true, false] [5] [] [0, 1, 2, 3, 4, 5] ?_
  refine Q.rd ?_; (repeat (intro b1; refine Q.rd ?_))
  refine D.e rfl rfl rfl ?_
  refine S.dl rfl rfl ?_
  refine Q.r ?_; (repeat (intro b1; refine Q.r ?_))
  repeat (first | refine D.endA ?_ | refine Q.dp rfl rfl rfl ?_ | refine Q.dy rfl rfl rfl ?_ | refine D.end_ ?_ | refine Q.endH ?_ | (refine D.e rfl rfl rfl ?_; (first | refine S.gskip1 rfl ?_ | refine S.gskip rfl ?_ | refine S.y (Y.gskipU rfl) ?_); refine opsS_nil ?_; refine N.tn ?_))
  refine Q.r ?_; (repeat (intro b1; refine Q.r ?_))
  rw [del_eraseK hd.key hkk]
  refine swp_ent (L' := dP p mp d :: pt bd (cl [ptrD p] 26) :: pt bn (cl [str n] 9) :: pt bm (cl [str m] 9) :: dM mp (ts.eraseIdx i) :: pt ub (cl [.slice ua ufirm uc, .int .i64 ufirm] 84) :: slO 5 1 ua ubs.length uc (ubs.map B) :: fsH (ts.eraseIdx i) :: L) (by repeat (first | exact Ent.refl _ | exact Ent.nil | refine Ent.pick ?_ | refine Ent.nilS ?_ | refine Ent.nilM ?_ | refine Ent.drop ?_)) ?_
  refine Q.dgo [true, true, true, true, false, false, false, false] [6] [] [0, 1, 2, 3, 4, 5, 6] ?_
  refine Q.rd ?_; (repeat (intro b1; refine Q.rd ?_))
  refine D.e rfl rfl rfl ?_
  refine S.mu (u := ((ub, ⟨ua, uc, ubs.take ufirm, ufirm⟩) : Nat × FV)) rfl rfl rfl ?_
  refine Q.r ?_; (repeat (intro b1; refine Q.r ?_))
  repeat (first | refine D.endA ?_ | refine Q.dp rfl rfl rfl ?_ | refine Q.dy rfl rfl rfl ?_ | refine D.end_ ?_ | refine Q.endH ?_ | (refine D.e rfl rfl rfl ?_; (first | refine S.gskip1 rfl ?_ | refine S.gskip rfl ?_ | refine S.y (Y.gskipU rfl) ?_); refine opsS_nil ?_; refine N.tn ?_))
  refine Q.r ?_; (repeat (intro b1; refine Q.r ?_))
  have hdel : delL (α := Nat × FV) ts n = ts.eraseIdx i := del_eraseK hd.key hkk
  have hmn : ∀ u ∈ ts.eraseIdx i, u.1 ≠ m := by
    intro u hu h
    rw [← hdel] at hu
    have h1 := (List.mem_filter.1 hu).1
    exact hm fun h2 => by
      have := (lkL_iff hd.key (x := m) (a := u.2)).2 (by rw [← h]; exact h1)
      rw [(lk_none hd.fs).1 h2] at this; cases this
  have hk1 : (ubs.take ufirm).length = ufirm := by rw [List.length_take]; omega
  have hput : putL (α := Nat × FV) (ts.eraseIdx i) m ((ub, ⟨ua, uc, ubs.take ufirm, ufirm⟩) : Nat × FV) = ts.eraseIdx i ++ [(m, ub, ⟨ua, uc, ubs.take ufirm, ufirm⟩)] := putL_none hmn
  rw [hput]
  have hus : usedD (delL d.fs n) + ubs.length = usedD d.fs := by
    have h1 := erase_perm ts i _ hkk
    have h2 := (h1.map fun u : DE => u.2.2.bs.length).sum_nat
    rw [List.map_cons, List.sum_cons] at h2
    rw [used_ts hd] at h2
    have h3 := used_ts (hd.del n)
    rw [hdel] at h3
    have h4 : usedD (delD d n).fs = usedD (delL d.fs n) := rfl
    rw [h4] at h3
    dsimp only at h2
    omega
  have hd2 : DOK (swD d n m) (ts.eraseIdx i ++ [(m, ub, ⟨ua, uc, ubs.take ufirm, ufirm⟩)]) := by
    refine ⟨?_, ?_, hd.lm, hd.rm, ?_, ?_, ?_⟩
    · rw [List.map_append, ← hdel, abs_del, hd.fs]
      show _ = delL d.fs n ++ [(m, (fileD d n).1.take (fileD d n).2, (fileD d n).2)]
      rw [hfd]; rfl
    · rw [← hput, ← hdel]; exact putL_ok (delL_ok hd.key n) m _
    · show (usedD (delL d.fs n ++ [(m, (fileD d n).1.take (fileD d n).2, (fileD d n).2)]) : Int) ≤ d.room
      rw [used_app, hfd]
      have h1 := hd.used
      have h2 : usedD [(m, ubs.take ufirm, ufirm)] = ufirm := by simp [usedD]; omega
      rw [h2]
      omega
    · have h1 := hd.few
      have h2 := (List.getElem?_eq_some_iff.1 hkk).1
      rw [List.length_append, List.length_eraseIdx_of_lt h2]
      show _ + 1 ≤ 16
      omega
    · intro u hu
      rcases List.mem_append.1 hu with hu | hu
      · rw [← hdel] at hu; exact hd.firm u (List.mem_filter.1 hu).1
      · rw [List.mem_singleton.1 hu]
        show ufirm ≤ (ubs.take ufirm).length
        omega
  refine N.r1 (RV.tmp rfl RV.nil) ?_ ⟨rfl, rfl⟩
  refine Ent.trans (M := slO 5 1 ua ubs.length uc (ubs.map B) :: pt ub (cl [.slice ua ufirm uc, .int .i64 ufirm] 84) :: fsH (ts.eraseIdx i) :: dP p mp d :: dM mp (ts.eraseIdx i ++ [(m, ub, ⟨ua, uc, ubs.take ufirm, ufirm⟩)]) :: L) (by repeat (first | exact Ent.refl _ | exact Ent.nil | refine Ent.pick ?_ | refine Ent.nilS ?_ | refine Ent.nilM ?_ | refine Ent.drop ?_)) ?_
  refine Ent.trans (slB_take rfl hfi) ?_
  refine Ent.trans (M := oneP (ub, (⟨ua, uc, ubs.take ufirm, ufirm⟩ : FV)) :: oneS (ub, (⟨ua, uc, ubs.take ufirm, ufirm⟩ : FV)) :: fsH (ts.eraseIdx i) :: dP p mp (swD d n m) :: dM mp (ts.eraseIdx i ++ [(m, ub, ⟨ua, uc, ubs.take ufirm, ufirm⟩)]) :: L) ?_ (Ent.trans (fs_new (ts.eraseIdx i) (m, ub, ⟨ua, uc, ubs.take ufirm, ufirm⟩)) (Ent.trans (M := dP p mp (swD d n m) :: dM mp (ts.eraseIdx i ++ [(m, ub, ⟨ua, uc, ubs.take ufirm, ufirm⟩)]) :: fsH (ts.eraseIdx i ++ [(m, ub, ⟨ua, uc, ubs.take ufirm, ufirm⟩)]) :: L) (by repeat (first | exact Ent.refl _ | exact Ent.nil | refine Ent.pick ?_ | refine Ent.nilS ?_ | refine Ent.nilM ?_ | refine Ent.drop ?_)) (disk_shut hd2)))
  show Ent _ (pt ub (cl [.slice ua (ubs.take ufirm).length uc, .int .i64 ufirm] 84) :: slO 5 1 ua (ubs.take ufirm).length uc ((ubs.take ufirm).map B) :: fsH (ts.eraseIdx i) :: dP p mp d :: dM mp (ts.eraseIdx i ++ [(m, ub, ⟨ua, uc, ubs.take ufirm, ufirm⟩)]) :: L)
  rw [hk1]
  repeat (first | exact Ent.refl _ | exact Ent.nil | refine Ent.pick ?_ | refine Ent.nilS ?_ | refine Ent.nilM ?_ | refine Ent.drop ?_)
def swE (d : DK) : Int := if spendB d = false then 9 else 0
def swS (d : DK) (n m : List UInt8) : DK := if spendB d = false then spendD d else swD (spendD d) n m
set_option maxHeartbeats 2000000 in
theorem Swap_spec (p : Nat) (d : DK) (n m : List UInt8) (L : List HP) (hh : hasD d n) (hm : ¬ hasD d m) (hr : rightS m) :
    CallsS Tryz.prog 79 [ptrD p, str n, str m] (diskH p d :: L) (fun r L' => r = .int .i64 (swE d) ∧ L' = diskH p (swS d n m) :: L) := by
  refine CallsS.of_body Tryz.func79 rfl rfl rfl ?_
  refine Q.r ?_; (repeat (intro b1; refine Q.r ?_))
  refine S.y (Y.mf rfl rfl) ?_
  refine Q.r ?_; (repeat (intro b1; refine Q.r ?_))
  rename_i bd bn
  refine S.ck p rfl (change_spec p d 89 [ptrD bd, ptrD bn, ptrD b1] none 0 [] _ (fun r L' => r = .int .i64 0 ∧ L' = diskH p (swD (spendD d) n m) :: L) (fun X => ⟨rfl, .inl rfl⟩) (by simp) (fun h1 h2 => ?_)) ?_
  · refine CallsS.ent (L' := diskH p (spendD d) :: pt bd (cl [ptrD p] 26) :: pt bn (cl [str n] 9) :: pt b1 (cl [str m] 9) :: L) (by repeat (first | exact Ent.refl _ | exact Ent.nil | refine Ent.pick ?_ | refine Ent.nilS ?_ | refine Ent.nilM ?_ | refine Ent.drop ?_)) ?_
    exact SwapF_spec p bd bn b1 (spendD d) n m L ((hasD_spend d n).2 hh) (fun h => hm ((hasD_spend d m).1 h)) hr
  intro v L' hR
  refine Q.r ?_; (repeat (intro b1; refine Q.r ?_))
  rcases hR with ⟨h1, rfl, rfl⟩ | ⟨h1, ⟨x, hx, hx2⟩, rfl, rfl⟩ | ⟨h1, h2, rfl, rfl⟩
  · refine N.r1 (RV.tmp rfl RV.nil) ?_ ⟨by unfold swE; rw [if_pos h1], by unfold swS; rw [if_pos h1]⟩
    repeat (first | exact Ent.refl _ | exact Ent.nil | refine Ent.pick ?_ | refine Ent.nilS ?_ | refine Ent.nilM ?_ | refine Ent.drop ?_)
  · cases hx
  · have h3 : ¬ spendB d = false := by rw [h1]; decide
    exact N.r1 (RV.tmp rfl RV.nil) (Ent.refl _) ⟨by unfold swE; rw [if_neg h3], by unfold swS; rw [if_neg h3]⟩
def dropD (d : DK) (ns : List (List UInt8)) : DK := { d with fs := ns.foldl delL d.fs }
theorem dropD_snoc (d : DK) (ns : List (List UInt8)) (n : List UInt8) : dropD d (ns ++ [n]) = delD (dropD d ns) n := by
  unfold dropD delD; rw [List.foldl_append]; rfl
set_option maxHeartbeats 2000000 in
theorem DropF_spec (p bn bd : Nat) (d : DK) (a : Option Addr) (c : Nat) (ns : List (List UInt8)) (L : List HP) (hns : ∀ X : List HP, RdS (X ++ L) a ns.length 1 (ns.map str)) (hn : ns.length ≤ 1000000) :
    CallsS Tryz.prog 69 [ptrD bn, ptrD bd] (diskH p d :: pt bn (cl [.slice a ns.length c] 54) :: pt bd (cl [ptrD p] 26) :: L) (fun r L' => r = .int .i64 0 ∧ L' = diskH p (dropD d ns) :: L) := by
  refine CallsS.of_body Tryz.func69 rfl rfl rfl ?_
  refine Q.r ?_; (repeat (intro b1; refine Q.r ?_))
  have hns0 : ∀ X : List HP, RdS (X ++ L) a ns.length 1 (ns.flatMap sC) := fun X => by rw [flat_sC]; exact hns X
  refine swp_cutB (σ := Unit) (fun _ => []) (fun _ => diskH p (dropD d ns) :: L) (fun _ => True) ?_ ?_
  · refine swp_loop (σ := Nat) (fun k => [(0, ptrD bn), (1, ptrD bd), (5, .slice a ns.length c), (6, .int .i64 ns.length), (7, .int .i64 k)]) (fun k => diskH p (dropD d (ns.take k)) :: pt bn (cl [.slice a ns.length c] 54) :: pt bd (cl [ptrD p] 26) :: L)
      (fun k => k ≤ ns.length) (fun k => ns.length - k) 0 ⟨rfl, rfl, rfl, rfl, rfl, trivial⟩ (Ent.refl _) (by omega) ?_
    intro k hk
    by_cases hlt : k < ns.length
    · obtain ⟨n, hnk⟩ := mem_get hlt
      obtain ⟨b, o, rfl, hr⟩ := RdS.elem (g := sC) (fun _ => rfl) (show RdS L a ns.length 1 (ns.flatMap sC) from hns0 []) hnk rfl
      refine swp_disk p fun mp ts hd => ?_
      have hr2 := hr.sub (L := dP p mp (dropD d (ns.take k)) :: dM mp ts :: fsH ts :: pt bn (cl [.slice (some ⟨b, o, none⟩) ns.length c] 54) :: pt bd (cl [ptrD p] 26) :: L)
      refine Q.r ?_; (repeat (intro b1; refine Q.r ?_))
      refine S.dl rfl rfl ?_
      refine Q.r ?_; (repeat (intro b1; refine Q.r ?_))
      refine ⟨k + 1, ⟨rfl, rfl, rfl, rfl, rfl, trivial⟩, ?_, by omega, by omega⟩
      rw [take_snoc hnk, dropD_snoc]
      refine Ent.trans (M := fsH ts :: dP p mp (delD (dropD d (ns.take k)) n) :: dM mp (delL (α := Nat × FV) ts n) :: pt bn (cl [.slice (some ⟨b, o, none⟩) ns.length c] 54) :: pt bd (cl [ptrD p] 26) :: L) (by repeat (first | exact Ent.refl _ | exact Ent.nil | refine Ent.pick ?_ | refine Ent.nilS ?_ | refine Ent.nilM ?_ | refine Ent.drop ?_)) (Ent.trans (fs_del hd.key n) ?_)
      exact Ent.trans (M := dP p mp (delD (dropD d (ns.take k)) n) :: dM mp (delL (α := Nat × FV) ts n) :: fsH (delL (α := Nat × FV) ts n) :: pt bn (cl [.slice (some ⟨b, o, none⟩) ns.length c] 54) :: pt bd (cl [ptrD p] 26) :: L) (by repeat (first | exact Ent.refl _ | exact Ent.nil | refine Ent.pick ?_ | refine Ent.nilS ?_ | refine Ent.nilM ?_ | refine Ent.drop ?_)) (disk_shut (hd.del n))
    · have hke : k = ns.length := by omega
      subst hke
      rw [List.take_length]
      refine Q.r ?_; (repeat (intro b1; refine Q.r ?_))
      exact ⟨(), trivial, by repeat (first | exact Ent.refl _ | exact Ent.nil | refine Ent.pick ?_ | refine Ent.nilS ?_ | refine Ent.nilM ?_ | refine Ent.drop ?_), trivial⟩
  · intro _ _
    refine Q.r ?_; (repeat (intro b1; refine Q.r ?_))
    exact N.r1 (RV.tmp rfl RV.nil) (Ent.refl _) ⟨rfl, rfl⟩
def drE (d : DK) (ns : List (List UInt8)) : Int := if spendB d = false then 9 else 0
def drS (d : DK) (ns : List (List UInt8)) : DK := if spendB d = false then spendD d else dropD (spendD d) ns
set_option maxHeartbeats 2000000 in
theorem Drop_spec (p : Nat) (d : DK) (a : Option Addr) (c : Nat) (ns : List (List UInt8)) (L : List HP) (hns : ∀ X : List HP, RdS (X ++ L) a ns.length 1 (ns.map str)) (hn : ns.length ≤ 1000000) (hh : ∀ n ∈ ns, hasD d n) :
    CallsS Tryz.prog 47 [ptrD p, .slice a ns.length c] (diskH p d :: L) (fun r L' => r = .int .i64 (drE d ns) ∧ L' = diskH p (drS d ns) :: L) := by
  refine CallsS.of_body Tryz.func47 rfl rfl rfl ?_
  refine Q.r ?_; (repeat (intro b1; refine Q.r ?_))
  refine S.y (Y.mf rfl rfl) ?_
  refine Q.r ?_; (repeat (intro b1; refine Q.r ?_))
  rename_i bd
  refine S.ck p rfl (change_spec p d 69 [ptrD b1, ptrD bd] a c ns _ (fun r L' => r = .int .i64 0 ∧ L' = diskH p (dropD (spendD d) ns) :: L) (fun X => by have := hns (X ++ [pt b1 (cl [.slice a ns.length c] 54), pt bd (cl [ptrD p] 26)]); rw [List.append_assoc] at this; exact this) hn (fun h1 h2 => ?_)) ?_
  · refine CallsS.ent (L' := diskH p (spendD d) :: pt b1 (cl [.slice a ns.length c] 54) :: pt bd (cl [ptrD p] 26) :: L) (by repeat (first | exact Ent.refl _ | exact Ent.nil | refine Ent.pick ?_ | refine Ent.nilS ?_ | refine Ent.nilM ?_ | refine Ent.drop ?_)) ?_
    exact DropF_spec p b1 bd (spendD d) a c ns L hns hn
  intro v L' hR
  refine Q.r ?_; (repeat (intro b1; refine Q.r ?_))
  rcases hR with ⟨h1, rfl, rfl⟩ | ⟨h1, ⟨x, hx, hx2⟩, rfl, rfl⟩ | ⟨h1, h2, rfl, rfl⟩
  · refine N.r1 (RV.tmp rfl RV.nil) ?_ ⟨by unfold drE; rw [if_pos h1], by unfold drS; rw [if_pos h1]⟩
    repeat (first | exact Ent.refl _ | exact Ent.nil | refine Ent.pick ?_ | refine Ent.nilS ?_ | refine Ent.nilM ?_ | refine Ent.drop ?_)
  · exact absurd (hh x hx) hx2
  · have h3 : ¬ spendB d = false := by rw [h1]; decide
    exact N.r1 (RV.tmp rfl RV.nil) (Ent.refl _) ⟨by unfold drE; rw [if_neg h3], by unfold drS; rw [if_neg h3]⟩
end Go.Proofs.YtkleenllkjodoaaGreatDoor
namespace Go.Proofs.YtkleenllkjodoaaGreatDoor
open Go Go.SX
attribute [local irreducible] swp opsS thenS blockS retS CallsS St Ent YieldS anyS drawS
attribute [local irreducible] opsI
def apT (rec : Loop) (l D bs : Nat) (pre : List (List UInt8)) : HP := exH fun x : Option Addr × Nat => allH [pt l (.loop rec), pt D (.deferred (some [])), pt bs (cl [.slice x.1 pre.length x.2] 54), slO 9 1 x.1 pre.length x.2 (pre.map str)]
theorem apT_shut {rec : Loop} {l D bs : Nat} {pre : List (List UInt8)} {a : Option Addr} {c : Nat} {L : List HP} : Ent (pt l (.loop rec) :: pt D (.deferred (some [])) :: pt bs (cl [.slice a pre.length c] 54) :: slO 9 1 a pre.length c (pre.map str) :: L) (apT rec l D bs pre :: L) :=
  Ent.trans (Ent.shut_all (L := [_, _, _, _])) (Ent.shut_ex (P := fun x : Option Addr × Nat => allH [pt l (.loop rec), pt D (.deferred (some [])), pt bs (cl [.slice x.1 pre.length x.2] 54), slO 9 1 x.1 pre.length x.2 (pre.map str)]) (a, c))
theorem apT_open {rec : Loop} {l D bs : Nat} {pre : List (List UInt8)} {w : World} {L : List HP} (H : St w (apT rec l D bs pre :: L)) : ∃ a c, St w (pt l (.loop rec) :: pt D (.deferred (some [])) :: pt bs (cl [.slice a pre.length c] 54) :: slO 9 1 a pre.length c (pre.map str) :: L) := by
  obtain ⟨x, H⟩ := St.open_ex H
  exact ⟨x.1, x.2, St.ent (Ent.open_all (L := [_, _, _, _])) H⟩
set_option maxHeartbeats 2000000 in
theorem apRoundT {fn : FuncId} {tm : Array Value} {l D bs : Nat} {pre : List (List UInt8)} {x : List UInt8} {assign body : Code} (htm : tm.size = 13) (hbs : tm[2]? = some (.pointer (some ⟨bs, 0, none⟩))) (hN : pre.length < 1048576)
    (ha : assign = .region 2 ([⟨some 5, .assign (.tmp 7), 9, "iter.go:51", #[], none⟩] : List Oper).toArray false)
    (hb : ∃ l1 id, body = .block 1 (.region id (l1 : List Oper).toArray false) ∧ okOps 13 l1 = true ∧
      ∀ (v : List UInt8) (a : Option Addr) (c k : Nat) (cs : List Value), k < 1048576 → opsI Tryz.prog 13 (some l) l1 l1 (thenS (fun f L => ∃ a' c', L = [pt bs (cl [.slice a' (k + 1) c'] 54), slO 9 1 a' (k + 1) c' (cs ++ [str v])]) (fun _ _ _ => False)) (updAll [(2, .pointer (some ⟨bs, 0, none⟩)), (5, str v)]) [pt bs (cl [.slice a k c] 54), slO 9 1 a k c cs]) :
    RoundS Tryz.prog l (str x) [apT (apRec fn tm #[7] assign body D .ready none) l D bs pre] [apT (apRec fn tm #[7] assign body D .ready none) l D bs (pre ++ [x])] := by
  intro F w t
  obtain ⟨a, c, t⟩ := apT_open (L := F) (by simpa using t)
  have hl := St.pt_read t
  obtain ⟨l1, id, hbd, hok1, hb⟩ := hb
  refine ⟨fn, tm.setIfInBounds 7 (str x), _, _, by simpa [apRec] using run_yield (P := Tryz.prog) (args := #[str x]) hl rfl, roundIn_of_wpIn trivial ?_⟩
  have s0 : Sim 13 { tmps := tm.setIfInBounds 7 (str x), defers := [] } (updAll [(2, .pointer (some ⟨bs, 0, none⟩)), (7, str x)]) := by
    refine ⟨rfl, by simp [htm], fun i v e => ?_⟩
    simp only [updAll, upd, e0] at e
    by_cases h2 : i = 2
    · subst h2
      cases e
      rw [Array.getD_eq_getD_getElem?, Array.getElem?_setIfInBounds_ne (by omega), hbs]; rfl
    · by_cases h7 : i = 7
      · subst h7
        cases e
        simp [htm]
      · rw [beq_ne h2, beq_ne h7] at e; cases e
  have hwa : ∀ Q a w, (Code.region 2 ([⟨some 5, .assign (.tmp 7), 9, "iter.go:51", #[], none⟩] : List Oper).toArray false).wpIn (Go.SX.WF (some l)) 0 Tryz.prog Q a w → assign.wpIn (Go.SX.WF (some l)) 0 Tryz.prog Q a w := fun Q a w h => by rw [ha]; exact h
  refine hwa _ _ _ (wpIn_round (r := some l) (n := 13) (L := [pt l (.loop (apRec fn tm #[7] assign body D .ready none)), pt D (.deferred (some [])), pt bs (cl [.slice a pre.length c] 54), slO 9 1 a pre.length c (pre.map str)]) (F := F) (K := fun f L => f 2 = some (.pointer (some ⟨bs, 0, none⟩)) ∧ f 5 = some (str x) ∧ L = [pt l (.loop (apRec fn tm #[7] assign body D .ready none)), pt D (.deferred (some [])), pt bs (cl [.slice a pre.length c] 54), slO 9 1 a pre.length c (pre.map str)]) ?_ rfl s0 t ?_)
  · refine opsI_one (fun _ h => by cases h) rfl ?_
    repeat (first | (refine GQ.y ?_; refine Q.y ?_) | refine Q.go ?_ | (refine GQ.g ?_; refine Q.gq ?_) | (refine GQ.s ?_; refine Q.st ?_))
    exact opsI_nil (N.tn ⟨rfl, rfl, rfl⟩)
  rintro f L a1 w1 ⟨h2, h5, rfl⟩ s1 t1
  refine ⟨_, run_beginRound (St.pt_read t1) rfl, ?_⟩
  have t2 := St.obj (o' := .loop { (apRec fn tm #[7] assign body D .ready none) with state := .busy }) (L := [pt D (.deferred (some [])), pt bs (cl [.slice a pre.length c] 54), slO 9 1 a pre.length c (pre.map str)] ++ F) t1
  have t3 : St _ ([pt bs (cl [.slice a pre.length c] 54), slO 9 1 a pre.length c (pre.map str)] ++ (pt l (.loop { (apRec fn tm #[7] assign body D .ready none) with state := .busy }) :: pt D (.deferred (some [])) :: F)) :=
    St.rot2 t2
  have hwp : ∀ Q a w, (Code.block 1 (.region id l1.toArray false)).wpIn (Go.SX.WF (some l)) 0 Tryz.prog Q a w → body.wpIn (Go.SX.WF (some l)) 0 Tryz.prog Q a w := fun Q a w h => by rw [hbd]; exact h
  refine hwp _ _ _ (wpIn_block (wpIn_round (r := some l) (n := 13) (F := _) (hb x a c pre.length (pre.map str) hN) hok1 (s1.weaken (updAll_le ⟨h2, h5, trivial⟩)) t3 ?_))
  rintro f L a2 w2 ⟨a', c', rfl⟩ s2 t4
  have t5 : St w2 (pt l (.loop { (apRec fn tm #[7] assign body D .ready none) with state := .busy }) :: pt D (.deferred (some [])) :: ([pt bs (cl [.slice a' (pre.length + 1) c'] 54), slO 9 1 a' (pre.length + 1) c' (pre.map str ++ [str x])] ++ F)) :=
    St.rot2 t4
  refine ⟨_, _, run_endRound none (St.pt_read t5), rfl, ?_⟩
  have t6 := St.obj (o' := .loop (apRec fn tm #[7] assign body D .ready none)) t5
  have e1 : pre.length + 1 = (pre ++ [x]).length := by simp
  have e2 : pre.map str ++ [str x] = (pre ++ [x]).map str := by simp
  rw [e1, e2] at t6
  have t7 := St.ent (apT_shut (L := F)) t6
  simpa [apRec] using t7
set_option maxHeartbeats 2000000 in
theorem AppendSeqT_spec (gf : FuncId) (lb : List Value) [he : Go.SX.Enters Tryz.prog gf] (Sp : List (List UInt8) → Prop) (A A' : List HP) (hseq : SeqS Tryz.prog gf lb str 1048576 Sp A A') :
    CallsS Tryz.prog 85 [.slice none 0 0, .func (.func gf) #[] lb.toArray] A (fun v L' => ∃ ks a c, Sp ks ∧ v = .slice a ks.length c ∧ L' = slO 9 1 a ks.length c (ks.map str) :: A') := by
  refine CallsS.mk' fun F w t => ?_
  refine (callsIn_wide (n := 1)).1 (callsIn_of_wp_marks Tryz.func85 rfl trivial ?_)
  have s0 : Sim 13 { tmps := #[.slice none 0 0, .func (.func gf) #[] lb.toArray] ++ Array.replicate 11 undef, defers := [] } (argEnv [.slice none 0 0, .func (.func gf) #[] lb.toArray] 0) := by
    refine ⟨rfl, by simp, fun i v e => ?_⟩
    obtain ⟨_, h2⟩ := argEnv_at _ 0 i v e
    simp only [Nat.sub_zero] at h2
    have hi : i < 2 := (List.getElem?_eq_some_iff.1 h2).1
    match i, hi, h2 with
    | 0, _, h2 => simpa using h2
    | 1, _, h2 => simpa using h2
  refine wpIn_of_swp (n := 13) (F := F) (K := fun f L => ∃ bs, f 1 = some (.func (.func gf) #[] lb.toArray) ∧ f 2 = some (.pointer (some ⟨bs, 0, none⟩)) ∧ L = pt bs (cl [.slice none 0 0] 54) :: A) ?_ rfl s0 t ?_
  · refine Q.r ?_; (repeat (intro b1; refine Q.r ?_))
    exact ⟨_, rfl, rfl, rfl⟩
  rintro f L a1 w1 ⟨bs, h1, h2, rfl⟩ s1 t1
  refine wpIn_seq ?_
  refine wpIn_of_swp (n := 13) (F := F) (K := fun f L => f 6 = some (.func (.func gf) #[] lb.toArray) ∧ f 2 = some (.pointer (some ⟨bs, 0, none⟩)) ∧ L = pt bs (cl [.slice none 0 0] 54) :: A) (f := updAll [(1, .func (.func gf) #[] lb.toArray), (2, .pointer (some ⟨bs, 0, none⟩))]) ?_ rfl (s1.weaken (updAll_le ⟨h1, h2, trivial⟩)) t1 ?_
  · refine Q.r ?_; (repeat (intro b1; refine Q.r ?_))
    exact ⟨rfl, rfl, rfl⟩
  rintro f L a2 w2 ⟨h6, h2, rfl⟩ s2 t2
  obtain ⟨tm, htm⟩ : ∃ tm, tm = a2.tmps := ⟨_, rfl⟩
  have hsz : tm.size = 13 := by rw [htm]; exact s2.size
  have h2' : tm[2]? = some (.pointer (some ⟨bs, 0, none⟩)) := by
    have := s2.at_ 2 _ h2
    rw [← htm, Array.getD_eq_getD_getElem?] at this
    have hlt : 2 < tm.size := by omega
    rw [Array.getElem?_eq_getElem hlt] at this ⊢
    simpa using this
  have hev : a2.eval (.tmp 6) = .func (.func gf) #[] lb.toArray := s2.eval (x := .tmp 6) h6
  refine wpIn_block (wpIn_rangeF hev fun fn => ?_)
  have t3 := St.pt_new (w' := w2.alloc (.deferred (some []))) t2 rfl rfl
  generalize hr0 : ({ state := .ready, pending := none, fn, tmps := a2.tmps, params := #[7], assign := _, body := _, defers := w2.heap.size } : Loop) = rec
  have t4 := St.pt_new (w' := (w2.alloc (.deferred (some []))).alloc (.loop rec)) t3 rfl rfl
  obtain ⟨As, hA⟩ : ∃ A, A = rec.assign := ⟨_, rfl⟩
  obtain ⟨Bs, hB⟩ : ∃ B, B = rec.body := ⟨_, rfl⟩
  have hrec : rec = apRec fn tm #[7] As Bs w2.heap.size .ready none := by rw [hA, hB, htm, ← hr0]; rfl
  have hA' : As = .region 2 ([⟨some 5, .assign (.tmp 7), 9, "iter.go:51", #[], none⟩] : List Oper).toArray false := by rw [hA, ← hr0]
  have hB' : ∃ l1 id, Bs = .block 1 (.region id (l1 : List Oper).toArray false) ∧ okOps 13 l1 = true ∧
      ∀ (v : List UInt8) (a : Option Addr) (c k : Nat) (cs : List Value), k < 1048576 → opsI Tryz.prog 13 (some (w2.heap.size + 1)) l1 l1 (thenS (fun f L => ∃ a' c', L = [pt bs (cl [.slice a' (k + 1) c'] 54), slO 9 1 a' (k + 1) c' (cs ++ [str v])]) (fun _ _ _ => False)) (updAll [(2, .pointer (some ⟨bs, 0, none⟩)), (5, str v)]) [pt bs (cl [.slice a k c] 54), slO 9 1 a k c cs] := by
    refine ⟨_, 3, by rw [hB, ← hr0], rfl, fun v a c k cs hk => ?_⟩
    refine opsI_one (fun _ h => by cases h) rfl ?_
    refine Q.r ?_; (repeat (intro b1; refine Q.r ?_))
    refine opsI_one (fun _ h => by cases h) rfl ?_
    refine Q.r ?_; (repeat (intro b1; refine Q.r ?_))
    refine opsI_one (fun _ h => by cases h) rfl ?_
    refine Q.r ?_; (repeat (intro b1; refine Q.r ?_))
    refine opsI_one (fun _ h => by cases h) rfl ?_
    refine S.app rfl rfl (SrcS.sl RdC.row (by rfl) (by rfl)) (by rfl) (by omega) (by omega) (fun a' c' => ?_)
    refine Q.r ?_; (repeat (intro b1; refine Q.r ?_))
    refine opsI_one (fun _ h => by cases h) rfl ?_
    refine Q.r ?_; (repeat (intro b1; refine Q.r ?_))
    exact opsI_ent (Ent.drop (Ent.refl _)) (opsI_nil (N.tn ⟨a', c', rfl⟩))
  clear hA hB
  subst hrec
  clear hr0
  have hcall := hseq (w2.heap.size + 1) (apT (apRec fn tm #[7] As Bs w2.heap.size .ready none) (w2.heap.size + 1) w2.heap.size bs) (fun pre x hp => apRoundT hsz h2' hp hA' hB')
  have hsz1 : (w2.alloc (.deferred (some []))).heap.size = w2.heap.size + 1 := by simp
  rw [hsz1] at t4
  have t5 := St.ent (apT_shut (pre := []) (L := A ++ F)) (St.ent (Ent.cons (Ent.cons (Ent.cons slO_nil))) t4)
  refine (CallsS.run hcall t5).mono ?_
  rintro e w3 ⟨v, L', rfl, t6, ks, hks, rfl⟩
  obtain ⟨a, c, t7⟩ := apT_open (L := A' ++ F) t6
  refine ⟨v, _, rfl, run_endLoop (St.pt_read t7) (by simp [apRec]), ?_⟩
  have t8 := St.obj (o' := .loop { apRec fn tm #[7] As Bs w2.heap.size .ready none with state := .exhausted }) t7
  have t9 := t8.tail
  generalize w3.putObj (w2.heap.size + 1) (.loop { apRec fn tm #[7] As Bs w2.heap.size .ready none with state := .exhausted }) = w4 at t9
  have hD := St.pt_read t9
  have hcell := St.pt_read t9.tail
  simp only [Exit.inBlock, Exit.then]
  have hload : (Instr.loadAt 54 (.pointer (some ⟨bs, 0, none⟩))).run Tryz.prog w4 = .ok (.slice a ks.length c) w4 := run_loadVar1 (P := Tryz.prog) (b := bs) (o := 0) (by simp [World.cell?, hcell, cl])
  have hd0 : a2.tmps.getD 2 undef = .pointer (some ⟨bs, 0, none⟩) := s2.at_ 2 _ h2
  have hd1 : a2.tmps.size = 13 := s2.size
  have hd2 : a2.defers = [] := s2.defers
  refine wpIn_seq (wpIn_region_lit ?_)
  refine wpListIn_plain rfl fun K hK => ⟨fun _ _ => trivial, ?_⟩
  rw [Oper.semAt_eq _ _ _ (fun _ h => by cases h)]
  simp only [execOp, Act.eval, hd0, Sem.run_bind, hload, Result.andThen_ok, Sem.run_pure]
  refine hK _ _ (wpListIn_plain rfl fun K' hK' => ⟨fun _ _ => trivial, ?_⟩)
  rw [Oper.semAt_eq _ _ _ (fun _ h => by cases h)]
  simp only [execOp, Act.eval, Sem.run_pure]
  refine hK' _ _ (wpListIn_nil (wpIn_ret ?_))
  refine ⟨by simp, .inl ⟨_, _, rfl, run_takeDeferred hD, ?_⟩⟩
  rw [hd2]
  refine ⟨_, results_tmp rfl _ _ _, _, slO 9 1 a ks.length c (ks.map str) :: A', ?_, (St.obj (o' := .deferred none) t9).tail.tail, ks, a, c, hks, rfl, rfl⟩
  simp [Act.put, hd1]
theorem CollectT_spec (gf : FuncId) (lb : List Value) [he : Go.SX.Enters Tryz.prog gf] (Sp : List (List UInt8) → Prop) (A A' : List HP) (hseq : SeqS Tryz.prog gf lb str 1048576 Sp A A') :
    CallsS Tryz.prog 74 [.func (.func gf) #[] lb.toArray] A (fun v L' => ∃ ks a c, Sp ks ∧ v = .slice a ks.length c ∧ L' = slO 9 1 a ks.length c (ks.map str) :: A') := by
  refine CallsS.of_body Tryz.func74 rfl rfl rfl ?_
  refine Q.r ?_; (repeat (intro b1; refine Q.r ?_))
  refine S.cr rfl (AppendSeqT_spec gf lb Sp A A' hseq) ?_
  rintro _ _ ⟨ks, a, c, hks, rfl, rfl⟩
  refine Q.r ?_; (repeat (intro b1; refine Q.r ?_))
  exact N.r1 (RV.tmp rfl RV.nil) (Ent.refl _) ⟨ks, a, c, hks, rfl, rfl⟩
theorem KeysT_spec {α : Type} (rr : α → Value) (bm b : Nat) (m : List (List UInt8 × α)) (A : List HP) : SeqS Tryz.prog 76 [.pointer (some ⟨bm, 0, none⟩)] str m.length (fun ks => ks.Perm (m.map (·.1)))
    (pt bm (cl [.map (some b)] 79) :: mpO str rr b m :: A) (mpO str rr b m :: A) := by
  intro l J hJ
  refine CallsS.of_body Tryz.func76 rfl rfl rfl ?_
  refine Q.r ?_; (repeat (intro b1; refine Q.r ?_))
  refine S.rg rfl (fun r => ?_)
  refine Q.r ?_; (repeat (intro b1; refine Q.r ?_))
  refine swp_loop (σ := List Nat) (fun vis => [(0, .func (.yield l) #[] #[]), (5, .pointer (some ⟨r, 0, none⟩))])
    (fun vis => J (vis.filterMap fun i => (m[i]?).map (·.1)) :: itO str rr b r m vis :: A) (fun vis => vis.Nodup ∧ ∀ i ∈ vis, i < m.length) (fun vis => m.length - vis.length) [] ⟨rfl, rfl, trivial⟩ (by simp only [List.filterMap_nil]; repeat (first | exact Ent.refl _ | exact Ent.nil | refine Ent.pick ?_ | refine Ent.nilS ?_ | refine Ent.nilM ?_ | refine Ent.drop ?_)) ⟨by simp, by simp⟩ ?_
  rintro vis ⟨hv1, hv2⟩
  refine Q.r ?_; (repeat (intro b1; refine Q.r ?_))
  refine S.nx rfl (fun hend => ?_) (fun i p hp hi => ?_)
  · refine Q.r ?_; (repeat (intro b1; refine Q.r ?_))
    exact N.n0 RV.nil (Ent.cons itO_map) ⟨_, vis_map _ hv1 hv2 hend, rfl⟩
  · have hil : i < m.length := (List.getElem?_eq_some_iff.1 hp).1
    obtain ⟨hm1, hm2, hm3⟩ := vis_more hv1 hv2 hil hi
    have hvl : (vis.filterMap fun i => (m[i]?).map (·.1)).length ≤ vis.length := List.length_filterMap_le _ _
    have happ : ((vis ++ [i]).filterMap fun i => (m[i]?).map (·.1)) = (vis.filterMap fun i => (m[i]?).map (·.1)) ++ [p.1] := by
      rw [List.filterMap_append]; simp [hp]
    refine Q.r ?_; (repeat (intro b1; refine Q.r ?_))
    refine S.y (Y.en rfl hp) ?_
    refine S.y (Y.ext rfl rfl) ?_
    refine S.y (Y.as rfl) ?_
    refine opsS_nil ?_
    refine N.tn ?_
    refine swp_seq ?_
    refine swp_regionI ?_
    refine opsI_one (fun _ h => by cases h) rfl ?_
    refine Q.r ?_; (repeat (intro b1; refine Q.r ?_))
    refine opsI_one (fun _ h => by cases h) rfl ?_
    refine Q.r ?_; (repeat (intro b1; refine Q.r ?_))
    refine opsI_yield rfl rfl ((hJ _ p.1 (by omega)).frame (R := _)) ?_
    refine opsI_one (fun _ h => by cases h) rfl ?_
    refine Q.r ?_; (repeat (intro b1; refine Q.r ?_))
    refine opsI_nil ?_
    refine Q.r ?_; (repeat (intro b1; refine Q.r ?_))
    refine ⟨vis ++ [i], ⟨rfl, rfl, trivial⟩, ?_, ⟨hm1, hm2⟩, by simp; omega⟩
    rw [happ]
    repeat (first | exact Ent.refl _ | exact Ent.nil | refine Ent.pick ?_ | refine Ent.nilS ?_ | refine Ent.nilM ?_ | refine Ent.drop ?_)
theorem MapKeysT_spec (mo : Option Nat) (L : List HP) : CallsS Tryz.prog 55 [.map mo] L
    (fun v L' => ∃ bm, v = .func (.func 76) #[] [.pointer (some ⟨bm, 0, none⟩)].toArray ∧ L' = pt bm (cl [.map mo] 79) :: L) := by
  refine CallsS.of_body Tryz.func55 rfl rfl rfl ?_
  refine Q.r ?_; (repeat (intro b1; refine Q.r ?_))
  refine S.y (Y.mf rfl rfl) ?_
  refine Q.r ?_; (repeat (intro b1; refine Q.r ?_))
  exact N.r1 (RV.tmp rfl RV.nil) (Ent.refl _) ⟨_, rfl, rfl⟩
end Go.Proofs.YtkleenllkjodoaaGreatDoor
namespace Go.Proofs
open Go.Shelf
def Tryz.lays172_ren : Go.Shelf.Ren := ⟨fun | 172 => 83 | 244 => 93 | 245 => 94 | 247 => 112 | 279 => 113 | 280 => 114 | 281 => 115 | 282 => 116 | 287 => 127 | 316 => 128 | 171 => 63 | 205 => 129 | 321 => 133 | 322 => 134 | 243 => 81 | 246 => 91 | 283 => 107 | 284 => 108 | 285 => 109 | 286 => 110 | 129 => 105 | 317 => 123 | 318 => 124 | 319 => 125 | 320 => 126 | 337 => 131 | 338 => 132 | n => n, fun | 9 => 9 | 3 => 3 | 75 => 130 | 76 => 131 | 4 => 4 | 5 => 5 | 167 => 156 | 37 => 31 | 0 => 0 | 85 => 157 | 2 => 2 | 168 => 159 | 53 => 117 | 175 => 173 | 46 => 32 | 210 => 177 | 127 => 183 | 145 => 186 | 143 => 184 | 21 => 21 | 171 => 152 | 173 => 154 | 212 => 170 | 51 => 108 | 20 => 20 | 213 => 171 | 232 => 187 | 233 => 188 | 80 => 189 | n => n, fun | 15 => 3 | 16 => 4 | 17 => 2 | 18 => 5 | 19 => 6 | n => n⟩
theorem Tryz.lays172 : Go.Proofs.Lays.n172 Tryz.prog Tryz.lays172_ren := {
  mixed := by kernel_rfl
  f129 := Tryz.func105.trans (congrArg some (by kernel_rfl))
  f171 := Tryz.func63.trans (congrArg some (by kernel_rfl))
  f172 := Tryz.func83.trans (congrArg some (by kernel_rfl))
  f205 := Tryz.func129.trans (congrArg some (by kernel_rfl))
  f243 := Tryz.func81.trans (congrArg some (by kernel_rfl))
  f244 := Tryz.func93.trans (congrArg some (by kernel_rfl))
  f245 := Tryz.func94.trans (congrArg some (by kernel_rfl))
  f246 := Tryz.func91.trans (congrArg some (by kernel_rfl))
  f247 := Tryz.func112.trans (congrArg some (by kernel_rfl))
  f279 := Tryz.func113.trans (congrArg some (by kernel_rfl))
  f280 := Tryz.func114.trans (congrArg some (by kernel_rfl))
  f281 := Tryz.func115.trans (congrArg some (by kernel_rfl))
  f282 := Tryz.func116.trans (congrArg some (by kernel_rfl))
  f283 := Tryz.func107.trans (congrArg some (by kernel_rfl))
  f284 := Tryz.func108.trans (congrArg some (by kernel_rfl))
  f285 := Tryz.func109.trans (congrArg some (by kernel_rfl))
  f286 := Tryz.func110.trans (congrArg some (by kernel_rfl))
  f287 := Tryz.func127.trans (congrArg some (by kernel_rfl))
  f316 := Tryz.func128.trans (congrArg some (by kernel_rfl))
  f317 := Tryz.func123.trans (congrArg some (by kernel_rfl))
  f318 := Tryz.func124.trans (congrArg some (by kernel_rfl))
  f319 := Tryz.func125.trans (congrArg some (by kernel_rfl))
  f320 := Tryz.func126.trans (congrArg some (by kernel_rfl))
  f321 := Tryz.func133.trans (congrArg some (by kernel_rfl))
  f322 := Tryz.func134.trans (congrArg some (by kernel_rfl))
  f337 := Tryz.func131.trans (congrArg some (by kernel_rfl))
  f338 := Tryz.func132.trans (congrArg some (by kernel_rfl))
  t0 := Tryz.underlying0
  a0 := Tryz.isAgg0
  z0 := Tryz.sizeOf0
  v0 := Tryz.zeroValue0
  t2 := Tryz.underlying2
  a2 := Tryz.isAgg2
  z2 := Tryz.sizeOf2
  v2 := Tryz.zeroValue2
  t3 := Tryz.underlying3
  a3 := Tryz.isAgg3
  z3 := Tryz.sizeOf3
  v3 := Tryz.zeroValue3
  t4 := Tryz.underlying4
  a4 := Tryz.isAgg4
  z4 := Tryz.sizeOf4
  v4 := Tryz.zeroValue4
  t5 := Tryz.underlying5
  a5 := Tryz.isAgg5
  z5 := Tryz.sizeOf5
  v5 := Tryz.zeroValue5
  t9 := Tryz.underlying9
  a9 := Tryz.isAgg9
  z9 := Tryz.sizeOf9
  v9 := Tryz.zeroValue9
  t20 := Tryz.underlying20
  a20 := Tryz.isAgg20
  z20 := Tryz.sizeOf20
  v20 := Tryz.zeroValue20
  t21 := Tryz.underlying21
  a21 := Tryz.isAgg21
  z21 := Tryz.sizeOf21
  v21 := Tryz.zeroValue21
  t37 := Tryz.underlying31
  a37 := Tryz.isAgg31
  z37 := Tryz.sizeOf31
  v37 := Tryz.zeroValue31
  t46 := Tryz.underlying32
  a46 := Tryz.isAgg32
  z46 := Tryz.sizeOf32
  v46 := Tryz.zeroValue32
  t51 := Tryz.underlying108
  a51 := Tryz.isAgg108
  z51 := Tryz.sizeOf108
  v51 := Tryz.zeroValue108
  t53 := Tryz.underlying117
  a53 := Tryz.isAgg117
  z53 := Tryz.sizeOf117
  v53 := Tryz.zeroValue117
  t75 := Tryz.underlying130
  a75 := Tryz.isAgg130
  z75 := Tryz.sizeOf130
  v75 := Tryz.zeroValue130
  t76 := Tryz.underlying131
  a76 := Tryz.isAgg131
  z76 := Tryz.sizeOf131
  v76 := Tryz.zeroValue131
  t85 := Tryz.underlying157
  a85 := Tryz.isAgg157
  z85 := Tryz.sizeOf157
  v85 := Tryz.zeroValue157
  t127 := Tryz.underlying183
  a127 := Tryz.isAgg183
  z127 := Tryz.sizeOf183
  v127 := Tryz.zeroValue183
  t143 := Tryz.underlying184
  a143 := Tryz.isAgg184
  z143 := Tryz.sizeOf184
  v143 := Tryz.zeroValue184
  t145 := Tryz.underlying186
  a145 := Tryz.isAgg186
  z145 := Tryz.sizeOf186
  v145 := Tryz.zeroValue186
  t167 := Tryz.underlying156
  a167 := Tryz.isAgg156
  z167 := Tryz.sizeOf156
  v167 := Tryz.zeroValue156
  t168 := Tryz.underlying159
  a168 := Tryz.isAgg159
  z168 := Tryz.sizeOf159
  v168 := Tryz.zeroValue159
  t171 := Tryz.underlying152
  a171 := Tryz.isAgg152
  z171 := Tryz.sizeOf152
  v171 := Tryz.zeroValue152
  t173 := Tryz.underlying154
  a173 := Tryz.isAgg154
  z173 := Tryz.sizeOf154
  v173 := Tryz.zeroValue154
  t175 := Tryz.underlying173
  a175 := Tryz.isAgg173
  z175 := Tryz.sizeOf173
  v175 := Tryz.zeroValue173
  t210 := Tryz.underlying177
  a210 := Tryz.isAgg177
  z210 := Tryz.sizeOf177
  v210 := Tryz.zeroValue177
  t212 := Tryz.underlying170
  a212 := Tryz.isAgg170
  z212 := Tryz.sizeOf170
  v212 := Tryz.zeroValue170
  t213 := Tryz.underlying171
  a213 := Tryz.isAgg171
  z213 := Tryz.sizeOf171
  t232 := Tryz.underlying187
  a232 := Tryz.isAgg187
  z232 := Tryz.sizeOf187
  v232 := Tryz.zeroValue187
  t233 := Tryz.underlying188
  a233 := Tryz.isAgg188
  z233 := Tryz.sizeOf188
  v233 := Tryz.zeroValue188
  g15 := by kernel_rfl
  g16 := by kernel_rfl
  g17 := by kernel_rfl
  g18 := by kernel_rfl
  g19 := by kernel_rfl }
open Go.RowKit in
theorem Tryz.strconv_Atoi (s : ByteArray) (n : Int) (hl : s.size ≤ 18) (h : Lib.atoi s.data.toList = some n) (w : World) :
    Calls Tryz.prog 83 #[.string s] w fun e w' => e = .returned (.tuple #[.int .i64 n, .nilIface]) ∧ ∃ t, w' = Lib.bytesWorld w 5 t := Any.strconv_Atoi Tryz.lays172 s n hl h w
def Tryz.lays171_ren : Go.Shelf.Ren := ⟨fun | 171 => 63 | 243 => 81 | 246 => 91 | 283 => 107 | 284 => 108 | 285 => 109 | 286 => 110 | 129 => 105 | 317 => 123 | 318 => 124 | 319 => 125 | 320 => 126 | 337 => 131 | 338 => 132 | n => n, fun | 3 => 3 | 9 => 9 | 2 => 2 | 4 => 4 | 171 => 152 | 0 => 0 | 53 => 117 | 37 => 31 | 5 => 5 | 173 => 154 | 212 => 170 | 51 => 108 | 20 => 20 | 213 => 171 | 46 => 32 | 232 => 187 | 233 => 188 | n => n, fun | 17 => 2 | 18 => 5 | 19 => 6 | n => n⟩
theorem Tryz.lays171 : Go.Proofs.Lays.n171 Tryz.prog Tryz.lays171_ren := {
  mixed := by kernel_rfl
  f129 := Tryz.func105.trans (congrArg some (by kernel_rfl))
  f171 := Tryz.func63.trans (congrArg some (by kernel_rfl))
  f243 := Tryz.func81.trans (congrArg some (by kernel_rfl))
  f246 := Tryz.func91.trans (congrArg some (by kernel_rfl))
  f283 := Tryz.func107.trans (congrArg some (by kernel_rfl))
  f284 := Tryz.func108.trans (congrArg some (by kernel_rfl))
  f285 := Tryz.func109.trans (congrArg some (by kernel_rfl))
  f286 := Tryz.func110.trans (congrArg some (by kernel_rfl))
  f317 := Tryz.func123.trans (congrArg some (by kernel_rfl))
  f318 := Tryz.func124.trans (congrArg some (by kernel_rfl))
  f319 := Tryz.func125.trans (congrArg some (by kernel_rfl))
  f320 := Tryz.func126.trans (congrArg some (by kernel_rfl))
  f337 := Tryz.func131.trans (congrArg some (by kernel_rfl))
  f338 := Tryz.func132.trans (congrArg some (by kernel_rfl))
  t0 := Tryz.underlying0
  a0 := Tryz.isAgg0
  z0 := Tryz.sizeOf0
  v0 := Tryz.zeroValue0
  t2 := Tryz.underlying2
  a2 := Tryz.isAgg2
  z2 := Tryz.sizeOf2
  v2 := Tryz.zeroValue2
  t3 := Tryz.underlying3
  a3 := Tryz.isAgg3
  z3 := Tryz.sizeOf3
  v3 := Tryz.zeroValue3
  t4 := Tryz.underlying4
  a4 := Tryz.isAgg4
  z4 := Tryz.sizeOf4
  v4 := Tryz.zeroValue4
  t5 := Tryz.underlying5
  a5 := Tryz.isAgg5
  z5 := Tryz.sizeOf5
  v5 := Tryz.zeroValue5
  t9 := Tryz.underlying9
  a9 := Tryz.isAgg9
  z9 := Tryz.sizeOf9
  v9 := Tryz.zeroValue9
  t20 := Tryz.underlying20
  a20 := Tryz.isAgg20
  z20 := Tryz.sizeOf20
  v20 := Tryz.zeroValue20
  t37 := Tryz.underlying31
  a37 := Tryz.isAgg31
  z37 := Tryz.sizeOf31
  v37 := Tryz.zeroValue31
  t46 := Tryz.underlying32
  a46 := Tryz.isAgg32
  z46 := Tryz.sizeOf32
  v46 := Tryz.zeroValue32
  t51 := Tryz.underlying108
  a51 := Tryz.isAgg108
  z51 := Tryz.sizeOf108
  v51 := Tryz.zeroValue108
  t53 := Tryz.underlying117
  a53 := Tryz.isAgg117
  z53 := Tryz.sizeOf117
  v53 := Tryz.zeroValue117
  t171 := Tryz.underlying152
  a171 := Tryz.isAgg152
  z171 := Tryz.sizeOf152
  v171 := Tryz.zeroValue152
  t173 := Tryz.underlying154
  a173 := Tryz.isAgg154
  z173 := Tryz.sizeOf154
  v173 := Tryz.zeroValue154
  t212 := Tryz.underlying170
  a212 := Tryz.isAgg170
  z212 := Tryz.sizeOf170
  v212 := Tryz.zeroValue170
  t213 := Tryz.underlying171
  a213 := Tryz.isAgg171
  z213 := Tryz.sizeOf171
  t232 := Tryz.underlying187
  a232 := Tryz.isAgg187
  z232 := Tryz.sizeOf187
  v232 := Tryz.zeroValue187
  t233 := Tryz.underlying188
  a233 := Tryz.isAgg188
  z233 := Tryz.sizeOf188
  v233 := Tryz.zeroValue188
  g17 := by kernel_rfl
  g18 := by kernel_rfl
  g19 := by kernel_rfl }
open Go.RowKit Go.Sort Go.Lib in
theorem Tryz.strconv_Itoa_small (i : Nat) (hi : i < 100) (w : World) :
    Calls Tryz.prog 63 #[.int .i64 i] w fun e w' => e = .returned (.string ⟨(Lib.decDigits i).toArray⟩) ∧ w' = w := Any.strconv_Itoa_small Tryz.lays171 i hi w
def Tryz.laysC172_ren : Go.Shelf.Ren := ⟨fun | 172 => 83 | 244 => 93 | 245 => 94 | 247 => 112 | 279 => 113 | 280 => 114 | 281 => 115 | 282 => 116 | 287 => 127 | 316 => 128 | 171 => 63 | 205 => 129 | 321 => 133 | 322 => 134 | 243 => 81 | 246 => 91 | 283 => 107 | 284 => 108 | 285 => 109 | 286 => 110 | 129 => 105 | 317 => 123 | 318 => 124 | 319 => 125 | 320 => 126 | 337 => 131 | 338 => 132 | n => n, fun | 9 => 9 | 3 => 3 | 75 => 130 | 76 => 131 | 4 => 4 | 5 => 5 | 167 => 156 | 37 => 31 | 0 => 0 | 85 => 157 | 2 => 2 | 168 => 159 | 53 => 117 | 175 => 173 | 46 => 32 | 210 => 177 | 127 => 183 | 145 => 186 | 143 => 184 | 21 => 21 | 171 => 152 | 173 => 154 | 212 => 170 | 51 => 108 | 20 => 20 | 213 => 171 | 232 => 187 | 233 => 188 | 80 => 189 | n => n, fun | 15 => 3 | 16 => 4 | 17 => 2 | 18 => 5 | 19 => 6 | n => n⟩
theorem Tryz.laysC172 : Go.Proofs.LaysC.n172 Tryz.prog Tryz.laysC172_ren := {
  mixed := by kernel_rfl
  f129 := Tryz.func105.trans (congrArg some (by kernel_rfl))
  f171 := Tryz.func63.trans (congrArg some (by kernel_rfl))
  f172 := Tryz.func83.trans (congrArg some (by kernel_rfl))
  f205 := Tryz.func129.trans (congrArg some (by kernel_rfl))
  f243 := Tryz.func81.trans (congrArg some (by kernel_rfl))
  f244 := Tryz.func93.trans (congrArg some (by kernel_rfl))
  f245 := Tryz.func94.trans (congrArg some (by kernel_rfl))
  f246 := Tryz.func91.trans (congrArg some (by kernel_rfl))
  f247 := Tryz.func112.trans (congrArg some (by kernel_rfl))
  f279 := Tryz.func113.trans (congrArg some (by kernel_rfl))
  f280 := Tryz.func114.trans (congrArg some (by kernel_rfl))
  f281 := Tryz.func115.trans (congrArg some (by kernel_rfl))
  f282 := Tryz.func116.trans (congrArg some (by kernel_rfl))
  f283 := Tryz.func107.trans (congrArg some (by kernel_rfl))
  f284 := Tryz.func108.trans (congrArg some (by kernel_rfl))
  f285 := Tryz.func109.trans (congrArg some (by kernel_rfl))
  f286 := Tryz.func110.trans (congrArg some (by kernel_rfl))
  f287 := Tryz.func127.trans (congrArg some (by kernel_rfl))
  f316 := Tryz.func128.trans (congrArg some (by kernel_rfl))
  f317 := Tryz.func123.trans (congrArg some (by kernel_rfl))
  f318 := Tryz.func124.trans (congrArg some (by kernel_rfl))
  f319 := Tryz.func125.trans (congrArg some (by kernel_rfl))
  f320 := Tryz.func126.trans (congrArg some (by kernel_rfl))
  f321 := Tryz.func133.trans (congrArg some (by kernel_rfl))
  f322 := Tryz.func134.trans (congrArg some (by kernel_rfl))
  f337 := Tryz.func131.trans (congrArg some (by kernel_rfl))
  f338 := Tryz.func132.trans (congrArg some (by kernel_rfl))
  t0 := Tryz.underlying0
  a0 := Tryz.isAgg0
  z0 := Tryz.sizeOf0
  v0 := Tryz.zeroValue0
  t2 := Tryz.underlying2
  a2 := Tryz.isAgg2
  z2 := Tryz.sizeOf2
  v2 := Tryz.zeroValue2
  t3 := Tryz.underlying3
  a3 := Tryz.isAgg3
  z3 := Tryz.sizeOf3
  v3 := Tryz.zeroValue3
  t4 := Tryz.underlying4
  a4 := Tryz.isAgg4
  z4 := Tryz.sizeOf4
  v4 := Tryz.zeroValue4
  t5 := Tryz.underlying5
  a5 := Tryz.isAgg5
  z5 := Tryz.sizeOf5
  v5 := Tryz.zeroValue5
  t9 := Tryz.underlying9
  a9 := Tryz.isAgg9
  z9 := Tryz.sizeOf9
  v9 := Tryz.zeroValue9
  t20 := Tryz.underlying20
  a20 := Tryz.isAgg20
  z20 := Tryz.sizeOf20
  v20 := Tryz.zeroValue20
  t21 := Tryz.underlying21
  a21 := Tryz.isAgg21
  z21 := Tryz.sizeOf21
  v21 := Tryz.zeroValue21
  t37 := Tryz.underlying31
  a37 := Tryz.isAgg31
  z37 := Tryz.sizeOf31
  v37 := Tryz.zeroValue31
  t46 := Tryz.underlying32
  a46 := Tryz.isAgg32
  z46 := Tryz.sizeOf32
  v46 := Tryz.zeroValue32
  t51 := Tryz.underlying108
  a51 := Tryz.isAgg108
  z51 := Tryz.sizeOf108
  v51 := Tryz.zeroValue108
  t53 := Tryz.underlying117
  a53 := Tryz.isAgg117
  z53 := Tryz.sizeOf117
  v53 := Tryz.zeroValue117
  t75 := Tryz.underlying130
  a75 := Tryz.isAgg130
  z75 := Tryz.sizeOf130
  v75 := Tryz.zeroValue130
  t76 := Tryz.underlying131
  a76 := Tryz.isAgg131
  z76 := Tryz.sizeOf131
  v76 := Tryz.zeroValue131
  t85 := Tryz.underlying157
  a85 := Tryz.isAgg157
  z85 := Tryz.sizeOf157
  v85 := Tryz.zeroValue157
  t127 := Tryz.underlying183
  a127 := Tryz.isAgg183
  z127 := Tryz.sizeOf183
  v127 := Tryz.zeroValue183
  t143 := Tryz.underlying184
  a143 := Tryz.isAgg184
  z143 := Tryz.sizeOf184
  v143 := Tryz.zeroValue184
  t145 := Tryz.underlying186
  a145 := Tryz.isAgg186
  z145 := Tryz.sizeOf186
  v145 := Tryz.zeroValue186
  t167 := Tryz.underlying156
  a167 := Tryz.isAgg156
  z167 := Tryz.sizeOf156
  v167 := Tryz.zeroValue156
  t168 := Tryz.underlying159
  a168 := Tryz.isAgg159
  z168 := Tryz.sizeOf159
  v168 := Tryz.zeroValue159
  t171 := Tryz.underlying152
  a171 := Tryz.isAgg152
  z171 := Tryz.sizeOf152
  v171 := Tryz.zeroValue152
  t173 := Tryz.underlying154
  a173 := Tryz.isAgg154
  z173 := Tryz.sizeOf154
  v173 := Tryz.zeroValue154
  t175 := Tryz.underlying173
  a175 := Tryz.isAgg173
  z175 := Tryz.sizeOf173
  v175 := Tryz.zeroValue173
  t210 := Tryz.underlying177
  a210 := Tryz.isAgg177
  z210 := Tryz.sizeOf177
  v210 := Tryz.zeroValue177
  t212 := Tryz.underlying170
  a212 := Tryz.isAgg170
  z212 := Tryz.sizeOf170
  v212 := Tryz.zeroValue170
  t213 := Tryz.underlying171
  a213 := Tryz.isAgg171
  z213 := Tryz.sizeOf171
  t232 := Tryz.underlying187
  a232 := Tryz.isAgg187
  z232 := Tryz.sizeOf187
  v232 := Tryz.zeroValue187
  t233 := Tryz.underlying188
  a233 := Tryz.isAgg188
  z233 := Tryz.sizeOf188
  v233 := Tryz.zeroValue188
  g15 := by kernel_rfl
  g16 := by kernel_rfl
  g17 := by kernel_rfl
  g18 := by kernel_rfl
  g19 := by kernel_rfl
  t80 := Tryz.underlying189
  a80 := Tryz.isAgg189
  z80 := Tryz.sizeOf189
  v80 := Tryz.zeroValue189
  i0 := by kernel_rfl
  i2 := by kernel_rfl
  i3 := by kernel_rfl
  i4 := by kernel_rfl
  i5 := by kernel_rfl
  i9 := by kernel_rfl
  i20 := by kernel_rfl
  i21 := by kernel_rfl
  i37 := by kernel_rfl
  i46 := by kernel_rfl
  i51 := by kernel_rfl
  i53 := by kernel_rfl
  i75 := by kernel_rfl
  i76 := by kernel_rfl
  i80 := by kernel_rfl
  i85 := by kernel_rfl
  i127 := by kernel_rfl
  i143 := by kernel_rfl
  i145 := by kernel_rfl
  i167 := by kernel_rfl
  i168 := by kernel_rfl
  i171 := by kernel_rfl
  i173 := by kernel_rfl
  i175 := by kernel_rfl
  i210 := by kernel_rfl
  i212 := by kernel_rfl
  i232 := by kernel_rfl
  i233 := by kernel_rfl
  m15 := by kernel_rfl
  m16 := by kernel_rfl
  m17 := by kernel_rfl
  m18 := by kernel_rfl
  m19 := by kernel_rfl
  c0 := by kernel_rfl
  c2 := by kernel_rfl
  c3 := by kernel_rfl
  c4 := by kernel_rfl
  c5 := by kernel_rfl
  c9 := by kernel_rfl
  c20 := by kernel_rfl
  c21 := by kernel_rfl
  c37 := by kernel_rfl
  c46 := by kernel_rfl
  c51 := by kernel_rfl
  c53 := by kernel_rfl
  c75 := by kernel_rfl
  c76 := by kernel_rfl
  c80 := by kernel_rfl
  c85 := by kernel_rfl
  c127 := by kernel_rfl
  c143 := by kernel_rfl
  c145 := by kernel_rfl
  c167 := by kernel_rfl
  c168 := by kernel_rfl
  c171 := by kernel_rfl
  c173 := by kernel_rfl
  c175 := by kernel_rfl
  c210 := by kernel_rfl
  c212 := by kernel_rfl
  c213 := by kernel_rfl
  c232 := by kernel_rfl
  c233 := by kernel_rfl }
open Go.RowKit in
theorem Tryz.strconv_Atoi_syntax (s : ByteArray) (hlim : s.size ≤ 281474976710656) (h : Lib.atoiAll s.data.toList = .«syntax») (ev : Value) (w : World) (hv : w.cell? ⟨3, 0, none⟩ = some ev) (hev : ev = .nilIface ∨ ∃ te pe, ev = .iface te pe) :
    Calls Tryz.prog 83 #[.string s] w fun e w' => ∃ N, e = .returned (.tuple #[.int .i64 (0), .iface 159 (.pointer (some ⟨N, 0, none⟩))]) ∧ w.heap.size ≤ N ∧ w'.heap[N]? = some (.cells #[.string ⟨#[65, 116, 111, 105]⟩, .string s, ev] 177 (0, 0)) ∧ Below w.heap.size w w' := Any.strconv_Atoi_syntax Tryz.laysC172 s hlim h ev w hv hev
def Tryz.lays190_ren : Go.Shelf.Ren := ⟨fun | 190 => 75 | 125 => 87 | 258 => 86 | 128 => 104 | 129 => 105 | 302 => 95 | 303 => 96 | 304 => 97 | 305 => 98 | 306 => 99 | 307 => 100 | 308 => 101 | 309 => 102 | 310 => 103 | 333 => 117 | 329 => 118 | 330 => 119 | 334 => 120 | 335 => 121 | 336 => 122 | 344 => 130 | n => n, fun | 31 => 54 | 9 => 9 | 3 => 3 | 46 => 32 | 0 => 0 | 51 => 108 | 53 => 117 | 4 => 4 | 183 => 144 | 182 => 143 | 131 => 111 | 5 => 5 | 218 => 162 | 222 => 166 | 228 => 179 | 229 => 180 | n => n, fun | n => n⟩
theorem Tryz.lays190 : Go.Proofs.Lays.n190 Tryz.prog Tryz.lays190_ren := {
  mixed := by kernel_rfl
  f125 := Tryz.func87.trans (congrArg some (by kernel_rfl))
  f128 := Tryz.func104.trans (congrArg some (by kernel_rfl))
  f129 := Tryz.func105.trans (congrArg some (by kernel_rfl))
  f190 := Tryz.func75.trans (congrArg some (by kernel_rfl))
  f258 := Tryz.func86.trans (congrArg some (by kernel_rfl))
  f302 := Tryz.func95.trans (congrArg some (by kernel_rfl))
  f303 := Tryz.func96.trans (congrArg some (by kernel_rfl))
  f304 := Tryz.func97.trans (congrArg some (by kernel_rfl))
  f305 := Tryz.func98.trans (congrArg some (by kernel_rfl))
  f306 := Tryz.func99.trans (congrArg some (by kernel_rfl))
  f307 := Tryz.func100.trans (congrArg some (by kernel_rfl))
  f308 := Tryz.func101.trans (congrArg some (by kernel_rfl))
  f309 := Tryz.func102.trans (congrArg some (by kernel_rfl))
  f310 := Tryz.func103.trans (congrArg some (by kernel_rfl))
  f329 := Tryz.func118.trans (congrArg some (by kernel_rfl))
  f330 := Tryz.func119.trans (congrArg some (by kernel_rfl))
  f333 := Tryz.func117.trans (congrArg some (by kernel_rfl))
  f334 := Tryz.func120.trans (congrArg some (by kernel_rfl))
  f335 := Tryz.func121.trans (congrArg some (by kernel_rfl))
  f336 := Tryz.func122.trans (congrArg some (by kernel_rfl))
  f344 := Tryz.func130.trans (congrArg some (by kernel_rfl))
  t0 := Tryz.underlying0
  a0 := Tryz.isAgg0
  z0 := Tryz.sizeOf0
  v0 := Tryz.zeroValue0
  t3 := Tryz.underlying3
  a3 := Tryz.isAgg3
  z3 := Tryz.sizeOf3
  v3 := Tryz.zeroValue3
  t4 := Tryz.underlying4
  a4 := Tryz.isAgg4
  z4 := Tryz.sizeOf4
  v4 := Tryz.zeroValue4
  t5 := Tryz.underlying5
  a5 := Tryz.isAgg5
  z5 := Tryz.sizeOf5
  v5 := Tryz.zeroValue5
  t9 := Tryz.underlying9
  a9 := Tryz.isAgg9
  z9 := Tryz.sizeOf9
  v9 := Tryz.zeroValue9
  t31 := Tryz.underlying54
  a31 := Tryz.isAgg54
  z31 := Tryz.sizeOf54
  v31 := Tryz.zeroValue54
  t46 := Tryz.underlying32
  a46 := Tryz.isAgg32
  z46 := Tryz.sizeOf32
  v46 := Tryz.zeroValue32
  t51 := Tryz.underlying108
  a51 := Tryz.isAgg108
  z51 := Tryz.sizeOf108
  v51 := Tryz.zeroValue108
  t53 := Tryz.underlying117
  a53 := Tryz.isAgg117
  z53 := Tryz.sizeOf117
  v53 := Tryz.zeroValue117
  t131 := Tryz.underlying111
  a131 := Tryz.isAgg111
  z131 := Tryz.sizeOf111
  v131 := Tryz.zeroValue111
  t182 := Tryz.underlying143
  a182 := Tryz.isAgg143
  z182 := Tryz.sizeOf143
  v182 := Tryz.zeroValue143
  t183 := Tryz.underlying144
  a183 := Tryz.isAgg144
  z183 := Tryz.sizeOf144
  v183 := Tryz.zeroValue144
  t218 := Tryz.underlying162
  a218 := Tryz.isAgg162
  z218 := Tryz.sizeOf162
  v218 := Tryz.zeroValue162
  t222 := Tryz.underlying166
  a222 := Tryz.isAgg166
  z222 := Tryz.sizeOf166
  v222 := Tryz.zeroValue166
  t228 := Tryz.underlying179
  a228 := Tryz.isAgg179
  z228 := Tryz.sizeOf179
  v228 := Tryz.zeroValue179
  t229 := Tryz.underlying180
  a229 := Tryz.isAgg180
  z229 := Tryz.sizeOf180
  v229 := Tryz.zeroValue180 }
open Go.Sort Go.RowKit in
theorem Tryz.slices_Sort_string (blk off cap : Nat) (ss : List (List UInt8)) (w : World) (hH : Holds encStr w blk off ss.toArray) (hblk : blk < w.heap.size) (hsz : ss.length < 4611686018427387904) :
    Calls Tryz.prog 75 #[.slice (some ⟨blk, off, none⟩) ss.length cap] w fun e w' =>
      e = .returned (.tuple #[]) ∧ ∃ n os, w' = grow (putRow encStr (Sort.ahead w n) blk off (ss.mergeSort fun x y => decide (x ≤ y)).toArray) os := Any.slices_Sort_string Tryz.lays190 blk off cap ss w hH hblk hsz
open Go.RowKit Go.Sort in
theorem Tryz.slices_Sort_string_none (p : Option Addr) (cap : Nat) (w : World) :
    Calls Tryz.prog 75 #[.slice p 0 cap] w fun e w' => e = .returned (.tuple #[]) ∧ w' = w := Any.slices_Sort_string_none Tryz.lays190 p cap w
end Go.Proofs
namespace Go.Proofs.YtkleenllkjodoaaGreatDoor
open Go Go.SX
attribute [local irreducible] swp opsS thenS blockS retS CallsS St Ent YieldS anyS drawS
def ErrM (M : Nat → Option Obj) : Prop := ∃ te pe, SlM M (some ⟨3, 0, none⟩) 1 1 [.iface te pe]
def LibM (M : Nat → Option Obj) : Prop := NibM M ∧ ErrM M
theorem ErrM.mono {M M' : Nat → Option Obj} (h : ErrM M) (hl : leM M M') : ErrM M' := by
  obtain ⟨te, pe, h⟩ := h
  exact ⟨te, pe, SlM.mono h hl⟩
theorem LibM.mono {M M' : Nat → Option Obj} (h : LibM M) (hl : leM M M') : LibM M' := ⟨h.1.mono hl, h.2.mono hl⟩
abbrev decD (n : Nat) : List UInt8 := Lib.decDigits n
theorem Itoa_spec (n : Nat) (hn : n < 100) (L : List HP) : CallsS Tryz.prog 63 [.int .i64 n] L (fun r L' => r = str (decD n) ∧ L' = L) :=
  CallsS.lift fun F w H => (Tryz.strconv_Itoa_small n hn w).mono fun e w' ⟨he, hw⟩ => ⟨_, he, rfl, fun k o h => by rw [hw]; exact h, by rw [hw]⟩
theorem decD_lo {n : Nat} (h : n < 10) : decD n = [UInt8.ofNat (48 + n)] := by
  show Lib.decDigits n = _
  rw [Lib.decDigits, dif_pos h]
theorem decD_hi {n : Nat} (h : 10 ≤ n) (h2 : n < 100) : decD n = [UInt8.ofNat (48 + n / 10), UInt8.ofNat (48 + n % 10)] := by
  show Lib.decDigits n = _
  rw [Lib.decDigits, dif_neg (by omega)]
  have := decD_lo (n := n / 10) (by omega)
  rw [show Lib.decDigits (n / 10) = _ from this]; rfl
theorem decD_len {n : Nat} (h : n < 100) : 1 ≤ (decD n).length ∧ (decD n).length ≤ 2 := by
  by_cases h1 : n < 10
  · rw [decD_lo h1]; simp
  · rw [decD_hi (by omega) h]; simp
theorem atoi_dec {n : Nat} (h : n < 100) : Lib.atoi (decD n) = some (n : Int) := by
  by_cases h1 : n < 10
  · rw [decD_lo h1]
    revert n; decide
  · have e : ∀ k, k < 10 → ∀ j, j < 10 → Lib.atoi [UInt8.ofNat (48 + k), UInt8.ofNat (48 + j)] = some ((k * 10 + j : Nat) : Int) := by decide
    rw [decD_hi (by omega) h, e _ (by omega) _ (by omega)]
    congr 2; omega
theorem dec_inj {a b : Nat} (ha : a < 100) (hb : b < 100) (h : decD a = decD b) : a = b := by
  have h1 := atoi_dec ha
  rw [h, atoi_dec hb] at h1
  have := Option.some.inj h1
  omega
theorem Atoi_ok (n : Nat) (hn : n < 100) (L : List HP) : CallsS Tryz.prog 83 [str (decD n)] L (fun r L' => r = .tuple #[.int .i64 n, .nilIface] ∧ L' = L) :=
  CallsS.lift fun F w H => (Tryz.strconv_Atoi ⟨(decD n).toArray⟩ n (by have := decD_len hn; simp [ByteArray.size]; omega) (atoi_dec hn) w).mono fun e w' ⟨he, t, hw⟩ => ⟨_, he, rfl, fun k o h => by
    subst hw
    rw [Lib.bytesWorld_at_old _ _ _ _ (Array.getElem?_eq_some_iff.1 h).1]; exact h, by subst hw; rfl⟩
theorem Atoi_no (b : UInt8) (bs : List UInt8) (hb : 97 ≤ b.toNat) (hl : bs.length ≤ 20) (M : Nat → Option Obj) (L : List HP) [hP : HasM M L] (hE : ErrM M) : CallsS Tryz.prog 83 [str (b :: bs)] L (fun r L' => (∃ v, r = .tuple #[.int .i64 0, v]) ∧ L' = L) := by
  obtain ⟨te, pe, hE⟩ := hE
  refine CallsS.lift fun F w H => ?_
  have hr : RdS L (some ⟨3, 0, none⟩) 1 1 [.iface te pe] := SlM.rd hE
  obtain ⟨b', o', e, hr⟩ := hr.2.resolve_left (by decide)
  cases e
  have hv := hr w F H 0 _ rfl
  have hs : Lib.atoiAll (b :: bs) = .syntax := by
    have h1 : ¬ b.toNat = 43 := by omega
    have h2 : ¬ b.toNat = 45 := by omega
    unfold Lib.atoiAll
    dsimp only
    rw [if_neg (by omega)]
    have : Lib.parseMag (b :: bs) = .syntax := by
      unfold Lib.parseMag
      rw [if_neg (by simp)]
      show (if 48 ≤ b.toNat ∧ b.toNat ≤ 57 then _ else Lib.NumEnd.syntax) = _
      rw [if_neg (by omega)]
    rw [this]
  refine (Tryz.strconv_Atoi_syntax ⟨(b :: bs).toArray⟩ (by simp [ByteArray.size]; omega) hs (.iface te pe) w hv (.inr ⟨te, pe, rfl⟩)).mono ?_
  rintro e w' ⟨N, rfl, hN, hcell, hB⟩
  refine ⟨_, rfl, ⟨_, rfl⟩, fun k o h => ?_, ?_⟩
  · have hlt : k < w.heap.size := (Array.getElem?_eq_some_iff.1 h).1
    rw [hB.block k hlt]; exact h
  · show (w'.os, w'.output) = (w.os, w.output)
    rw [hB.os, hB.output]
def nm (x : UInt8) (n : Nat) : List UInt8 := x :: decD n
set_option maxHeartbeats 1000000 in
theorem name_spec (x : UInt8) (n : Nat) (hn : n < 100) (L : List HP) : CallsS Tryz.prog 41 [str [x], .int .i64 n] L (fun r L' => r = str (nm x n) ∧ L' = L) := by
  have hl := decD_len hn
  refine CallsS.of_body Tryz.func41 rfl rfl rfl ?_
  refine Q.r ?_; (repeat (intro b1; refine Q.r ?_))
  refine S.cr rfl (Itoa_spec n hn L) ?_
  rintro _ _ ⟨rfl, rfl⟩
  refine Q.r ?_; (repeat (intro b1; refine Q.r ?_))
  refine S.y (Y.stA rfl rfl (by simp; omega)) ?_
  refine Q.r ?_; (repeat (intro b1; refine Q.r ?_))
  exact N.r1 (RV.tmp rfl RV.nil) (Ent.refl _) ⟨rfl, rfl⟩
set_option maxHeartbeats 1000000 in
theorem HasPrefix_spec (bs : List UInt8) (x : UInt8) (L : List HP) (hl : bs.length ≤ 1000) : CallsS Tryz.prog 111 [str bs, str [x]] L (fun r L' => r = .bool (decide (bs.take 1 = [x])) ∧ L' = L) := by
  refine CallsS.of_body Tryz.func111 rfl rfl rfl ?_
  refine Q.r ?_; (repeat (intro b1; refine Q.r ?_))
  refine S.y (Y.stL rfl) ?_
  refine Q.r ?_; (repeat (intro b1; refine Q.r ?_))
  refine S.y (Y.stL rfl) ?_
  cases bs with
  | nil =>
    refine Q.r ?_; (repeat (intro b1; refine Q.r ?_))
    exact N.r1 (RV.tmp rfl RV.nil) (Ent.refl _) ⟨rfl, rfl⟩
  | cons b bs =>
    have h1 : ([x].length : Int) ≤ ((b :: bs).length : Int) := by simp only [List.length_cons, List.length_nil]; omega
    refine Q.r ?_; (repeat (intro b1; refine Q.r ?_))
    refine S.y (Y.stL rfl) ?_
    refine Q.r ?_; (repeat (intro b1; refine Q.r ?_))
    refine S.y (Y.stT (h := 1) rfl rfl rfl (by simp)) ?_
    refine Q.r ?_; (repeat (intro b1; refine Q.r ?_))
    exact N.r1 (RV.tmp rfl RV.nil) (Ent.refl _) ⟨rfl, rfl⟩
set_option maxHeartbeats 1000000 in
theorem CutPrefix_spec (bs : List UInt8) (x : UInt8) (L : List HP) (hl : bs.length ≤ 1000) : CallsS Tryz.prog 92 [str bs, str [x]] L (fun r L' => r = .tuple #[str (if bs.take 1 = [x] then bs.drop 1 else bs), .bool (decide (bs.take 1 = [x]))] ∧ L' = L) := by
  refine CallsS.of_body Tryz.func92 rfl rfl rfl ?_
  refine Q.r ?_; (repeat (intro b1; refine Q.r ?_))
  refine S.cr rfl (HasPrefix_spec bs x L hl) ?_
  rintro _ _ ⟨rfl, rfl⟩
  by_cases h : bs.take 1 = [x]
  · have h1 : 1 ≤ bs.length := by
      cases bs with
      | nil => cases h
      | cons b bs => simp
    rw [decide_eq_true h, if_pos h]
    refine Q.r ?_; (repeat (intro b1; refine Q.r ?_))
    refine S.y (Y.stL rfl) ?_
    refine S.y (Y.stF (l := 1) rfl rfl rfl h1) ?_
    refine Q.r ?_; (repeat (intro b1; refine Q.r ?_))
    exact N.r2 (RV.tmp rfl (RV.tmp rfl RV.nil)) (Ent.refl _) ⟨rfl, rfl⟩
  · rw [decide_eq_false h, if_neg h]
    refine Q.r ?_; (repeat (intro b1; refine Q.r ?_))
    exact N.r2 (RV.tmp rfl (RV.tmp rfl RV.nil)) (Ent.refl _) ⟨rfl, rfl⟩
set_option maxHeartbeats 1000000 in
theorem SCutPrefix_spec (bs : List UInt8) (x : UInt8) (L : List HP) (hl : bs.length ≤ 1000) : CallsS Tryz.prog 82 [str bs, str [x]] L (fun r L' => r = .tuple #[str (if bs.take 1 = [x] then bs.drop 1 else bs), .bool (decide (bs.take 1 = [x]))] ∧ L' = L) := by
  refine CallsS.of_body Tryz.func82 rfl rfl rfl ?_
  refine Q.r ?_; (repeat (intro b1; refine Q.r ?_))
  refine S.cr rfl (CutPrefix_spec bs x L hl) ?_
  rintro _ _ ⟨rfl, rfl⟩
  refine Q.r ?_; (repeat (intro b1; refine Q.r ?_))
  exact N.r2 (RV.tmp rfl (RV.tmp rfl RV.nil)) (Ent.refl _) ⟨rfl, rfl⟩
set_option maxHeartbeats 2000000 in
theorem number_hit (x : UInt8) (n : Nat) (hn : n < 100) (L : List HP) : CallsS Tryz.prog 65 [str [x], str (nm x n)] L (fun r L' => r = .tuple #[.int .i64 n, .bool true] ∧ L' = L) := by
  have hl := decD_len hn
  refine CallsS.of_body Tryz.func65 rfl rfl rfl ?_
  refine Q.r ?_; (repeat (intro b1; refine Q.r ?_))
  refine S.cr rfl (SCutPrefix_spec (nm x n) x L (by unfold nm; rw [List.length_cons]; omega)) ?_
  rintro _ _ ⟨rfl, rfl⟩
  have e : (nm x n).take 1 = [x] := rfl
  rw [if_pos e, decide_eq_true e, show (nm x n).drop 1 = decD n from rfl]
  refine Q.r ?_; (repeat (intro b1; refine Q.r ?_))
  refine S.cr rfl (Atoi_ok n hn _) ?_
  rintro _ _ ⟨rfl, rfl⟩
  have hdl : ((decD n).length : Int) ≤ 7 := by omega
  refine Q.r ?_; (repeat (intro b1; refine Q.r ?_))
  refine S.y (Y.eqNN rfl Tryz.underlying130) ?_
  refine Q.r ?_; (repeat (intro b1; refine Q.r ?_))
  refine S.y (Y.stL rfl) ?_
  refine Q.r ?_; (repeat (intro b1; refine Q.r ?_))
  refine S.cr rfl (Itoa_spec n hn _) ?_
  rintro _ _ ⟨rfl, rfl⟩
  refine Q.r ?_; (repeat (intro b1; refine Q.r ?_))
  refine N.r2 (RV.tmp rfl (RV.tmp rfl RV.nil)) (Ent.refl _) ⟨?_, rfl⟩
  rw [decide_eq_true rfl]
theorem number_miss (x b : UInt8) (bs : List UInt8) (hb : 97 ≤ b.toNat) (hx : b ≠ x) (hl : bs.length ≤ 20) (M : Nat → Option Obj) (L : List HP) [hP : HasM M L] (hE : ErrM M) : CallsS Tryz.prog 65 [str [x], str (b :: bs)] L (fun r L' => r = .tuple #[.int .i64 0, .bool false] ∧ L' = L) := by
  refine CallsS.of_body Tryz.func65 rfl rfl rfl ?_
  refine Q.r ?_; (repeat (intro b1; refine Q.r ?_))
  refine S.cr rfl (SCutPrefix_spec (b :: bs) x L (by rw [List.length_cons]; omega)) ?_
  rintro _ _ ⟨rfl, rfl⟩
  have hne : ¬ ((b :: bs).take 1 = [x]) := by intro h; cases h; exact hx rfl
  rw [if_neg hne, decide_eq_false hne]
  refine Q.r ?_; (repeat (intro b1; refine Q.r ?_))
  refine S.cr rfl (Atoi_no b bs hb hl M _ hE) ?_
  rintro _ _ ⟨⟨v, rfl⟩, rfl⟩
  refine Q.r ?_; (repeat (intro b1; refine Q.r ?_))
  exact N.r2 (RV.tmp rfl (RV.tmp rfl RV.nil)) (Ent.refl _) ⟨rfl, rfl⟩
end Go.Proofs.YtkleenllkjodoaaGreatDoor
namespace Go.Proofs.YtkleenllkjodoaaGreatDoor
open Go Go.SX
attribute [local irreducible] swp opsS thenS blockS retS CallsS St Ent YieldS anyS drawS
def srtS (ks : List (List UInt8)) : List (List UInt8) := ks.mergeSort fun x y => decide (x ≤ y)
theorem srtS_perm (ks : List (List UInt8)) : (srtS ks).Perm ks := List.mergeSort_perm _ _
theorem srtS_len (ks : List (List UInt8)) : (srtS ks).length = ks.length := (srtS_perm ks).length_eq
theorem putC_str (ks ds : List (List UInt8)) (rest : List Value) (hl : ds.length = ks.length) : Sort.putCells encStr 0 ds.toArray (ks.map str ++ rest).toArray = (ds.map str ++ rest).toArray := by
  unfold Sort.putCells
  apply Array.ext
  · simp [hl]
  · intro i h1 h2
    simp only [Array.getElem_mapIdx, Nat.zero_le, true_and, Nat.zero_add, List.size_toArray, Nat.sub_zero, List.getElem_toArray]
    by_cases hi : i < ds.length
    · rw [if_pos hi, List.getElem_append_left (by simpa using hi), List.getElem_map]
      rw [getElem!_pos ds.toArray i (by simpa using hi)]
      rfl
    · rw [if_neg hi, List.getElem_append_right (by simp; omega), List.getElem_append_right (by simp; omega)]
      simp [hl]
set_option maxHeartbeats 1000000 in
theorem SortT_spec (a : Option Addr) (c : Nat) (ks : List (List UInt8)) (L : List HP) (hn : ks.length ≤ 1000000) :
    CallsS Tryz.prog 75 [.slice a ks.length c] (slO 9 1 a ks.length c (ks.map str) :: L) (fun r L' => r = .tuple #[] ∧ L' = slO 9 1 a ks.length c ((srtS ks).map str) :: L) := by
  refine CallsS.intro fun F w H => ?_
  obtain ⟨hl0, hq⟩ := St.slO_open (L := L ++ F) (by simpa using H)
  rcases hq with ⟨rfl, hm, hc, hcs, H2⟩ | ⟨b, rest, rfl, hm, hlen, H2⟩
  · have hks : ks = [] := List.eq_nil_of_length_eq_zero hm
    subst hks
    subst hc
    refine (Tryz.slices_Sort_string_none none 0 w).mono ?_
    rintro e w' ⟨rfl, rfl⟩
    exact ⟨_, slO 9 1 none 0 0 [] :: L, rfl, by simpa using St.slO_none (t := 9) (sz := 1) H2, rfl, by simp [srtS]⟩
  · have hb := St.pt_read H2
    have hlt : b < w.heap.size := (Array.getElem?_eq_some_iff.1 hb).1
    have hH : Sort.Holds encStr w b 0 ks.toArray := fun j hj => by
      have hj' : j < ks.length := by simpa using hj
      refine ⟨?_, ?_⟩
      · simp only [World.cell?, hb, cl, Nat.zero_add]
        rw [getElem!_pos ks.toArray j hj]
        simp [hj', List.getElem?_append_left, str, encStr]
      · simp [World.frozen?, hb, cl]
    refine (Tryz.slices_Sort_string b 0 c ks w hH hlt (by omega)).mono ?_
    rintro e w' ⟨rfl, n, os, rfl⟩
    refine ⟨_, slO 9 1 (some ⟨b, 0, none⟩) ks.length c ((srtS ks).map str) :: L, rfl, ?_, rfl, rfl⟩
    have H3 : St (Sort.putRow encStr (Sort.ahead w n) b 0 (srtS ks).toArray) (pt b (cl ((srtS ks).map str ++ rest) 9) :: (L ++ F)) := by
      refine St.pt_write (w := w) H2 ?_ (fun k hk => ?_) rfl
      · show ((Sort.mapBlock (Sort.ahead w n) b _).heap)[b]? = _
        have hb' : (Sort.ahead w n).heap[b]? = some (cl (ks.map str ++ rest) 9) := hb
        simp only [Sort.mapBlock, Array.getElem?_modify, hb', if_true, Option.map_some, Sort.onCells, cl]
        rw [putC_str ks (srtS ks) rest (srtS_len ks)]
      · show ((Sort.mapBlock (Sort.ahead w n) b _).heap)[k]? = _
        simp only [Sort.mapBlock, Array.getElem?_modify, Ne.symm hk, if_false]
        rfl
    have H4 := St.slO_shut (sz := 1) (m := ks.length) (c := c) (by rw [List.length_map, srtS_len]; omega) hm (by rw [List.length_append, List.length_map, srtS_len]; rw [List.length_append, List.length_map] at hlen; exact hlen) H3
    refine St.more (w := Sort.putRow encStr (Sort.ahead w n) b 0 (srtS ks).toArray) (L := slO 9 1 (some ⟨b, 0, none⟩) ks.length c ((srtS ks).map str) :: L ++ F) (by simpa using H4) (fun k o h => ?_) rfl
    have h' : (Sort.putRow encStr (Sort.ahead w n) b 0 (ks.mergeSort fun x y => decide (x ≤ y)).toArray).heap[k]? = some o := h
    show ((Sort.putRow encStr (Sort.ahead w n) b 0 (ks.mergeSort fun x y => decide (x ≤ y)).toArray).heap ++ os)[k]? = some o
    rw [Array.getElem?_append_left (Array.getElem?_eq_some_iff.1 h').1]
    exact h'
set_option maxHeartbeats 1000000 in
theorem Sorted_specT (gf : FuncId) (lb : List Value) [he : Go.SX.Enters Tryz.prog gf] (ms : List (List UInt8)) (A A' : List HP) (hn : ms.length ≤ 1000000) (hseq : SeqS Tryz.prog gf lb str 1048576 (fun ks => ks.Perm ms) A A') :
    CallsS Tryz.prog 54 [.func (.func gf) #[] lb.toArray] A (fun v L' => ∃ ks a c, ks.Perm ms ∧ v = .slice a ms.length c ∧ L' = slO 9 1 a ms.length c ((srtS ks).map str) :: A') := by
  refine CallsS.of_body Tryz.func54 rfl rfl rfl ?_
  refine Q.r ?_; (repeat (intro b1; refine Q.r ?_))
  refine S.cr rfl (CollectT_spec gf lb _ A A' hseq) ?_
  rintro _ _ ⟨ks, a, c, hks, rfl, rfl⟩
  refine Q.r ?_; (repeat (intro b1; refine Q.r ?_))
  refine S.cr rfl (SortT_spec a c ks A' (by rw [hks.length_eq]; exact hn)) ?_
  rintro _ _ ⟨rfl, rfl⟩
  refine Q.r ?_; (repeat (intro b1; refine Q.r ?_))
  exact N.r1 (RV.tmp rfl RV.nil) (Ent.refl _) ⟨ks, a, c, hks, by rw [hks.length_eq], by rw [hks.length_eq]⟩
def namesD (d : DK) : List (List UInt8) := srtS (d.fs.map (·.1))
theorem srt_uniq {a b : List (List UInt8)} (h : a.Perm b) : srtS a = srtS b := by
  have ha : (srtS a).Pairwise (fun x y => decide (x ≤ y) = true) := List.pairwise_mergeSort (fun x y z h1 h2 => by simp at *; exact List.le_trans h1 h2) (fun x y => by simpa using List.le_total x y) a
  have hb : (srtS b).Pairwise (fun x y => decide (x ≤ y) = true) := List.pairwise_mergeSort (fun x y z h1 h2 => by simp at *; exact List.le_trans h1 h2) (fun x y => by simpa using List.le_total x y) b
  have hp : (srtS a).Perm (srtS b) := (srtS_perm a).trans (h.trans (srtS_perm b).symm)
  exact List.Perm.eq_of_pairwise (le := fun x y => decide (x ≤ y) = true) (fun x y _ _ h1 h2 => by simp at h1 h2; exact List.le_antisymm h1 h2) ha hb hp
set_option maxHeartbeats 1000000 in
theorem Names_spec (p : Nat) (d : DK) (M : Nat → Option Obj) (L : List HP) :
    CallsS Tryz.prog 24 [.pointer (some ⟨p, 0, none⟩)] (diskH p d :: roM M :: L) (fun r L' => ∃ a c M', r = .slice a d.fs.length c ∧ SlM M' a d.fs.length 1 ((namesD d).map str) ∧ d.fs.length ≤ c ∧ leM M M' ∧ L' = diskH p d :: roM M' :: L) := by
  refine calls_disk fun mp ts hd => ?_
  refine CallsS.of_body Tryz.func24 rfl rfl rfl ?_
  refine Q.r ?_; (repeat (intro b1; refine Q.r ?_))
  refine S.cr rfl (MapKeysT_spec (some mp) _) ?_
  rintro _ _ ⟨bm, rfl, rfl⟩
  refine Q.r ?_; (repeat (intro b1; refine Q.r ?_))
  refine opsS_ent (Ent.cons (Ent.perm (.swap _ _ _))) ?_
  have hlen : ts.length = d.fs.length := by rw [← hd.fs, List.length_map]
  have hnm : ts.map (·.1) = d.fs.map (·.1) := by rw [← hd.fs, List.map_map]; rfl
  refine S.cr rfl (Sorted_specT _ _ (ts.map (·.1)) _ _ (by rw [List.length_map]; have := hd.few; omega) (SeqS.mono (KeysT_spec ptF bm mp ts (dP p mp d :: fsH ts :: roM M :: L)) (by have := hd.few; omega))) ?_
  rintro _ _ ⟨ks, a, c, hks, rfl, rfl⟩
  rw [List.length_map, hlen]
  refine opsS_absc a (fun M' hl hs hc => ?_)
  refine Q.r ?_; (repeat (intro b1; refine Q.r ?_))
  refine N.r1 (RV.tmp rfl RV.nil) ?_ ⟨a, c, M', rfl, ?_, hc, hl, rfl⟩
  · exact Ent.trans (M := dP p mp d :: dM mp ts :: fsH ts :: roM M' :: L) (by repeat (first | exact Ent.refl _ | exact Ent.nil | refine Ent.pick ?_ | refine Ent.nilS ?_ | refine Ent.nilM ?_ | refine Ent.drop ?_)) (disk_shut hd)
  · unfold namesD
    rw [← srt_uniq (hnm ▸ hks)]
    exact hs
end Go.Proofs.YtkleenllkjodoaaGreatDoor
namespace Go.Proofs.YtkleenllkjodoaaGreatDoor
open Go Go.SX
attribute [local irreducible] swp opsS thenS blockS retS CallsS St Ent YieldS anyS drawS
abbrev FE := List UInt8 × List UInt8 × Nat
def cutF (kf : List UInt8 → Nat) (done : List (List UInt8)) (u : FE) : FE := if u.1 ∈ done then (u.1, u.2.1.take (u.2.2 + kf u.1), u.2.2 + kf u.1) else u
def crK (d : DK) (kf : List UInt8 → Nat) (done : List (List UInt8)) : DK := { d with fs := d.fs.map (cutF kf done) }
def crD (d : DK) (kf : List UInt8 → Nat) : DK := { d with left := -1, down := false, fs := d.fs.map fun u => (u.1, u.2.1.take (u.2.2 + kf u.1), u.2.2 + kf u.1) }
def updK (kf : List UInt8 → Nat) (n : List UInt8) (k : Nat) : List UInt8 → Nat := fun x => if x = n then k else kf x
theorem nodup_at {α : Type} {l : List α} (h : l.Nodup) {i j : Nat} {x : α} (hi : l[i]? = some x) (hj : l[j]? = some x) : i = j := by
  obtain ⟨h1, h2⟩ := List.getElem?_eq_some_iff.1 hi
  obtain ⟨h3, h4⟩ := List.getElem?_eq_some_iff.1 hj
  rcases Nat.lt_trichotomy i j with hlt | rfl | hlt
  · exact absurd (h2.trans h4.symm) (List.pairwise_iff_getElem.1 h i j h1 h3 hlt)
  · rfl
  · exact absurd (h4.trans h2.symm) (List.pairwise_iff_getElem.1 h j i h3 h1 hlt)
theorem cut_step {fs : List FE} (hk : keysOK fs) {kf : List UInt8 → Nat} {done : List (List UInt8)} {i : Nat} {n bs : List UInt8} {firm k0 : Nat} (hi : fs[i]? = some (n, bs, firm)) (hn : n ∉ done) :
    fs.map (cutF (updK kf n k0) (done ++ [n])) = (fs.map (cutF kf done)).set i (n, bs.take (firm + k0), firm + k0) := by
  apply List.ext_getElem?
  intro j
  rw [List.getElem?_map, List.getElem?_set, List.getElem?_map, List.length_map]
  by_cases hj : i = j
  · subst hj
    rw [if_pos rfl, if_pos (List.getElem?_eq_some_iff.1 hi).1, hi, Option.map_some]
    unfold cutF updK
    rw [if_pos (by simp)]
    simp
  · rw [if_neg hj]
    cases hu : fs[j]? with
    | none => rfl
    | some u =>
      have hne : u.1 ≠ n := fun h => by
        exact hj (nodup_at hk (x := n) (by rw [List.getElem?_map, hi]; rfl) (by rw [List.getElem?_map, hu, ← h]; rfl))
      rw [Option.map_some, Option.map_some]
      unfold cutF updK
      by_cases hd : u.1 ∈ done
      · rw [if_pos (List.mem_append_left _ hd), if_pos hd, if_neg hne]
      · rw [if_neg (by simp [hd, hne]), if_neg hd]
set_option maxHeartbeats 4000000 in
theorem Crash_spec (p : Nat) (d : DK) (ak : Option Addr) (ck : Nat) (ks : List Int) (M : Nat → Option Obj) (L : List HP) (h : SlM M ak ks.length 1 (ks.map I64)) (hkl : ks.length ≤ 1000000) :
    CallsS Tryz.prog 35 [ptrD p, .slice ak ks.length ck] (diskH p d :: roM M :: L) (fun r L' => ∃ kf M', r = .tuple #[] ∧ leM M M' ∧ (∀ u ∈ d.fs, u.2.2 + kf u.1 ≤ u.2.1.length) ∧ (ks = [] → ∀ n, kf n = 0) ∧ L' = diskH p (crD d kf) :: roM M' :: L) := by
  refine calls_disk fun mp0 ts0 hd0 => CallsS.ent (disk_shut hd0) ?_
  have hfirm : ∀ u ∈ d.fs, u.2.2 ≤ u.2.1.length := by
    intro u hu
    rw [← hd0.fs] at hu
    obtain ⟨v, hv, rfl⟩ := List.mem_map.1 hu
    exact hd0.firm v hv
  have hkey : keysOK d.fs := key_fs hd0.fs hd0.key
  have hfew : d.fs.length ≤ 16 := by rw [← hd0.fs, List.length_map]; exact hd0.few
  have hused : usedD d.fs ≤ 1048576 := by have h1 := hd0.used; have h2 := hd0.rm; omega
  clear hd0
  refine CallsS.of_body Tryz.func35 rfl rfl rfl ?_
  refine Q.r ?_; (repeat (intro b1; refine Q.r ?_))
  refine S.ckm p rfl (Names_spec p d M _) ?_
  rintro _ _ ⟨a, c, M1, rfl, hs, hc, hl1, rfl⟩
  refine Q.r ?_; (repeat (intro b1; refine Q.r ?_))
  have hnl : (namesD d).length = d.fs.length := by unfold namesD; rw [srtS_len, List.length_map]
  have hs1 : SlM M1 a d.fs.length 1 ((namesD d).flatMap sC) := by rw [flat_sC]; exact hs
  have h1 : SlM M1 ak ks.length 1 (ks.map I64) := h.mono hl1
  refine swp_cutB (σ := List UInt8 → Nat) (fun _ => [(0, ptrD p)]) (fun kf => diskH p (crK d kf (namesD d)) :: roM M1 :: L) (fun kf => (∀ u ∈ d.fs, u.2.2 + kf u.1 ≤ u.2.1.length) ∧ (ks = [] → ∀ n, kf n = 0)) ?_ ?_
  · refine swp_loop (σ := Nat × (List UInt8 → Nat)) (fun s => [(0, ptrD p), (1, .slice ak ks.length ck), (11, .slice a d.fs.length c), (12, .int .i64 d.fs.length), (13, .int .i64 s.1)]) (fun s => diskH p (crK d s.2 ((namesD d).take s.1)) :: roM M1 :: L)
      (fun s => s.1 ≤ d.fs.length ∧ (∀ u ∈ d.fs, u.2.2 + s.2 u.1 ≤ u.2.1.length) ∧ (ks = [] → ∀ n, s.2 n = 0)) (fun s => d.fs.length - s.1) (0, fun _ => 0) ⟨rfl, rfl, rfl, rfl, rfl, trivial⟩ ?_ ?_ ?_
    · rw [show crK d (fun _ => 0) ((namesD d).take 0) = d from by unfold crK; rw [show d.fs.map (cutF (fun _ => 0) ((namesD d).take 0)) = d.fs from List.map_id'' (fun u => by unfold cutF; rw [if_neg (by simp)]) _]]
      exact Ent.refl _
    · exact ⟨by show 0 ≤ _; omega, fun u hu => hfirm u hu, fun _ _ => rfl⟩
    rintro ⟨k, kf⟩ ⟨hk, hkf, hk0⟩
    dsimp only at hk hkf hk0
    by_cases hlt : k < d.fs.length
    · obtain ⟨n, hnk⟩ := mem_get (hnl ▸ hlt : k < (namesD d).length)
      obtain ⟨b, o, rfl, hr⟩ := SlM.cm (g := sC) (fun _ => rfl) hs1 hnk hnl.symm
      have hmem : n ∈ d.fs.map (·.1) := (srtS_perm _).mem_iff.1 (List.mem_of_getElem? hnk)
      have hnd : (namesD d).Nodup := (srtS_perm _).nodup_iff.2 hkey
      have hnt : n ∉ (namesD d).take k := fun h => by
        obtain ⟨j, hj⟩ := List.getElem?_of_mem h
        rw [List.getElem?_take] at hj
        split at hj
        · have := nodup_at hnd hj hnk; omega
        · cases hj
      obtain ⟨⟨n', bs, firm⟩, hu, hn'⟩ := List.mem_map.1 hmem
      dsimp only at hn'
      subst hn'
      obtain ⟨i, hi⟩ := List.getElem?_of_mem hu
      have hfi := hfirm _ hu
      have hsz : bs.length ≤ usedD d.fs := sum_mem (List.mem_map_of_mem (f := fun u : FE => u.2.1.length) hu)
      dsimp only at hfi
      refine swp_disk p fun mp ts hd => ?_
      dsimp only at hd
      have hi2 : (ts.map DE.abs)[i]? = some (n', bs, firm) := by
        rw [hd.fs]
        show (d.fs.map _)[i]? = _
        rw [List.getElem?_map, hi, Option.map_some]
        unfold cutF
        rw [if_neg hnt]
      rw [List.getElem?_map] at hi2
      obtain ⟨⟨n2, ub, ua, uc, ubs, ufirm⟩, hti, hab⟩ := Option.map_eq_some_iff.1 hi2
      obtain ⟨rfl, rfl, rfl⟩ : n2 = n' ∧ ubs = bs ∧ ufirm = firm := by
        have := hab
        simp only [DE.abs, Prod.mk.injEq] at this
        exact this
      have hz : lkL (α := Nat × FV) ts n2 = some (ub, ⟨ua, uc, ubs, ufirm⟩) := (lkL_iff hd.key).2 (List.mem_of_getElem? hti)
      refine Q.r ?_; (repeat (intro b1; refine Q.r ?_))
      refine S.y (Y.lk false rfl rfl (fun w => Tryz.zeroValue82 w)) ?_
      rw [hz]
      dsimp only
      repeat (first | (refine GQ.y ?_; refine Q.y ?_) | (refine GQ.a ?_; refine Q.al (fun b1 => ?_)) | (refine GQ.s ?_; refine Q.st ?_) | (refine GQ.g ?_; refine Q.gq ?_))
      refine opsS_nil ?_
      refine N.tn ?_
      refine swp_seq ?_
      refine swp_region ?_; (repeat (first | (refine GQ.y ?_; refine Q.y ?_) | (refine GQ.a ?_; refine Q.al (fun b1 => ?_)) | (refine GQ.s ?_; refine Q.st ?_) | (refine GQ.g ?_; refine Q.gq ?_))); refine opsS_nil ?_; first | refine N.tn ?_ | skip
      refine swp_seq ?_
      refine swp_ent (L' := dP p mp (crK d kf ((namesD d).take k)) :: dM mp ts :: fsH ts :: roM M1 :: L) (by repeat (first | exact Ent.refl _ | exact Ent.nil | refine Ent.pick ?_ | refine Ent.nilS ?_ | refine Ent.nilM ?_ | refine Ent.drop ?_)) ?_
      refine swp_cutT (σ := Nat) (fun k0 => [(0, ptrD p), (1, .slice ak ks.length ck), (11, .slice (some ⟨b, o, none⟩) d.fs.length c), (12, .int .i64 d.fs.length), (13, .int .i64 k), (6, ptF (ub, (⟨ua, uc, ubs, ufirm⟩ : FV))), (7, .int .i64 k0)])
        (fun _ => dP p mp (crK d kf ((namesD d).take k)) :: dM mp ts :: fsH ts :: roM M1 :: L) (fun k0 => ufirm + k0 ≤ ubs.length ∧ (ks = [] → k0 = 0)) ?_ ?_
      · by_cases hkk : k < ks.length
        · obtain ⟨x, hx⟩ := mem_get hkk
          obtain ⟨b2, o2, rfl, hr2⟩ := SlM.cm1 (g := I64) h1 hx rfl
          by_cases hx0 : 0 < x
          · refine Q.r ?_; (repeat (intro b1; refine Q.r ?_))
            refine swp_fs hti ?_
            refine Q.dgo [true, false, false, true, true, true] [] [] [0, 1, 2, 3, 4, 5, 6, 7, 8, 9, 10, 11, 12, 13, 14, 15, 16] ?_
            refine Q.rd ?_; (repeat (intro b1; refine Q.rd ?_))
            refine D.yp rfl rfl rfl (Y.subN (a := ubs.length) (b := ufirm) rfl rfl ⟨hfi, by omega⟩) ?_
            refine Q.rd ?_; (repeat (intro b1; refine Q.rd ?_))
            obtain ⟨k0, hke⟩ : ∃ k0 : Nat, x.tmod (((ubs.length - ufirm : Nat) : Int) + 1) = (k0 : Int) := Int.eq_ofNat_of_zero_le (Int.tmod_nonneg _ (by omega))
            have hkl0 := Int.tmod_lt_of_pos x (b := ((ubs.length - ufirm : Nat) : Int) + 1) (by omega)
            refine D.yp rfl rfl rfl (Y.rem rfl rfl (by omega)) ?_
            rw [hke]
            refine Q.rd ?_; (repeat (intro b1; refine Q.rd ?_))
            refine Q.r ?_; (repeat (intro b1; refine Q.r ?_))
            exact ⟨k0, ⟨rfl, rfl, rfl, rfl, rfl, rfl, rfl, trivial⟩, Ent.trans (M := oneP (ub, (⟨ua, uc, ubs, ufirm⟩ : FV)) :: oneS (ub, (⟨ua, uc, ubs, ufirm⟩ : FV)) :: fsH (ts.eraseIdx i) :: dP p mp (crK d kf ((namesD d).take k)) :: dM mp ts :: roM M1 :: L) (by repeat (first | exact Ent.refl _ | exact Ent.nil | refine Ent.pick ?_ | refine Ent.nilS ?_ | refine Ent.nilM ?_ | refine Ent.drop ?_)) (Ent.trans (fs_back hti) (by repeat (first | exact Ent.refl _ | exact Ent.nil | refine Ent.pick ?_ | refine Ent.nilS ?_ | refine Ent.nilM ?_ | refine Ent.drop ?_))), by omega, fun h => by rw [h] at hkk; exact absurd hkk (by simp)⟩
          · refine Q.r ?_; (repeat (intro b1; refine Q.r ?_))
            exact ⟨0, ⟨rfl, rfl, rfl, rfl, rfl, rfl, rfl, trivial⟩, Ent.refl _, by omega, fun _ => rfl⟩
        · refine Q.r ?_; (repeat (intro b1; refine Q.r ?_))
          exact ⟨0, ⟨rfl, rfl, rfl, rfl, rfl, rfl, rfl, trivial⟩, Ent.refl _, by omega, fun _ => rfl⟩
      rintro k0 ⟨hk1, hk2⟩
      refine swp_fs hti ?_
      refine Q.r ?_; (repeat (intro b1; refine Q.r ?_))
      refine swp_sl ua (fun _ _ hcap => ?_)
      dsimp only at hcap
      refine swp_ent (L' := oneP (ub, (⟨ua, uc, ubs, ufirm⟩ : FV)) :: oneS (ub, (⟨ua, uc, ubs, ufirm⟩ : FV)) :: fsH (ts.eraseIdx i) :: dP p mp (crK d kf ((namesD d).take k)) :: dM mp ts :: roM M1 :: L) (by repeat (first | exact Ent.refl _ | exact Ent.nil | refine Ent.pick ?_ | refine Ent.nilS ?_ | refine Ent.nilM ?_ | refine Ent.drop ?_)) ?_
      refine Q.dgo [true, false, false, false, false, false] [14] [14] [0, 1, 2, 3, 4, 5, 6, 7, 8, 9, 10, 11, 12, 13, 14] ?_
      repeat (first | refine D.endA ?_ | refine Q.dp rfl rfl rfl ?_ | refine Q.dy rfl rfl rfl ?_ | refine D.end_ ?_ | refine Q.endH ?_ | (refine D.e rfl rfl rfl ?_; (first | refine S.gskip1 rfl ?_ | refine S.gskip rfl ?_ | refine S.y (Y.gskipU rfl) ?_); refine opsS_nil ?_; refine N.tn ?_))
      refine D.yp rfl rfl rfl (Y.addN (a := ufirm) (b := k0) rfl rfl (by omega)) ?_
      refine D.yp rfl rfl rfl (Y.slT (h := ufirm + k0) (c := uc) rfl rfl rfl (by omega)) ?_
      repeat (first | refine D.endA ?_ | refine Q.dp rfl rfl rfl ?_ | refine Q.dy rfl rfl rfl ?_ | refine D.end_ ?_ | refine Q.endH ?_ | (refine D.e rfl rfl rfl ?_; (first | refine S.gskip1 rfl ?_ | refine S.gskip rfl ?_ | refine S.y (Y.gskipU rfl) ?_); refine opsS_nil ?_; refine N.tn ?_))
      refine Q.dc rfl rfl rfl rfl ?_
      refine Q.r ?_; (repeat (intro b1; refine Q.r ?_))
      repeat (first | refine D.endA ?_ | refine Q.dp rfl rfl rfl ?_ | refine Q.dy rfl rfl rfl ?_ | refine D.end_ ?_ | refine Q.endH ?_ | (refine D.e rfl rfl rfl ?_; (first | refine S.gskip1 rfl ?_ | refine S.gskip rfl ?_ | refine S.y (Y.gskipU rfl) ?_); refine opsS_nil ?_; refine N.tn ?_))
      refine Q.r ?_; (repeat (intro b1; refine Q.r ?_))
      have hkf2 : (crK d kf ((namesD d).take k)).fs[i]? = some (n2, ubs, ufirm) := by
        show (d.fs.map _)[i]? = _
        rw [List.getElem?_map, hi, Option.map_some]
        unfold cutF
        rw [if_neg hnt]
      have hl2 : (ubs.take (ufirm + k0)).length = ufirm + k0 := by rw [List.length_take]; omega
      have hfs2 : (crK d (updK kf n2 k0) ((namesD d).take (k + 1))).fs = (crK d kf ((namesD d).take k)).fs.set i (n2, ubs.take (ufirm + k0), ufirm + k0) := by
        show d.fs.map _ = (d.fs.map _).set _ _
        rw [take_snoc hnk, cut_step hkey hi hnt]
      have hd2 : DOK (crK d (updK kf n2 k0) ((namesD d).take (k + 1))) (ts.set i (n2, ub, ⟨ua, uc, ubs.take (ufirm + k0), ufirm + k0⟩)) := hd.set hti _ rfl rfl hfs2 (by
        have h1 := hd.used
        have h2 : usedD (crK d (updK kf n2 k0) ((namesD d).take (k + 1))).fs ≤ usedD (crK d kf ((namesD d).take k)).fs := by
          rw [hfs2]
          exact used_set hkf2 (by simp; omega)
        have h3 : (crK d (updK kf n2 k0) ((namesD d).take (k + 1))).room = (crK d kf ((namesD d).take k)).room := rfl
        omega) (by
        show ufirm + k0 ≤ (ubs.take (ufirm + k0)).length
        omega)
      refine ⟨(k + 1, updK kf n2 k0), ⟨rfl, rfl, rfl, rfl, rfl, trivial⟩, ?_, ⟨by show k + 1 ≤ _; omega, fun u hu2 => ?_, fun h n => ?_⟩, by show _ - (k + 1) < _ - k; omega⟩
      · refine Ent.trans (M := slO 5 1 ua ubs.length uc (ubs.map B) :: pt ub (cl [.slice ua (ufirm + k0) uc, .int .i64 (ufirm + k0 : Nat)] 84) :: fsH (ts.eraseIdx i) :: dP p mp (crK d kf ((namesD d).take k)) :: dM mp ts :: roM M1 :: L) (by repeat (first | exact Ent.refl _ | exact Ent.nil | refine Ent.pick ?_ | refine Ent.nilS ?_ | refine Ent.nilM ?_ | refine Ent.drop ?_)) ?_
        refine Ent.trans (slB_take rfl hk1) ?_
        refine Ent.trans (M := oneP (ub, (⟨ua, uc, ubs.take (ufirm + k0), ufirm + k0⟩ : FV)) :: oneS (ub, (⟨ua, uc, ubs.take (ufirm + k0), ufirm + k0⟩ : FV)) :: fsH (ts.eraseIdx i) :: dP p mp (crK d kf ((namesD d).take k)) :: dM mp ts :: roM M1 :: L) ?_ (disk_upd hti hd2)
        show Ent _ (pt ub (cl [.slice ua (ubs.take (ufirm + k0)).length uc, .int .i64 ((ufirm + k0 : Nat) : Int)] 84) :: slO 5 1 ua (ubs.take (ufirm + k0)).length uc ((ubs.take (ufirm + k0)).map B) :: fsH (ts.eraseIdx i) :: dP p mp (crK d kf ((namesD d).take k)) :: dM mp ts :: roM M1 :: L)
        rw [hl2]
        repeat (first | exact Ent.refl _ | exact Ent.nil | refine Ent.pick ?_ | refine Ent.nilS ?_ | refine Ent.nilM ?_ | refine Ent.drop ?_)
      · show u.2.2 + updK kf n2 k0 u.1 ≤ _
        unfold updK
        split
        · next he =>
          obtain ⟨j, hj⟩ := List.getElem?_of_mem hu2
          have hij : i = j := nodup_at hkey (x := n2) (by rw [List.getElem?_map, hi]; rfl) (by rw [List.getElem?_map, hj, ← he]; rfl)
          subst hij
          rw [hi] at hj
          obtain rfl := Option.some.inj hj
          exact hk1
        · exact hkf u hu2
      · show updK kf n2 k0 n = 0
        unfold updK
        split
        · exact hk2 h
        · exact hk0 h n
    · have hke : k = d.fs.length := by omega
      subst hke
      refine Q.r ?_; (repeat (intro b1; refine Q.r ?_))
      exact ⟨kf, ⟨rfl, trivial⟩, by rw [show (namesD d).take d.fs.length = namesD d from by rw [← hnl, List.take_length]]; exact Ent.refl _, hkf, hk0⟩
  · intro kf hkf
    refine swp_disk p fun mp ts hd => ?_
    refine Q.r ?_; (repeat (intro b1; refine Q.r ?_))
    obtain ⟨hkf1, hkf2⟩ := hkf
    have hnm : ∀ u ∈ d.fs, u.1 ∈ namesD d := fun u hu => (srtS_perm _).mem_iff.2 (List.mem_map_of_mem hu)
    have he : crD d kf = { crK d kf (namesD d) with left := -1, down := false } := by
      unfold crD crK
      congr 1
      exact List.map_congr_left fun u hu => by unfold cutF; rw [if_pos (hnm u hu)]
    refine N.n0 RV.nil ?_ ⟨kf, M1, rfl, hl1, hkf1, hkf2, rfl⟩
    rw [he]
    refine Ent.trans (M := dP p mp { crK d kf (namesD d) with left := -1, down := false } :: dM mp ts :: fsH ts :: roM M1 :: L) (by repeat (first | exact Ent.refl _ | exact Ent.nil | refine Ent.pick ?_ | refine Ent.nilS ?_ | refine Ent.nilM ?_ | refine Ent.drop ?_)) (disk_shut ⟨hd.fs, hd.key, ⟨by show (-1 : Int) ≤ -1; omega, by show (-1 : Int) ≤ 1000000; omega⟩, hd.rm, hd.used, hd.few, hd.firm⟩)
end Go.Proofs.YtkleenllkjodoaaGreatDoor
namespace Go.Proofs.YtkleenllkjodoaaGreatDoor
open Go Go.SX
attribute [local irreducible] swp opsS thenS blockS retS CallsS St Ent YieldS anyS drawS
attribute [local irreducible] opsI
def chL (bs : List UInt8) : List (List UInt8) := if h : bs = [] then [] else bs.take 4096 :: chL (bs.drop 4096)
termination_by bs.length
decreasing_by
  have : bs.length ≠ 0 := fun e => h (List.length_eq_zero_iff.1 e)
  rw [List.length_drop]; omega
theorem chL_nil : chL [] = [] := by rw [chL, dif_pos rfl]
theorem chL_cons {bs : List UInt8} (h : bs ≠ []) : chL bs = bs.take 4096 :: chL (bs.drop 4096) := by rw [chL, dif_neg h]
theorem chL_len (bs : List UInt8) : (chL bs).length ≤ bs.length := by
  induction bs using chL.induct with
  | case1 => rw [chL_nil]; exact Nat.le_refl _
  | case2 bs h ih =>
    have : bs.length ≠ 0 := fun e => h (List.length_eq_zero_iff.1 e)
    rw [chL_cons h, List.length_cons]
    rw [List.length_drop] at ih
    omega
abbrev CV (M : Nat → Option Obj) := { v : YB // okYM M v ∧ v.bs.length ≤ v.c ∧ v.bs.length ≤ 4096 }
abbrev cvV {M : Nat → Option Obj} (v : CV M) : Value := v.1.val
set_option maxHeartbeats 2000000 in
theorem ChunkF_spec (M : Nat → Option Obj) (a : Option Addr) (c : Nat) (bs : List UInt8) (b2 b3 : Nat) (A : List HP) (h : SlM M a bs.length 1 (bs.map B)) (hc : bs.length ≤ c) (hl : bs.length ≤ 1048575) :
    SeqS Tryz.prog 106 [ptrD b2, ptrD b3] (cvV (M := M)) 1048576 (fun ks => ks.map (fun v => v.1.bs) = chL bs) (pt b2 (cl [.slice a bs.length c] 31) :: pt b3 (cl [.int .i64 4096] 3) :: A) A := by
  intro l J hJ
  refine CallsS.of_body Tryz.func106 rfl rfl rfl ?_
  refine Q.r ?_; (repeat (intro b1; refine Q.r ?_))
  refine swp_loop (σ := List (CV M)) (fun ks => [(0, .func (.yield l) #[] #[]), (1, ptrD b2), (2, ptrD b3), (4, .int .i64 (4096 * ks.length : Nat))])
    (fun ks => J ks :: pt b2 (cl [.slice a bs.length c] 31) :: pt b3 (cl [.int .i64 4096] 3) :: A) (fun ks => ks.map (fun v => v.1.bs) ++ chL (bs.drop (4096 * ks.length)) = chL bs ∧ 4096 * ks.length ≤ bs.length + 4095) (fun ks => bs.length + 4096 - 4096 * ks.length) [] ⟨rfl, rfl, rfl, rfl, trivial⟩ (Ent.refl _) ⟨rfl, by simp⟩ ?_
  rintro ks ⟨hks, hkl⟩
  by_cases hlt : 4096 * ks.length < bs.length
  · obtain ⟨b, o, rfl⟩ : ∃ b o, a = some ⟨b, o, none⟩ := by
      rcases h.2 with h0 | ⟨b, o, _, _, _, e, _⟩
      · omega
      · exact ⟨b, o, e⟩
    obtain ⟨k, hk⟩ : ∃ k, k = 4096 * ks.length := ⟨_, rfl⟩
    rw [← hk] at hlt hks hkl ⊢
    obtain ⟨m, hm⟩ : ∃ m, m = min 4096 (bs.length - k) := ⟨_, rfl⟩
    refine Q.r ?_; (repeat (intro b1; refine Q.r ?_))
    refine Q.dgo [false, true, true] [] [] [0, 1, 2, 3, 4, 5, 6] ?_
    refine Q.rd ?_; (repeat (intro b1; refine Q.rd ?_))
    refine D.yp rfl rfl rfl (Y.slF (l := k) rfl rfl rfl (by omega)) ?_
    refine Q.rd ?_; (repeat (intro b1; refine Q.rd ?_))
    rw [show (min 4096 ((bs.length - k : Nat) : Int) : Int) = (m : Int) from by omega]
    refine N.tn ?_
    refine swp_seq ?_
    refine swp_regionI ?_
    refine opsI_one (fun _ h => by cases h) rfl ?_
    refine Q.r ?_; (repeat (intro b1; refine Q.r ?_))
    refine opsI_one (fun _ h => by cases h) rfl ?_
    refine Q.r ?_; (repeat (intro b1; refine Q.r ?_))
    refine opsI_one (fun _ h => by cases h) rfl ?_
    refine Q.r ?_; (repeat (intro b1; refine Q.r ?_))
    refine opsI_one (fun _ h => by cases h) rfl ?_
    refine Q.r ?_; (repeat (intro b1; refine Q.r ?_))
    refine opsI_one (fun _ h => by cases h) rfl ?_
    refine Q.r ?_; (repeat (intro b1; refine Q.r ?_))
    refine opsI_one (fun _ h => by cases h) rfl ?_
    refine S.y (Y.addN (a := k) (b := m) rfl rfl (by omega)) ?_
    refine Q.r ?_; (repeat (intro b1; refine Q.r ?_))
    refine opsI_one (fun _ h => by cases h) rfl ?_
    refine Q.r ?_; (repeat (intro b1; refine Q.r ?_))
    refine opsI_one (fun _ h => by cases h) rfl ?_
    refine Q.r ?_; (repeat (intro b1; refine Q.r ?_))
    refine opsI_one (fun _ h => by cases h) rfl ?_
    refine S.y (Y.addN (a := k) (b := m) rfl rfl (by omega)) ?_
    refine Q.r ?_; (repeat (intro b1; refine Q.r ?_))
    refine opsI_one (fun _ h => by cases h) rfl ?_
    refine S.y (Y.sl3 (l := k) (h := k + m) (mm := k + m) rfl rfl rfl rfl rfl rfl rfl (by omega) (by omega) (by omega)) ?_
    rw [if_neg (show ¬ k + m = k from by omega), show k + m - k = m from by omega, show Option.map (fun z : Addr => z.add (k * 1)) (some ⟨b, o, none⟩) = some ⟨b, o + k * 1, none⟩ from by simp [Addr.add]]
    refine Q.r ?_; (repeat (intro b1; refine Q.r ?_))
    have hpl : ((bs.drop k).take m).length = m := by rw [List.length_take, List.length_drop]; omega
    have hok : okYM M ⟨some ⟨b, o + k * 1, none⟩, m, (bs.drop k).take m⟩ := by
      have := okYM.cut (k := m) h hc k (by omega)
      rw [if_neg (by omega)] at this
      exact this
    obtain ⟨x, hx⟩ : ∃ x : CV M, x.1 = ⟨some ⟨b, o + k * 1, none⟩, m, (bs.drop k).take m⟩ := ⟨⟨⟨some ⟨b, o + k * 1, none⟩, m, (bs.drop k).take m⟩, hok, Nat.le_of_eq hpl, by dsimp only; rw [hpl]; omega⟩, rfl⟩
    have hxv : Value.slice (some ⟨b, o + k * 1, none⟩) m m = cvV x := by show _ = YB.val x.1; rw [hx]; show _ = Value.slice _ (List.length _) _; rw [hpl]
    rw [hxv]
    refine opsI_ent (L' := J ks :: pt b2 (cl [.slice (some ⟨b, o, none⟩) bs.length c] 31) :: pt b3 (cl [.int .i64 4096] 3) :: A) (by repeat (first | exact Ent.refl _ | exact Ent.nil | refine Ent.pick ?_ | refine Ent.nilS ?_ | refine Ent.nilM ?_ | refine Ent.drop ?_)) ?_
    refine opsI_yield rfl rfl ((hJ ks x (by omega)).frame (R := _)) ?_
    refine opsI_one (fun _ h => by cases h) rfl ?_
    refine Q.r ?_; (repeat (intro b1; refine Q.r ?_))
    refine opsI_nil ?_
    dsimp only [List.cons_append, List.nil_append]
    refine Q.r ?_; (repeat (intro b1; refine Q.r ?_))
    have hk2 : k + 4096 = 4096 * (ks ++ [x]).length := by simp; omega
    have hne : bs.drop k ≠ [] := fun h => by have := congrArg List.length h; rw [List.length_drop] at this; simp at this; omega
    have htk : (bs.drop k).take m = (bs.drop k).take 4096 := by
      rw [hm]
      by_cases h4 : 4096 ≤ bs.length - k
      · rw [Nat.min_eq_left h4]
      · rw [Nat.min_eq_right (by omega), List.take_of_length_le (by rw [List.length_drop]; exact Nat.le_refl _), List.take_of_length_le (by rw [List.length_drop]; omega)]
    refine ⟨ks ++ [x], ⟨rfl, rfl, rfl, congrArg some (congrArg (Value.int .i64) (by rw [← hk2]; rfl)), trivial⟩, Ent.refl _, ⟨?_, by omega⟩, by omega⟩
    rw [← hk2, List.map_append, List.append_assoc, ← hks, chL_cons hne, List.drop_drop]
    show _ ++ (x.1.bs :: _) = _
    rw [hx]
    dsimp only
    rw [htk]
    rfl
  · have e : bs.drop (4096 * ks.length) = [] := List.drop_eq_nil_of_le (by omega)
    rw [e, chL_nil, List.append_nil] at hks
    refine Q.r ?_; (repeat (intro b1; refine Q.r ?_))
    exact N.n0 RV.nil (by repeat (first | exact Ent.refl _ | exact Ent.nil | refine Ent.pick ?_ | refine Ent.nilS ?_ | refine Ent.nilM ?_ | refine Ent.drop ?_)) ⟨ks, hks, rfl⟩
end Go.Proofs.YtkleenllkjodoaaGreatDoor
