/- The judge: what it plans for a vote, an acknowledgement, a probe. The judge: its plans and its records as laws of states. copy; append of zeros onto a slice that is full. slices.Sort at a few numbers of type int: insertionSort alone. slices.BinarySearch, slices.Insert at numbers of type int; the judge's put. The judge: what it plans for a vote. JudgeOnce: the law, of states alone. The judge: the parts of ops, a part's Prepare. Regions that draw an order: an operation that writes may read what is held, and give it back. The judge: what it plans for an Ask. The judge: Plan. The judge: a trial more; a part that has said so. No condition. -/
import Derived.Lib.AppendZerosOnto
import Derived.Lib.Overlaps
import Derived.Test.YtiampehfpgcogaaGreatDoorPk05
set_option linter.unusedVariables false
set_option linter.unusedSimpArgs false
set_option linter.unusedSectionVars false
namespace Go.Proofs.YtiampehfpgcogaaGreatDoor
open Go Go.SX
attribute [local irreducible] swp opsS thenS blockS retS CallsS St Ent YieldS anyS drawS
structure PG where
 rec_ : List NA
 notes : List NA
 mail : List (Int × NA)
 inst : List NA
 els : List (Int × NA)
def PG.none : PG := ⟨[],[],[],[],[]⟩
def voteG (j : JG) (fr : Int) (n : NA) : PG :=
 match lkL j.tr n.txn with
 | none => PG.none
 | some t =>
  if 0 < t.stamp ∨ fr ∉ t.parts then PG.none
  else if n.code ≠ 0 then ⟨[],[goneN t.txn],toldM t 0 n.code,[],[]⟩
  else if fr ∈ t.yes then PG.none
  else if t.yes.length + 1 ≠ t.parts.length then ⟨[],[{ NA.zero with kind := 20,txn := n.txn,who := fr }],[],[],[]⟩
  else ⟨[{ NA.zero with kind := 17,txn := t.txn,batch := t.batch,stamp := j.last + 1,parts := t.parts }],[],toldM t (j.last + 1) 0,[goneN t.txn],toldM t 0 8⟩
def ackG (j : JG) (fr : Int) (n : NA) : PG :=
 match lkL j.tr n.txn with
 | none => PG.none
 | some t =>
  if t.stamp = 0 ∨ fr ∉ t.parts ∨ fr ∈ t.acked then PG.none
  else if t.acked.length + 1 ≠ t.parts.length then ⟨[],[{ NA.zero with kind := 21,txn := n.txn,who := fr }],[],[],[]⟩
  else ⟨[{ NA.zero with kind := 18,txn := n.txn }],[],[],[],[]⟩
def probeG (j : JG) (fr : Int) (n : NA) : PG :=
 match lkL j.tr n.txn with
 | none => ⟨[],[],[decM fr n.txn 0 6],[],[]⟩
 | some t => if t.stamp = 0 then PG.none else ⟨[],[],[decM fr n.txn t.stamp 0],[],[]⟩
def okNs (M : Nat → Option Obj) (a : Option Addr) (xs : List NV) : Prop := SlM M a xs.length 16 (xs.flatMap NV.cells) ∧ ∀ n ∈ xs,okN M n
def okMs (M : Nat → Option Obj) (a : Option Addr) (xs : List (Int × NV)) : Prop := SlM M a xs.length 17 (xs.flatMap mcells) ∧ ∀ n ∈ xs,okN M n.2
theorem okNs.mono {M M' : Nat → Option Obj} {a : Option Addr} {xs : List NV} (h : okNs M a xs) (hl : leM M M') : okNs M' a xs := ⟨h.1.mono hl,fun n hn => (h.2 n hn).mono hl⟩
theorem okMs.mono {M M' : Nat → Option Obj} {a : Option Addr} {xs : List (Int × NV)} (h : okMs M a xs) (hl : leM M M') : okMs M' a xs := ⟨h.1.mono hl,fun n hn => (h.2 n hn).mono hl⟩
theorem okNs.nil {M : Nat → Option Obj} {a : Option Addr} : okNs M a [] := ⟨SlM.nil0,fun _ h => by cases h⟩
theorem okMs.nil {M : Nat → Option Obj} {a : Option Addr} : okMs M a [] := ⟨SlM.nil0,fun _ h => by cases h⟩
theorem okMs.nv {M : Nat → Option Obj} {a : Option Addr} {l : List (Int × NA)} (h : SlM M a l.length 17 (l.flatMap mailC)) : okMs M a (l.map fun m => (m.1,m.2.nv)) := by
 refine ⟨by rw [List.length_map,List.flatMap_map];exact h,fun n hn => ?_⟩
 obtain ⟨u,_,rfl⟩ := List.mem_map.1 hn
 exact okN.nv u.2
theorem okNs.nv {M : Nat → Option Obj} {a : Option Addr} {l : List NA} (h : SlM M a l.length 16 (l.flatMap fun r => r.nv.cells)) : okNs M a (l.map NA.nv) := by
 refine ⟨by rw [List.length_map,List.flatMap_map];exact h,fun n hn => ?_⟩
 obtain ⟨u,_,rfl⟩ := List.mem_map.1 hn
 exact okN.nv u
def planGR (M : Nat → Option Obj) (p : Nat) (j : JG) (pl : PG) (L : List HP) (r : Value) (L' : List HP) : Prop := ∃ (a1 : Option Addr) (c1 : Nat) (rs : List NV) (a2 : Option Addr) (c2 : Nat) (ns : List NV) (a3 : Option Addr) (c3 : Nat) (ms : List (Int × NV)) (a4 : Option Addr) (c4 : Nat) (is : List NV) (a5 : Option Addr) (c5 : Nat) (es : List (Int × NV)) (M' : Nat → Option Obj),
 r = .agg #[.slice a1 rs.length c1,.slice a2 ns.length c2,.slice a3 ms.length c3,.slice a4 is.length c4,.slice a5 es.length c5] ∧ leM M M' ∧
 (okNs M' a1 rs ∧ okNs M' a2 ns ∧ okMs M' a3 ms ∧ okNs M' a4 is ∧ okMs M' a5 es) ∧
 (rs.map NV.abs = pl.rec_ ∧ ns.map NV.abs = pl.notes ∧ ms.map (fun m => (m.1,m.2.abs)) = pl.mail ∧ is.map NV.abs = pl.inst ∧ es.map (fun m => (m.1,m.2.abs)) = pl.els) ∧
 L' = jdgH M' p j :: roM M' :: L
def planGR0 (M : Nat → Option Obj) (p : Nat) (j : JG) (pl : PG) (L : List HP) (r : Value) (L' : List HP) : Prop := ∃ (a1 : Option Addr) (c1 : Nat) (rs : List NV) (a2 : Option Addr) (c2 : Nat) (ns : List NV) (a3 : Option Addr) (c3 : Nat) (ms : List (Int × NV)) (a4 : Option Addr) (c4 : Nat) (is : List NV) (a5 : Option Addr) (c5 : Nat) (es : List (Int × NV)) (M' : Nat → Option Obj),
 r = .agg #[.slice a1 rs.length c1,.slice a2 ns.length c2,.slice a3 ms.length c3,.slice a4 is.length c4,.slice a5 es.length c5] ∧ leM M M' ∧
 ((∀ n ∈ rs,okN M' n) ∧ (∀ n ∈ ns,okN M' n) ∧ (∀ n ∈ ms,okN M' n.2) ∧ (∀ n ∈ is,okN M' n) ∧ ∀ n ∈ es,okN M' n.2) ∧
 (rs.map NV.abs = pl.rec_ ∧ ns.map NV.abs = pl.notes ∧ ms.map (fun m => (m.1,m.2.abs)) = pl.mail ∧ is.map NV.abs = pl.inst ∧ es.map (fun m => (m.1,m.2.abs)) = pl.els) ∧
 L' = slO 52 16 a1 rs.length c1 (rs.flatMap NV.cells) :: slO 52 16 a2 ns.length c2 (ns.flatMap NV.cells) :: slO 54 17 a3 ms.length c3 (ms.flatMap mcells) :: slO 52 16 a4 is.length c4 (is.flatMap NV.cells) :: slO 54 17 a5 es.length c5 (es.flatMap mcells) :: jdgH M' p j :: roM M' :: L
theorem planGR.of0 {M : Nat → Option Obj} {p : Nat} {j : JG} {pl : PG} {L : List HP} {r : Value} {L' : List HP} (h : planGR0 M p j pl L r L') : EntX L' (planGR M p j pl L r) := by
 obtain ⟨a1,c1,rs,a2,c2,ns,a3,c3,ms,a4,c4,is,a5,c5,es,M0,rfl,hl,⟨o1,o2,o3,o4,o5⟩,ab,rfl⟩ := h
 refine EntX.abs a1 (fun M1 l1 s1 => ?_)
 refine EntX.abs a2 (fun M2 l2 s2 => ?_)
 refine EntX.abs a3 (fun M3 l3 s3 => ?_)
 refine EntX.abs a4 (fun M4 l4 s4 => ?_)
 refine EntX.abs a5 (fun M5 l5 s5 => ?_)
 have l45 := l5
 have l35 := l4.trans l45
 have l25 := l3.trans l35
 have l15 := l2.trans l25
 have l05 := l1.trans l15
 refine EntX.ent (Ent.trans (M := jdgH M0 p j :: roM M5 :: L) (by exact Go.SX.Ent.go) (jdg_mono l05)) (EntX.done ?_)
 exact ⟨a1,c1,rs,a2,c2,ns,a3,c3,ms,a4,c4,is,a5,c5,es,M5,rfl,hl.trans l05,⟨⟨s1.mono l15,fun n hn => (o1 n hn).mono l05⟩,⟨s2.mono l25,fun n hn => (o2 n hn).mono l05⟩,⟨s3.mono l35,fun n hn => (o3 n hn).mono l05⟩,⟨s4.mono l45,fun n hn => (o4 n hn).mono l05⟩,⟨s5,fun n hn => (o5 n hn).mono l05⟩⟩,ab,rfl⟩
theorem nvm_abs {l : List (Int × NA)} (h : ∀ m ∈ l,m.2.nv.abs = m.2) : (l.map fun m => (m.1,m.2.nv)).map (fun m : Int × NV => (m.1,m.2.abs)) = l := by
 rw [List.map_map]
 refine (List.map_congr_left fun m hm => ?_).trans (List.map_id l)
 show (m.1,m.2.nv.abs) = m
 rw [h m hm]
theorem toldM_abs (t : TR) (s c : Int) : ∀ m ∈ toldM t s c,m.2.nv.abs = m.2 := by
 intro m hm
 unfold toldM at hm
 rcases List.mem_append.1 hm with h | h
 ·obtain ⟨q,_,rfl⟩ := List.mem_map.1 h;rfl
 ·rw [List.mem_singleton] at h;subst h;rfl
theorem toldM_len (t : TR) (s c : Int) : (toldM t s c).length = t.parts.length + 1 := by
 unfold toldM;rw [List.length_append,List.length_map];rfl
theorem planGR.none (M : Nat → Option Obj) (p : Nat) (j : JG) (L : List HP) : planGR M p j PG.none L (.agg #[.slice none 0 0,.slice none 0 0,.slice none 0 0,.slice none 0 0,.slice none 0 0]) (jdgH M p j :: roM M :: L) :=
 ⟨Option.none,0,[],Option.none,0,[],Option.none,0,[],Option.none,0,[],Option.none,0,[],M,rfl,leM.refl M,⟨okNs.nil,okNs.nil,okMs.nil,okNs.nil,okMs.nil⟩,⟨rfl,rfl,rfl,rfl,rfl⟩,rfl⟩
theorem planGR0.none (M : Nat → Option Obj) (p : Nat) (j : JG) (L : List HP) : planGR0 M p j PG.none L (.agg #[.slice none 0 0,.slice none 0 0,.slice none 0 0,.slice none 0 0,.slice none 0 0]) (slO 52 16 Option.none 0 0 [] :: slO 52 16 Option.none 0 0 [] :: slO 54 17 Option.none 0 0 [] :: slO 52 16 Option.none 0 0 [] :: slO 54 17 Option.none 0 0 [] :: jdgH M p j :: roM M :: L) :=
 ⟨Option.none,0,[],Option.none,0,[],Option.none,0,[],Option.none,0,[],Option.none,0,[],M,rfl,leM.refl M,⟨fun _ h => (by cases h),fun _ h => (by cases h),fun _ h => (by cases h),fun _ h => (by cases h),fun _ h => (by cases h)⟩,⟨rfl,rfl,rfl,rfl,rfl⟩,rfl⟩
theorem nil5 {L : List HP} : Ent L (slO 52 16 none 0 0 [] :: slO 52 16 none 0 0 [] :: slO 54 17 none 0 0 [] :: slO 52 16 none 0 0 [] :: slO 54 17 none 0 0 [] :: L) := by exact Go.SX.Ent.go
section
variable {n : Nat} {ops rest : List Oper} {cd : Code} {Q : Post} {f : Env} {L L0 : List HP}
theorem opsS_trs {ts : List TB} [hp : Pick (trsH ts) L L0] {k : Nat} {u : TB} (h : ts[k]? = some u) (hk : opsS Tryz.prog n ops rest Q f (oneT u.2 :: trsH (ts.eraseIdx k) :: L0)) : opsS Tryz.prog n ops rest Q f L := opsS_ent (hp.ent.trans (trs_out h)) hk
theorem swp_trs {ts : List TB} [hp : Pick (trsH ts) L L0] {k : Nat} {u : TB} (h : ts[k]? = some u) (hk : swp Tryz.prog n cd Q f (oneT u.2 :: trsH (ts.eraseIdx k) :: L0)) : swp Tryz.prog n cd Q f L := swp_ent (hp.ent.trans (trs_out h)) hk
end
theorem trs_back {ts : List TB} {k : Nat} {u : TB} (h : ts[k]? = some u) {L : List HP} : Ent (oneT u.2 :: trsH (ts.eraseIdx k) :: L) (trsH ts :: L) := by
 have hk : k < ts.length := (List.getElem?_eq_some_iff.1 h).1
 have hu : ts[k] = u := (List.getElem?_eq_some_iff.1 h).2
 have := trs_in hk u (L := L)
 rw [← hu,List.set_getElem_self] at this
 rw [← hu]
 exact this
theorem gclose {p mt md : Nat} {M : Nat → Option Obj} {j : JG} {ts : List TB} {L L0 L1 L2 L3 : List HP} [h1 : Pick (gP p j mt md) L L0] [h2 : Pick (gT mt ts) L0 L1] [h3 : Pick (trsH ts) L1 L2] [h4 : Pick (gD md j.done) L2 L3] (hq : GQ' M j ts) : Ent L (jdgH M p j :: L3) :=
 Ent.trans h1.ent (Ent.trans (Ent.cons (Ent.trans h2.ent (Ent.cons (Ent.trans h3.ent (Ent.cons h4.ent))))) (jdg_shut hq))
theorem gclose1 {p mt md : Nat} {M : Nat → Option Obj} {j : JG} {ts : List TB} {k : Nat} {u : TB} {L L0 L1 L2 L3 L4 : List HP} [h1 : Pick (gP p j mt md) L L0] [h2 : Pick (gT mt ts) L0 L1] [h3 : Pick (oneT u.2) L1 L2] [h3' : Pick (trsH (ts.eraseIdx k)) L2 L3] [h4 : Pick (gD md j.done) L3 L4] (hk : ts[k]? = some u) (hq : GQ' M j ts) : Ent L (jdgH M p j :: L4) :=
 Ent.trans h1.ent (Ent.trans (Ent.cons (Ent.trans h2.ent (Ent.cons (Ent.trans (Ent.trans h3.ent (Ent.trans (Ent.cons h3'.ent) (trs_back hk))) (Ent.cons h4.ent))))) (jdg_shut hq))
theorem jdg_shut1 {p mt md : Nat} {M : Nat → Option Obj} {j : JG} {ts : List TB} {k : Nat} {u : TB} {L : List HP} (hk : ts[k]? = some u) (hq : GQ' M j ts) : Ent (gP p j mt md :: gT mt ts :: oneT u.2 :: trsH (ts.eraseIdx k) :: gD md j.done :: L) (jdgH M p j :: L) :=
 Ent.trans (Ent.cons (Ent.cons (trs_back hk))) (jdg_shut hq)
theorem lk_tr {ts : List TB} {tr : List (Int × TR)} (h : ts.map (fun u => (u.1,u.2.2.abs)) = tr) (x : Int) : lkL tr x = (lkL ts x).map fun u => u.2.abs := by
 subst h
 unfold lkL
 rw [List.find?_map]
 show ((ts.find? fun p => decide (p.1 = x)).map fun u => (u.1,u.2.2.abs)).map (·.2) = _
 cases ts.find? fun p => decide (p.1 = x) <;> rfl
theorem lk_idx {ts : List TB} {x : Int} {u : Nat × TV} (h : lkL (α := Nat × TV) ts x = some u) : ∃ k : Nat,ts[k]? = some ((x,u) : TB) := by
 unfold lkL at h
 cases hf : ts.find? fun p => decide (p.1 = x) with
 | none => rw [hf] at h;cases h
 | some w =>
  rw [hf] at h
  cases h
  have h1 := List.find?_some hf
  have h2 := List.mem_of_find?_eq_some hf
  obtain ⟨k,hk⟩ := List.mem_iff_getElem?.1 h2
  refine ⟨k,?_⟩
  rw [hk,← of_decide_eq_true h1]
theorem Gprobe_spec (n : NV) (M : Nat → Option Obj) (p : Nat) (j : JG) (fr : Int) (L : List HP) :
  CallsS Tryz.prog 47 [ptrG p,.int .i64 fr,n.val] (jdgH M p j :: roM M :: L) (planGR M p j (probeG j fr n.abs) L) := by
 unfold probeG
 refine calls_jdg fun mt md ts hq => ?_
 refine CallsS.of_body Tryz.func47 rfl rfl rfl ?_
 refine Q.r ?_;(repeat (intro b1;refine Q.r ?_))
 rename_i b5
 revert b1
 intro b6
 refine Q.dgo [true,true,true,true,true,true,true] [] [] [0,1,2,3,4,5,6,7] ?_
 refine Q.rd ?_;(repeat (intro b1;refine Q.rd ?_))
 refine D.y rfl rfl rfl (by kernel_rfl) (Y.lk false rfl rfl (fun w => Tryz.zeroValue96 w)) ?_
 rw [lk_tr hq.tr n.txn]
 cases hz : lkL (α := Nat × TV) ts n.txn with
 | none =>
  dsimp only [Option.map_none]
  refine Q.rd ?_;(repeat (intro b1;refine Q.rd ?_))
  refine Q.r ?_;(repeat (intro b1;refine Q.r ?_))
  refine opsS_ent (slO_fold (sz := 1) (m := 1) rfl) ?_
  refine opsS_abs (some ⟨b1,0,none⟩) (fun M1 hl1 hs1 => ?_)
  refine S.cr rfl (Gdecide_spec n.txn 0 6 (some ⟨b1,0,none⟩) 1 [fr] _ (SlM.rd (cs := [I64 fr]) hs1) (Nat.le_of_ble_eq_true rfl)) ?_
  rintro _ _ ⟨a1,c1,rfl,rfl⟩
  refine opsS_abs a1 (fun M2 hl2 hs2 => ?_)
  refine Q.r ?_;(repeat (intro b1;refine Q.r ?_))
  refine N.r1 (by apply RV.cellN;rfl;exact RdC.row;rfl;exact RV.nil) (Ent.trans (M := gP p j mt md :: gT mt ts :: trsH ts :: gD md j.done :: roM M2 :: L) (by exact Go.SX.Ent.go) (jdg_shut (hq.mono (hl1.trans hl2)))) ⟨none,0,[],none,0,[],a1,c1,[(fr,(decM fr n.txn 0 6).2.nv)],none,0,[],none,0,[],M2,rfl,hl1.trans hl2,⟨okNs.nil,okNs.nil,okMs.nv (l := [decM fr n.txn 0 6]) hs2,okNs.nil,okMs.nil⟩,⟨rfl,rfl,rfl,rfl,rfl⟩,rfl⟩
 | some u =>
  obtain ⟨k,hk⟩ := lk_idx hz
  dsimp only [Option.map_some]
  refine Q.rd ?_;(repeat (intro b1;refine Q.rd ?_))
  refine Q.r ?_;(repeat (intro b1;refine Q.r ?_))
  refine opsS_trs hk ?_
  by_cases hs : u.2.stamp = 0
  ·rw [if_pos hs]
   refine Q.r ?_;(repeat (intro b1;refine Q.r ?_))
   exact N.r1 (by apply RV.cellN;rfl;exact RdC.row;rfl;exact RV.nil) (Ent.trans (M := gP p j mt md :: gT mt ts :: oneT u :: trsH (ts.eraseIdx k) :: gD md j.done :: roM M :: L) (by exact Go.SX.Ent.go) (jdg_shut1 hk hq)) (planGR.none M p j L)
  ·rw [if_neg hs]
   refine Q.r ?_;(repeat (intro b1;refine Q.r ?_))
   refine Q.dgo [true,false,false,true] [8,9,11] [] [0,1,2,3,4,5,6,7,8,9,10,11] ?_
   refine Q.rd ?_;(repeat (intro b1;refine Q.rd ?_))
   refine D.e rfl rfl rfl ?_
   refine opsS_ent (slO_fold (sz := 1) (m := 1) rfl) ?_
   refine opsS_abs (some ⟨b1,0,none⟩) (fun M1 hl1 hs1 => ?_)
   refine S.cr rfl (Gdecide_spec n.txn u.2.stamp 0 (some ⟨b1,0,none⟩) 1 [fr] _ (SlM.rd (cs := [I64 fr]) hs1) (Nat.le_of_ble_eq_true rfl)) ?_
   rintro _ _ ⟨a1,c1,rfl,rfl⟩
   refine opsS_abs a1 (fun M2 hl2 hs2 => ?_)
   refine Q.r ?_;(repeat (intro b1;refine Q.r ?_))
   refine Q.rd ?_;(repeat (intro b1;refine Q.rd ?_))
   refine Q.r ?_;(repeat (intro b1;refine Q.r ?_))
   refine N.r1 (by apply RV.cellN;rfl;exact RdC.row;rfl;exact RV.nil) (Ent.trans (M := gP p j mt md :: gT mt ts :: oneT u :: trsH (ts.eraseIdx k) :: gD md j.done :: roM M2 :: L) (by exact Go.SX.Ent.go) (jdg_shut1 hk (hq.mono (hl1.trans hl2)))) ⟨none,0,[],none,0,[],a1,c1,[(fr,(decM fr n.txn u.2.stamp 0).2.nv)],none,0,[],none,0,[],M2,rfl,hl1.trans hl2,⟨okNs.nil,okNs.nil,okMs.nv (l := [decM fr n.txn u.2.stamp 0]) hs2,okNs.nil,okMs.nil⟩,⟨rfl,rfl,rfl,rfl,rfl⟩,rfl⟩
theorem Gack_spec (n : NV) (M : Nat → Option Obj) (p : Nat) (j : JG) (fr : Int) (L : List HP) :
  CallsS Tryz.prog 46 [ptrG p,.int .i64 fr,n.val] (jdgH M p j :: roM M :: L) (planGR0 M p j (ackG j fr n.abs) L) := by
 unfold ackG
 refine calls_jdg fun mt md ts hq => ?_
 refine CallsS.of_body Tryz.func46 rfl rfl rfl ?_
 refine Q.r ?_;(repeat (intro b1;refine Q.r ?_))
 rename_i b5
 revert b1
 intro b6
 refine Q.dgo [true,true,true,true,true,true,true] [] [] [0,1,2,3,4,5,6,7] ?_
 refine Q.rd ?_;(repeat (intro b1;refine Q.rd ?_))
 refine D.y rfl rfl rfl (by kernel_rfl) (Y.lk false rfl rfl (fun w => Tryz.zeroValue96 w)) ?_
 rw [lk_tr hq.tr n.txn]
 cases hz : lkL (α := Nat × TV) ts n.txn with
 | none =>
  dsimp only [Option.map_none]
  refine Q.rd ?_;(repeat (intro b1;refine Q.rd ?_))
  refine Q.r ?_;(repeat (intro b1;refine Q.r ?_))
  exact N.r1 (by apply RV.cellN;rfl;exact RdC.row;rfl;exact RV.nil) (Ent.trans (Ent.trans (M := gP p j mt md :: gT mt ts :: trsH ts :: gD md j.done :: roM M :: L) (by exact Go.SX.Ent.go) (jdg_shut hq)) nil5) (planGR0.none M p j L)
 | some u =>
  obtain ⟨k,hk⟩ := lk_idx hz
  have hu : okT M u.2 := hq.ok _ (List.mem_of_getElem? hk)
  have hpl := hu.pl
  have hkl := hu.kl
  dsimp only [Option.map_some]
  refine Q.rd ?_;(repeat (intro b1;refine Q.rd ?_))
  refine Q.r ?_;(repeat (intro b1;refine Q.r ?_))
  refine opsS_trs hk ?_
  by_cases hs : u.2.stamp = 0
  ·rw [if_pos (.inl hs)]
   refine Q.r ?_;(repeat (intro b1;refine Q.r ?_))
   exact N.r1 (by apply RV.cellN;rfl;exact RdC.row;rfl;exact RV.nil) (Ent.trans (Ent.trans (M := gP p j mt md :: gT mt ts :: oneT u :: trsH (ts.eraseIdx k) :: gD md j.done :: roM M :: L) (by exact Go.SX.Ent.go) (jdg_shut1 hk hq)) nil5) (planGR0.none M p j L)
  refine Q.r ?_;(repeat (intro b1;refine Q.r ?_))
  refine S.cr rfl (ContainsP_spec u.2.pa u.2.pc u.2.parts fr _ hu.p.rd hpl) ?_
  rintro _ _ ⟨rfl,rfl⟩
  by_cases hc : fr ∈ u.2.parts
  case neg =>
   rw [if_pos (.inr (.inl hc)),decide_eq_false hc]
   refine Q.r ?_;(repeat (intro b1;refine Q.r ?_))
   exact N.r1 (by apply RV.cellN;rfl;exact RdC.row;rfl;exact RV.nil) (Ent.trans (Ent.trans (M := gP p j mt md :: gT mt ts :: oneT u :: trsH (ts.eraseIdx k) :: gD md j.done :: roM M :: L) (by exact Go.SX.Ent.go) (jdg_shut1 hk hq)) nil5) (planGR0.none M p j L)
  rw [decide_eq_true hc]
  refine Q.r ?_;(repeat (intro b1;refine Q.r ?_))
  refine S.cr rfl (ContainsP_spec u.2.ka u.2.kc u.2.acked fr _ hu.k.rd hkl) ?_
  rintro _ _ ⟨rfl,rfl⟩
  by_cases hd : fr ∈ u.2.acked
  ·rw [if_pos (.inr (.inr hd)),decide_eq_true hd]
   refine Q.r ?_;(repeat (intro b1;refine Q.r ?_))
   exact N.r1 (by apply RV.cellN;rfl;exact RdC.row;rfl;exact RV.nil) (Ent.trans (Ent.trans (M := gP p j mt md :: gT mt ts :: oneT u :: trsH (ts.eraseIdx k) :: gD md j.done :: roM M :: L) (by exact Go.SX.Ent.go) (jdg_shut1 hk hq)) nil5) (planGR0.none M p j L)
  rw [decide_eq_false hd,if_neg (show ¬ (u.2.abs.stamp = 0 ∨ fr ∉ u.2.abs.parts ∨ fr ∈ u.2.abs.acked) from fun h => h.elim hs (fun h => h.elim (fun h => h hc) hd))]
  refine Q.r ?_;(repeat (intro b1;refine Q.r ?_))
  refine S.cr rfl (GlastOf_spec u u.2.ka u.2.acked.length u.2.kc _ hkl hpl) ?_
  rintro _ _ ⟨rfl,rfl⟩
  by_cases hl : u.2.acked.length + 1 = u.2.parts.length
  ·rw [if_neg (fun h => h hl),decide_eq_true hl]
   refine Q.r ?_;(repeat (intro b1;refine Q.r ?_))
   refine N.r1 (by apply RV.cellN;rfl;exact RdC.row;rfl;exact RV.nil) (Ent.trans (M := pt b1 (cl (NA.nv { NA.zero with kind := 18,txn := n.txn }).cells 52) :: gP p j mt md :: gT mt ts :: oneT u :: trsH (ts.eraseIdx k) :: gD md j.done :: roM M :: L) (by exact Go.SX.Ent.go) (Ent.trans (Ent.cons (jdg_shut1 hk hq)) (Ent.trans (slO_fold (sz := 16) (m := 1) rfl) ?_))) ⟨some ⟨b1,0,none⟩,1,[NA.nv { NA.zero with kind := 18,txn := n.txn }],none,0,[],none,0,[],none,0,[],none,0,[],M,rfl,leM.refl M,⟨fun m hm => by rw [List.mem_singleton.1 hm];exact okN.nv _,fun _ h => (by cases h),fun _ h => (by cases h),fun _ h => (by cases h),fun _ h => (by cases h)⟩,⟨rfl,rfl,rfl,rfl,rfl⟩,rfl⟩
   show Ent _ (slO 52 16 (some ⟨b1,0,none⟩) 1 1 (NA.nv { NA.zero with kind := 18,txn := n.txn }).cells :: slO 52 16 none 0 0 [] :: slO 54 17 none 0 0 [] :: slO 52 16 none 0 0 [] :: slO 54 17 none 0 0 [] :: jdgH M p j :: roM M :: L)
   exact Go.SX.Ent.go
  ·rw [if_pos hl,decide_eq_false hl]
   refine Q.r ?_;(repeat (intro b1;refine Q.r ?_))
   refine N.r1 (by apply RV.cellN;rfl;exact RdC.row;rfl;exact RV.nil) (Ent.trans (M := pt b1 (cl (NA.nv { NA.zero with kind := 21,txn := n.txn,who := fr }).cells 52) :: gP p j mt md :: gT mt ts :: oneT u :: trsH (ts.eraseIdx k) :: gD md j.done :: roM M :: L) (by exact Go.SX.Ent.go) (Ent.trans (Ent.cons (jdg_shut1 hk hq)) (Ent.trans (slO_fold (sz := 16) (m := 1) rfl) ?_))) ⟨none,0,[],some ⟨b1,0,none⟩,1,[NA.nv { NA.zero with kind := 21,txn := n.txn,who := fr }],none,0,[],none,0,[],none,0,[],M,rfl,leM.refl M,⟨fun _ h => (by cases h),fun m hm => by rw [List.mem_singleton.1 hm];exact okN.nv _,fun _ h => (by cases h),fun _ h => (by cases h),fun _ h => (by cases h)⟩,⟨rfl,rfl,rfl,rfl,rfl⟩,rfl⟩
   show Ent _ (slO 52 16 none 0 0 [] :: slO 52 16 (some ⟨b1,0,none⟩) 1 1 (NA.nv { NA.zero with kind := 21,txn := n.txn,who := fr }).cells :: slO 54 17 none 0 0 [] :: slO 52 16 none 0 0 [] :: slO 54 17 none 0 0 [] :: jdgH M p j :: roM M :: L)
   exact Go.SX.Ent.go
end Go.Proofs.YtiampehfpgcogaaGreatDoor
namespace Go.Proofs.YtiampehfpgcogaaGreatDoor
open Go Go.SX
abbrev homeP (s id : Int) : Int := homeV s id + 1
def putI (l : List Int) (n : Int) : List Int := l.takeWhile (fun x => decide (x < n)) ++ n :: l.dropWhile (fun x => decide (x < n))
def partsG (s : Int) (ops : VL) : List Int := ops.foldl (fun l o => if homeP s o.1 ∈ l then l else putI l (homeP s o.1)) []
def askE (j : JG) (n : NA) : Int := if checkV j.dim n.ops ≠ 0 then checkV j.dim n.ops else if 8 ≤ j.tr.length ∨ 1048575 ≤ j.seq ∨ 1099511627776 ≤ j.last then 8 else 0
abbrev newT (j : JG) (fr : Int) (n : NA) : TR := ⟨j.epoch * 1048576 + j.seq + 1,n.batch,0,j.last,fr,partsG j.shards n.ops,[],[],n.ops⟩
abbrev beginN (t : TR) : NA := { NA.zero with kind := 19,txn := t.txn,batch := t.batch,after := t.after,who := t.who,parts := t.parts,ops := t.ops }
abbrev prepM (s : Int) (t : TR) (q : Int) : Int × NA := (q,{ NA.zero with kind := 3,txn := t.txn,after := t.after,parts := t.parts,ops := t.ops.filter fun o => decide (homeP s o.1 = q) })
def askG (j : JG) (fr : Int) (n : NA) : PG :=
 match lkL j.done n.batch with
 | some s => ⟨[],[],[repM fr n.batch s 0],[],[]⟩
 | none =>
  if j.tr.any (fun u => decide (u.2.batch = n.batch)) = true then PG.none
  else if askE j n ≠ 0 then ⟨[],[],[repM fr n.batch 0 (askE j n)],[],[]⟩
  else ⟨[],[beginN (newT j fr n)],(newT j fr n).parts.map (prepM j.shards (newT j fr n)),[],[]⟩
def planG (j : JG) (fr : Int) (n : NA) : PG :=
 if rightN n = false ∨ fr < 0 ∨ 16 ≤ fr then PG.none
 else if n.kind = 1 then askG j fr n
 else if n.kind = 4 then voteG j fr n
 else if n.kind = 6 then ackG j fr n
 else if n.kind = 7 then probeG j fr n
 else PG.none
abbrev comT (n : NA) : TR := ⟨n.txn,n.batch,0,0,0,n.parts,[],[],[]⟩
abbrev begT (n : NA) : TR := ⟨n.txn,n.batch,0,n.after,n.who,n.parts,[],[],n.ops⟩
def saidE (t : TR) (n : NA) : Int :=
 if decide (0 < t.stamp) ≠ decide (n.kind = 21) then 10
 else if n.who ∉ t.parts ∨ n.who ∈ (if n.kind = 21 then t.acked else t.yes) then 1 else 0
def saidT (t : TR) (n : NA) : TR := if n.kind = 21 then { t with acked := putI t.acked n.who } else { t with yes := putI t.yes n.who }
def comE (j : JG) (n : NA) : Int := if n.stamp = 0 then 1 else match lkL j.tr n.txn with
 | some t => if 0 < t.stamp then 10 else 0
 | none => 0
def appGE (j : JG) (n : NA) : Int :=
 if rightN n = false then 4
 else if n.kind = 16 then if n.mark ≤ j.epoch then 1 else 0
 else if n.kind = 19 then if (lkL j.tr n.txn).isSome then 7 else 0
 else if n.kind = 17 then comE j n
 else if n.kind = 20 ∨ n.kind = 21 ∨ n.kind = 18 ∨ n.kind = 22 then match lkL j.tr n.txn with
  | none => 6
  | some t => if n.kind = 20 ∨ n.kind = 21 then saidE t n else if decide (0 < t.stamp) ≠ decide (n.kind = 18) then 10 else 0
 else 4
def appG (j : JG) (n : NA) : JG :=
 if appGE j n ≠ 0 then j
 else if n.kind = 16 then { j with epoch := n.mark,seq := 0,tr := j.tr.filter fun u => !decide (u.2.stamp = 0) }
 else if n.kind = 19 then { j with tr := putL j.tr n.txn (begT n),seq := if n.txn / 1048576 = j.epoch then max j.seq (n.txn % 1048576) else j.seq }
 else if n.kind = 17 then
  { j with tr := putL j.tr n.txn { (lkL j.tr n.txn).getD (comT n) with stamp := n.stamp },done := putL j.done ((lkL j.tr n.txn).getD (comT n)).batch n.stamp,last := max j.last n.stamp }
 else if n.kind = 20 ∨ n.kind = 21 then match lkL j.tr n.txn with
  | some t => { j with tr := putL j.tr n.txn (saidT t n) }
  | none => j
 else { j with tr := delL j.tr n.txn }
theorem appGE16 {j : JG} {n : NA} (hr : rightN n = true) (hk : n.kind = 16) : appGE j n = if n.mark ≤ j.epoch then 1 else 0 := by
 unfold appGE;rw [if_neg (by rw [hr];decide),hk,if_pos rfl]
theorem appGE19 {j : JG} {n : NA} (hr : rightN n = true) (hk : n.kind = 19) : appGE j n = if (lkL j.tr n.txn).isSome then 7 else 0 := by
 unfold appGE;rw [if_neg (by rw [hr];decide),hk,if_neg (by decide),if_pos rfl]
theorem appGE17 {j : JG} {n : NA} (hr : rightN n = true) (hk : n.kind = 17) : appGE j n = comE j n := by
 unfold appGE;rw [if_neg (by rw [hr];decide),hk,if_neg (by decide),if_neg (by decide),if_pos rfl]
theorem appGEw {j : JG} {n : NA} (hr : rightN n = true) (hk : n.kind = 20 ∨ n.kind = 21) : appGE j n = match lkL j.tr n.txn with
  | none => 6
  | some t => saidE t n := by
 unfold appGE
 rw [if_neg (by rw [hr];decide),if_neg (by omega),if_neg (by omega),if_neg (by omega),if_pos (by omega)]
 cases lkL j.tr n.txn with
 | none => rfl
 | some t => dsimp only;rw [if_pos hk]
theorem appGEe {j : JG} {n : NA} (hr : rightN n = true) (hk : n.kind = 18 ∨ n.kind = 22) : appGE j n = match lkL j.tr n.txn with
  | none => 6
  | some t => if decide (0 < t.stamp) ≠ decide (n.kind = 18) then 10 else 0 := by
 unfold appGE
 rw [if_neg (by rw [hr];decide),if_neg (by omega),if_neg (by omega),if_neg (by omega),if_pos (by omega)]
 cases lkL j.tr n.txn with
 | none => rfl
 | some t => dsimp only;rw [if_neg (by omega)]
theorem appG16 {j : JG} {n : NA} (h : appGE j n = 0) (hk : n.kind = 16) : appG j n = { j with epoch := n.mark,seq := 0,tr := j.tr.filter fun u => !decide (u.2.stamp = 0) } := by
 unfold appG;rw [if_neg (by rw [h];decide),if_pos hk]
theorem appG19 {j : JG} {n : NA} (h : appGE j n = 0) (hk : n.kind = 19) : appG j n = { j with tr := putL j.tr n.txn (begT n),seq := if n.txn / 1048576 = j.epoch then max j.seq (n.txn % 1048576) else j.seq } := by
 unfold appG;rw [if_neg (by rw [h];decide),if_neg (by omega),if_pos hk]
theorem appG17 {j : JG} {n : NA} (h : appGE j n = 0) (hk : n.kind = 17) : appG j n = { j with tr := putL j.tr n.txn { (lkL j.tr n.txn).getD (comT n) with stamp := n.stamp },done := putL j.done ((lkL j.tr n.txn).getD (comT n)).batch n.stamp,last := max j.last n.stamp } := by
 unfold appG;rw [if_neg (by rw [h];decide),if_neg (by omega),if_neg (by omega),if_pos hk]
theorem appGw {j : JG} {n : NA} (h : appGE j n = 0) (hk : n.kind = 20 ∨ n.kind = 21) {t : TR} (ht : lkL j.tr n.txn = some t) : appG j n = { j with tr := putL j.tr n.txn (saidT t n) } := by
 unfold appG;rw [if_neg (by rw [h];decide),if_neg (by omega),if_neg (by omega),if_neg (by omega),if_pos hk,ht]
theorem appGe {j : JG} {n : NA} (h : appGE j n = 0) (hk : n.kind = 18 ∨ n.kind = 22) : appG j n = { j with tr := delL j.tr n.txn } := by
 unfold appG;rw [if_neg (by rw [h];decide),if_neg (by omega),if_neg (by omega),if_neg (by omega),if_neg (by omega)]
theorem appGno {j : JG} {n : NA} (h : appGE j n ≠ 0) : appG j n = j := by unfold appG;rw [if_pos h]
theorem putI_mem {l : List Int} {n x : Int} : x ∈ putI l n ↔ x = n ∨ x ∈ l := by
 unfold putI
 rw [List.mem_append,List.mem_cons]
 constructor
 ·rintro (h | h | h)
  ·exact .inr ((List.takeWhile_sublist _).subset h)
  ·exact .inl h
  ·exact .inr ((List.dropWhile_sublist _).subset h)
 ·rintro (h | h)
  ·exact .inr (.inl h)
  ·rw [← List.takeWhile_append_dropWhile (p := fun x => decide (x < n)) (l := l)] at h
   rcases List.mem_append.1 h with h | h
   ·exact .inl h
   ·exact .inr (.inr h)
theorem putI_len {l : List Int} {n : Int} : (putI l n).length = l.length + 1 := by
 unfold putI
 have := congrArg List.length (List.takeWhile_append_dropWhile (p := fun x => decide (x < n)) (l := l))
 rw [List.length_append] at this
 rw [List.length_append,List.length_cons];omega
abbrev Rise (l : List Int) : Prop := l.Pairwise (· < ·)
theorem putI_rise {l : List Int} {n : Int} (h : Rise l) (hn : n ∉ l) : Rise (putI l n) := by
 unfold putI
 induction l with
 | nil => simp [Rise]
 | cons a l ih =>
  have ha := List.pairwise_cons.1 h
  have hne : n ≠ a ∧ n ∉ l := by simpa using hn
  by_cases hx : a < n
  ·rw [List.takeWhile_cons_of_pos (by simpa using hx),List.dropWhile_cons_of_pos (by simpa using hx),List.cons_append]
   refine List.pairwise_cons.2 ⟨fun y hy => ?_,ih ha.2 hne.2⟩
   rcases putI_mem.1 (show y ∈ putI l n from hy) with rfl | hy
   ·exact hx
   ·exact ha.1 y hy
  ·rw [List.takeWhile_cons_of_neg (by simpa using hx),List.dropWhile_cons_of_neg (by simpa using hx),List.nil_append]
   refine List.pairwise_cons.2 ⟨fun y hy => ?_,h⟩
   rcases List.mem_cons.1 hy with rfl | hy
   ·omega
   ·have := ha.1 y hy;omega
theorem rise_nodup {l : List Int} (h : Rise l) : l.Nodup := List.Pairwise.imp (fun h => by omega) h
theorem partsG_ok {s : Int} (h1 : 1 ≤ s) (ops : VL) : Rise (partsG s ops) ∧ ∀ x ∈ partsG s ops,1 ≤ x ∧ x ≤ s := by
 unfold partsG
 have key : ∀ (ops : VL) (l : List Int),(Rise l ∧ ∀ x ∈ l,1 ≤ x ∧ x ≤ s) → Rise (ops.foldl (fun l o => if homeP s o.1 ∈ l then l else putI l (homeP s o.1)) l) ∧ ∀ x ∈ ops.foldl (fun l o => if homeP s o.1 ∈ l then l else putI l (homeP s o.1)) l,1 ≤ x ∧ x ≤ s := by
  intro ops
  induction ops with
  | nil => exact fun l h => h
  | cons o ops ih =>
   intro l h
   rw [List.foldl_cons]
   refine ih _ ?_
   split
   ·exact h
   ·rename_i hm
    refine ⟨putI_rise h.1 hm,fun x hx => ?_⟩
    rcases putI_mem.1 hx with rfl | hx
    ·have := homeV_b h1 o.1
     unfold homeP;omega
    ·exact h.2 x hx
 exact key ops [] ⟨List.Pairwise.nil,fun _ h => by cases h⟩
theorem rise_len {l : List Int} {s : Int} (h : Rise l) (hb : ∀ x ∈ l,1 ≤ x ∧ x ≤ s) (hs : 0 ≤ s) : (l.length : Int) ≤ s := by
 have key : ∀ (l : List Int) (a : Int),Rise l → (∀ x ∈ l,a ≤ x ∧ x ≤ s) → a ≤ s + 1 → (l.length : Int) ≤ s + 1 - a := by
  intro l
  induction l with
  | nil => intro a _ _ h;simp;omega
  | cons x l ih =>
   intro a h hb h3
   have h2 := List.pairwise_cons.1 h
   have := hb x (List.mem_cons_self ..)
   have := ih (x + 1) h2.2 (fun y hy => ⟨by have := h2.1 y hy;omega,(hb y (List.mem_cons_of_mem _ hy)).2⟩) (by omega)
   rw [List.length_cons];omega
 have := key l 1 h hb (by omega)
 omega
end Go.Proofs.YtiampehfpgcogaaGreatDoor
namespace Go.SX
open Go
section
variable {P : Program} {n : Nat} {ops rest : List Oper} {Q : Post} {f : Env} {A L : List HP}
variable {d : Tmp} {ty : TypeId} {pos : String} {af : Array Edge}
theorem run_copy_sz {w : World} {dT sT ty e t0 : TypeId} {b o dl dc k kc sz : Nat} {a : Addr} {cs l : List Value} (hu : P.underlying dT = some (.slice e)) (hs : ∀ w,(sizeOf e).run P w = .ok sz w)
  (hn : cs.length = min k dl * sz) (hrow : w.heap[b]? = some (cl l t0)) (hl : o + cs.length ≤ l.length) (hsrc : ∀ j v,cs[j]? = some v → w.cell? (a.add j) = some v) (h1 : ∀ v ∈ cs,v.oneCell' = true) :
  (Builtin.copy_ #[dT,sT] ty #[.slice (some ⟨b,o,none⟩) dl dc,.slice (some a) k kc]).run P w = .ok (goInt (min k dl : Nat)) (w.setRow b (putAt l o cs).toArray) := by
 have hld := run_loadCells_list (P := P) w a cs hsrc
 have hst := run_storeCells_at P b o t0 cs 0 l.toArray w hrow (by simpa using hl) h1
 rw [hn] at hld
 simp only [Nat.add_zero] at hst
 have hp : putAt l o cs = List.take o l ++ cs ++ List.drop (o + cs.length) l := rfl
 rw [hp]
 have hm : Nat.min k dl = min k dl := rfl
 simp [Builtin.copy_,run_underlying hu,Builtin.lenOf,Builtin.firstCells,hs,hm,hld,hst]
theorem S.cpy {x y : Operand} {t tx e t0 : TypeId} {sz bts : Nat} {ag : Bool} {zs : List Value} {b o dl dc b2 o2 k kc : Nat} {l l' ys : List Value} {L' : Obj → List HP} [h : SlTy P t e] [h2 : Ty P e ag sz zs bts] [hu : UpdB b L (cl l t0) L']
  (hx : ev f x = some (.slice (some ⟨b,o,none⟩) dl dc)) (hy : ev f y = some (.slice (some ⟨b2,o2,none⟩) k kc)) (hr : RdC L b2 o2 ys) (hn : ys.length = min k dl * sz) (hl : o + ys.length ≤ l.length) (h1 : ys.all (·.oneCell') = true) (hl' : putAt l o ys = l')
  (hk : opsS P n ops rest Q (upd f d (.int .i64 (min k dl : Nat))) (L' (cl l' t0))) :
  opsS P n ops (⟨some d,.call ⟨.builtin .copy,#[x,y],#[t,tx]⟩,ty,pos,af,none⟩ :: rest) Q f L := by
 refine opsS_value (R := fun v L1 => v = .int .i64 (min k dl : Nat) ∧ L1 = L' (cl l' t0)) (fun F ac w s t1 => ?_) (by rintro _ _ ⟨rfl,rfl⟩;exact hk)
 have hrow := hu.read t1
 have hrun := run_copy_sz (P := P) (w := w) (dT := t) (sT := tx) (ty := ty) (e := e) (t0 := t0) (b := b) (o := o) (dl := dl) (dc := dc) (k := k) (kc := kc) (sz := sz) (a := ⟨b2,o2,none⟩) (cs := ys) (l := l) h.raw h2.size hn hrow hl (fun j v e => by
  have := hr w F t1 j v e
  have e2 : (⟨b2,o2,none⟩ : Addr).add j = ⟨b2,o2 + j,none⟩ := by unfold Addr.add;split <;> simp_all
  rw [e2];exact this) (fun v hv => by simpa using List.all_eq_true.1 h1 v hv)
 refine ⟨_,w.setRow b l'.toArray,_,?_,setRow_heap_of hrow t1,rfl,rfl⟩
 rw [← hl']
 simp [execOp,resolve,invoke,s.eval hx,s.eval hy,builtin,hrun,goInt]
theorem S.appz {x y : Operand} {t tn e : TypeId} {sz bts : Nat} {ag : Bool} {zs : List Value} {kn kq : IntKind} {b o m c k : Nat} {olds : List Value} [h : SlTy P t e] [h2 : Ty P e ag sz zs bts] [h3 : IntTy P tn kn]
  (hx : ev f x = some (.slice (some ⟨b,o,none⟩) m c)) (hy : ev f y = some (.int kq k)) (hr : RdC L b o olds) (ho : olds.length = m * sz) (hg : c < m + k) (h0 : 0 < k) (hz : zs.length = sz) (hs0 : 0 < sz) (hfit : (m + k) * bts ≤ 140737488355328) (h63 : m + k ≤ 9223372036854775807)
  (hk : ∀ b' c',opsS P n ops rest Q (upd f d (.slice (some ⟨b',0,none⟩) (m + k) c')) (slO e sz (some ⟨b',0,none⟩) (m + k) c' (olds ++ rep k zs) :: L)) :
  opsS P n ops (⟨some d,.call ⟨.builtin .append,#[x,y],#[t,tn]⟩,ty,pos,af,none⟩ :: rest) Q f L := by
 obtain ⟨i,z,hi,hisz,hib,hiz,hzz⟩ := h2.raw
 refine opsS_value (R := fun v L1 => ∃ b' c',v = .slice (some ⟨b',0,none⟩) (m + k) c' ∧ L1 = slO e sz (some ⟨b',0,none⟩) (m + k) c' (olds ++ rep k zs) :: L) (fun F ac w s t1 => ?_) (by rintro _ _ ⟨b',c',rfl,rfl⟩;exact hk b' c')
 have hfit' : Builtin.nextslicecap (m + k) c * i.bytes ≤ 281474976710656 := growslice_fits hg (by rw [hib];exact hfit)
 have hold : (Builtin.firstCells i.size m (.slice (some ⟨b,o,none⟩) m c)).run P w.drew = .ok olds.toArray w.drew := by
  refine run_firstCells_some w.drew i.size m _ m c olds (by rw [hisz];exact ho) (fun j u hj => ?_)
  have e2 : (⟨b,o,none⟩ : Addr).add j = ⟨b,o + j,none⟩ := by unfold Addr.add;split <;> simp_all
  rw [e2]
  exact hr w F t1 j u hj
 have hbz : k * i.bytes ≤ 281474976710656 := by
  rw [hib]
  have := Nat.mul_le_mul_right bts (show k ≤ m + k by omega)
  omega
 have hr := Lib.run_append_grow_zeros (P := P) w t tn ty e i z kq kn h.raw h3.raw hi hiz (some ⟨b,o,none⟩) m c olds hold k h0 (by rw [hisz];exact hs0) hg (by omega) hbz hfit'
 have hcap : m + k ≤ grownCap w (m + k) c e := by
  simp only [grownCap,Question.cut];omega
 have hzl : z.cells.size = sz := by rw [← hz,← hzz];simp
 have hzr : (Builtin.zeroCells z.cells k).toList = rep k zs := by
  have := zero_row z.cells k sz hzl
  rw [hzz] at this
  have e : Builtin.zeroCells z.cells k = (rep k zs).toArray := by simpa [Builtin.zeroCells,hzl] using this
  rw [e]
 have hrl : (rep k zs).length = k * sz := by rw [rep_length,hz]
 refine ⟨_,w.drew.alloc (.cells (olds.toArray ++ Builtin.zeroCells z.cells k ++ Builtin.zeroCells z.cells (grownCap w (m + k) c e - (m + k))) e),slO e sz (some ⟨w.heap.size,0,none⟩) (m + k) (grownCap w (m + k) c e) (olds ++ rep k zs) :: L,?_,?_,_,_,rfl,rfl⟩
 ·simp [execOp,resolve,invoke,s.eval hx,s.eval hy,builtin,hr]
 ·have H2 : St (w.drew.alloc (.cells (olds.toArray ++ Builtin.zeroCells z.cells k ++ Builtin.zeroCells z.cells (grownCap w (m + k) c e - (m + k))) e)) (pt w.heap.size (cl ((olds ++ rep k zs) ++ (Builtin.zeroCells z.cells (grownCap w (m + k) c e - (m + k))).toList) e) :: (L ++ F)) := by
   refine St.pt_new t1 ?_
   show w.heap.push _ = _
   congr 1
   simp [cl,← hzr]
  have H3 := St.slO_shut (sz := sz) (m := m + k) (c := grownCap w (m + k) c e) (by simp [ho,hrl,Nat.add_mul]) hcap (by
   simp only [List.length_append,ho,hrl,Builtin.zeroCells,Array.length_toList,Array.size_map,Array.size_range,hzl]
   rw [← Nat.add_mul,← Nat.add_mul];congr 1;omega) H2
  exact H3
theorem CallsS.slOc {g : FuncId} {args : List Value} {R : Value → List HP → Prop} {t sz m c : Nat} {a : Option Addr} {cs : List Value}
  (h0 : a = none → m = 0 → c = 0 → cs = [] → CallsS P g args (SX.slO t sz none 0 0 [] :: L) R) (h1 : ∀ b,a = some ⟨b,0,none⟩ → m ≤ c → CallsS P g args (SX.slO t sz a m c cs :: L) R) : CallsS P g args (SX.slO t sz a m c cs :: L) R := fun F w H => by
 rcases (St.slO_open H).2 with ⟨e1,e2,e3,e4,_⟩ | ⟨b,rest,e,h2,_,_⟩
 ·subst e1 e2 e3 e4
  exact h0 rfl rfl rfl rfl F w H
 ·exact h1 b e h2 F w H
theorem opsS_own (b : Nat) {t sz m c : Nat} {cs : List Value} {L0 : List HP} [h : PickS (some ⟨b,0,none⟩) L t sz m c cs L0]
  (hk : ∀ rs,m ≤ c → (cs ++ rs).length = c * sz → opsS P n ops rest Q f (pt b (cl (cs ++ rs) t) :: L0)) : opsS P n ops rest Q f L := fun ok F a w s t1 => by
 rcases (St.slO_open (L := L0 ++ F) (h.ent w F t1)).2 with ⟨e,_⟩ | ⟨b',rs,e,h1,h2,h3⟩
 ·cases e
 ·cases e
  exact hk rs h1 h2 ok F a w s h3
theorem Y.cap {x : Operand} {t e : TypeId} {a : Option Addr} {m c : Nat} [h : SlTy P t e] (hx : ev f x = some (.slice a m c)) : YieldS P n ops ⟨some d,.call ⟨.builtin .cap,#[x],#[t]⟩,ty,pos,af,none⟩ f A (.int .i64 c) := by
 refine Y.of (fun ac w s => ?_)
 simp [execOp,resolve,invoke,s.eval hx,builtin,Builtin.cap_,h.und]
 rfl
theorem St.pt_ne {w : World} {b b' : Nat} {o o' : Obj} {L : List HP} (H : St w (pt b o :: pt b' o' :: L)) : b ≠ b' := by
 rintro rfl
 obtain ⟨h,f,h1,h2,ok,e,a,h3,h4,ok',rfl,a',l⟩ := H
 have e3 : h3 b = some (true,o') := a'
 have e2 : (h3.add h4) b = some (true,o') := by simp [Hp.add,e3]
 have := ok b _ _ _ _ a e2
 simp at this
theorem Y.ovl {x y : Operand} {g : FuncId} {fn : Func} {tS tR e t1 t2 : TypeId} {ats : Array TypeId} {b1 b2 o1 o2 m1 c1 m2 c2 sz bts : Nat} {ag : Bool} {zs l1 l2 : List Value} {A0 A1 : List HP} [h : SlTy P tS e] [h2 : Ty P e ag sz zs bts]
  [p1 : Pick (pt b1 (cl l1 t1)) A A0] [p2 : Pick (pt b2 (cl l2 t2)) A0 A1]
  (hf : P.funcs[g]? = some fn) (hname : (fn.name == "runtime.NumGoroutine") = false) (hb : fn.body.isNone = true) (hn : Extern.findNext fn = none) (he : Extern.find fn = some (Extern.SlicesOverlaps.overlaps #[tS,tS] #[tR]))
  (hx : ev f x = some (.slice (some ⟨b1,o1,none⟩) m1 c1)) (hy : ev f y = some (.slice (some ⟨b2,o2,none⟩) m2 c2)) (hl : l2 ≠ []) :
  YieldS P n ops ⟨some d,.call ⟨.value (.func g),#[x,y],ats⟩,ty,pos,af,none⟩ f A (.bool false) := by
 refine Y.of' (fun ac w F s t => ?_)
 have u2 : St w (pt b1 (cl l1 t1) :: pt b2 (cl l2 t2) :: (A1 ++ F)) := by simpa using (p1.ent.trans p2.ent.cons) w F t
 have hne := St.pt_ne u2
 have r1 := St.pt_read u2
 have r2 := St.pt_read u2.tail
 have hr := Lib.run_overlaps_apart (P := P) w tS tR e h.raw sz h2.size ⟨b1,o1,none⟩ ⟨b2,o2,none⟩ m1 c1 m2 c2 hne t1 t2 l1.length l2.length (by simp [World.shape?,r1,cl]) (by simp [World.shape?,r2,cl]) (by simpa using hl) (by simp [World.frozen?,r1,cl]) (by simp [World.frozen?,r1,cl])
 have hev : ac.eval (.func g) = .func (.func g) #[] #[] := rfl
 simp [execOp,resolve,Deferred.ofValue,invoke,s.eval hx,s.eval hy,hev,run_callFunc_extern hf hname hb hn he,hr]
end
end Go.SX
namespace Go.Proofs.YtiampehfpgcogaaGreatDoor
open Go Go.SX
attribute [local irreducible] swp opsS thenS blockS retS CallsS St Ent YieldS anyS drawS
attribute [local irreducible] ar
abbrev AI (bk : Nat) (d : Array Int) (rs : List Value) : HP := pt bk (cl (ar .i64 d rs) 3)
theorem LessI_spec (x y : Int) (L : List HP) : CallsS Tryz.prog 138 [.int .i64 x,.int .i64 y] L (fun v L' => v = .bool (Sort.ltInt x y) ∧ L' = L) := by
 have nan : ∀ z,CallsS Tryz.prog 156 [.int .i64 z] L (fun v L' => v = .bool false ∧ L' = L) := fun z => by
  refine CallsS.of_body Tryz.func156 rfl rfl rfl ?_
  refine Q.r ?_;(repeat (intro b1;refine Q.r ?_))
  exact N.r1 (RV.tmp rfl RV.nil) (Ent.refl _) ⟨by simp [packV],rfl⟩
 refine CallsS.of_body Tryz.func138 rfl rfl rfl ?_
 refine Q.r ?_;(repeat (intro b1;refine Q.r ?_))
 refine S.cr rfl (nan x) ?_
 rintro _ _ ⟨rfl,rfl⟩
 refine Q.r ?_;(repeat (intro b1;refine Q.r ?_))
 exact N.r1 (RV.tmp rfl RV.nil) (Ent.refl _) ⟨rfl,rfl⟩
set_option maxHeartbeats 4000000 in
theorem insertionSortI_spec (bk n c a b : Nat) (d : Array Int) (rs : List Value) (L : List HP) (hd : d.size = n) (ha : a ≤ n) (hb : b ≤ n) (hn : n ≤ 4611686018427387904) :
  CallsS Tryz.prog 158 [SV bk n c,.int .i64 a,.int .i64 b] (AI bk d rs :: L) (fun v L' => v = .tuple #[] ∧ L' = AI bk (Sort.insertionSort Sort.ltInt d a b) rs :: L) := by
 refine CallsS.of_body Tryz.func158 rfl rfl rfl ?_
 refine Q.rn ?_;(repeat (intro b1;refine Q.rn ?_))
 refine swp_loop (σ := Nat × Array Int) (fun s => [(0,SV bk n c),(1,.int .i64 a),(2,.int .i64 b),(6,.int .i64 s.1)]) (fun s => AI bk s.2 rs :: L)
  (fun s => a + 1 ≤ s.1 ∧ s.1 ≤ n + 1 ∧ s.2.size = n ∧ Sort.insOuter Sort.ltInt a b s.1 s.2 = Sort.insertionSort Sort.ltInt d a b) (fun s => b - s.1) (a + 1,d) ⟨rfl,rfl,rfl,rfl,trivial⟩ (by exact Go.SX.Ent.go) ⟨Nat.le_refl _,by dsimp only;omega,hd,rfl⟩ ?_
 rintro ⟨i,e⟩ ⟨h1,h2,h3,h4⟩
 dsimp only at h1 h2 h3 h4 ⊢
 rw [Sort.insOuter] at h4
 by_cases hi : i < b
 ·rw [if_pos hi] at h4
  refine Q.rn ?_;(repeat (intro b1;refine Q.rn ?_))
  refine swp_loop (σ := Nat × Array Int) (fun s => [(0,SV bk n c),(1,.int .i64 a),(2,.int .i64 b),(6,.int .i64 i),(7,.int .i64 s.1)]) (fun s => AI bk s.2 rs :: L)
   (fun s => s.1 ≤ i ∧ s.2.size = n ∧ Sort.insInner Sort.ltInt a s.1 s.2 = Sort.insInner Sort.ltInt a i e) (fun s => s.1) (i,e) ⟨rfl,rfl,rfl,rfl,rfl,trivial⟩ (by exact Go.SX.Ent.go) ⟨Nat.le_refl _,h3,rfl⟩ ?_
  rintro ⟨j,g⟩ ⟨g1,g2,g3⟩
  dsimp only at g1 g2 g3 ⊢
  by_cases hj : a < j
  ·obtain ⟨k,rfl⟩ : ∃ k,j = k + 1 := ⟨j - 1,by omega⟩
   rw [Sort.insInner,show decide (k + 1 > a) = true by simpa using hj,Bool.true_and] at g3
   refine Q.rn ?_;(repeat (intro b1;refine Q.rn ?_))
   refine Q.dgo [true] [13] [] [0,1,2,3,4,5,6,7,8,9,10,11,12,13,14] ?_
   refine Q.rdn ?_;(repeat (intro b1;refine Q.rdn ?_))
   refine D.e rfl rfl rfl ?_
   refine S.guard rfl ?_
   refine S.cr rfl (LessI_spec _ _ _) ?_
   rintro _ M ⟨rfl,rfl⟩
   cases hl : Sort.ltInt g[k + 1]! g[k]! with
   | false =>
    rw [show k + 1 - 1 = k from rfl,hl]
    rw [hl] at g3
    refine Q.rn ?_;(repeat (intro b1;refine Q.rn ?_))
    refine Q.rdn ?_;(repeat (intro b1;refine Q.rdn ?_))
    refine Q.rn ?_;(repeat (intro b1;refine Q.rn ?_))
    refine ⟨(i + 1,g),⟨rfl,rfl,rfl,rfl,trivial⟩,by exact Go.SX.Ent.go,⟨by dsimp only;omega,by dsimp only;omega,g2,?_⟩,by dsimp only;omega⟩
    simp only [Bool.false_eq_true,if_false] at g3
    rw [g3];exact h4
   | true =>
    rw [show k + 1 - 1 = k from rfl,hl]
    rw [hl] at g3
    refine Q.rn ?_;(repeat (intro b1;refine Q.rn ?_))
    refine Q.rdn ?_;(repeat (intro b1;refine Q.rdn ?_))
    refine Q.rn ?_;(repeat (intro b1;refine Q.rn ?_))
    refine Q.dgo [true] [15,17] [15] [0,1,2,3,4,5,6,7,8,9,10,11,12,13,14,15,16,17] ?_
    refine Q.rdn ?_;(repeat (intro b1;refine Q.rdn ?_))
    refine Q.dc rfl rfl rfl rfl ?_
    refine Q.rn ?_;(repeat (intro b1;refine Q.rn ?_))
    refine Q.rdn ?_;(repeat (intro b1;refine Q.rdn ?_))
    refine D.e rfl rfl rfl ?_
    refine Q.rn ?_;(repeat (intro b1;refine Q.rn ?_))
    refine Q.rdn ?_;(repeat (intro b1;refine Q.rdn ?_))
    refine Q.rn ?_;(repeat (intro b1;refine Q.rn ?_))
    simp only [if_true] at g3
    exact ⟨(k,Sort.swp g (k + 1) k),⟨rfl,rfl,rfl,rfl,rfl,trivial⟩,Ent.refl _,⟨by dsimp only;omega,by rw [swp_size];exact g2,g3⟩,by dsimp only;omega⟩
  ·have hgg : Sort.insInner Sort.ltInt a j g = g := by
    cases j with
    | zero => rfl
    | succ j => rw [Sort.insInner,show decide (j + 1 > a) = false by simpa using hj];simp
   rw [hgg] at g3
   refine Q.rn ?_;(repeat (intro b1;refine Q.rn ?_))
   refine Q.dgo [true] [13] [] [0,1,2,3,4,5,6,7,8,9,10,11,12,13,14] ?_
   refine Q.rdn ?_;(repeat (intro b1;refine Q.rdn ?_))
   refine Q.rn ?_;(repeat (intro b1;refine Q.rn ?_))
   exact ⟨(i + 1,g),⟨rfl,rfl,rfl,rfl,trivial⟩,Ent.refl _,⟨by dsimp only;omega,by dsimp only;omega,g2,by dsimp only;rw [g3];exact h4⟩,by dsimp only;omega⟩
 ·rw [if_neg hi] at h4
  subst h4
  refine Q.rn ?_;(repeat (intro b1;refine Q.rn ?_))
  exact N.n0 RV.nil (Ent.refl _) ⟨rfl,rfl⟩
end Go.Proofs.YtiampehfpgcogaaGreatDoor
namespace Go.Proofs.YtiampehfpgcogaaGreatDoor
open Go Go.SX
attribute [local irreducible] swp opsS thenS blockS retS CallsS St Ent YieldS anyS drawS
theorem insertionSortI_zero (sv : Value) (L : List HP) : CallsS Tryz.prog 158 [sv,.int .i64 (0 : Nat),.int .i64 (0 : Nat)] L (fun v L' => v = .tuple #[] ∧ L' = L) := by
 refine CallsS.of_body Tryz.func158 rfl rfl rfl ?_
 refine Q.rn ?_;(repeat (intro b1;refine Q.rn ?_))
 refine swp_loop (σ := Unit) (fun s => [(2,.int .i64 (0 : Nat)),(6,.int .i64 (1 : Nat))]) (fun s => L) (fun s => True) (fun s => 0) () ⟨rfl,rfl,trivial⟩ (Ent.refl _) trivial ?_
 intro _ _
 refine Q.rn ?_;(repeat (intro b1;refine Q.rn ?_))
 exact N.n0 RV.nil (Ent.refl _) ⟨rfl,rfl⟩
theorem SortI_spec (a : Option Addr) (m c : Nat) (xs : List Int) (L : List HP) (hm : m = xs.length) (hn : m ≤ 12) :
  CallsS Tryz.prog 127 [.slice a m c] (slO 3 1 a m c (xs.map (Value.int .i64)) :: L) (fun v L' => v = .tuple #[] ∧ L' = slO 3 1 a m c ((sortL xs).map (Value.int .i64)) :: L) := by
 have hu : IntKind.u64.wrap (m : Int) = (m : Int) := wrap_u64 (by omega) (by omega)
 have pdq : ∀ (L L1 : List HP) (sv : Value) (lim : Nat),CallsS Tryz.prog 158 [sv,.int .i64 (0 : Nat),.int .i64 m] L (fun v L' => v = .tuple #[] ∧ L' = L1) → CallsS Tryz.prog 142 [sv,.int .i64 (0 : Nat),.int .i64 m,.int .i64 lim] L (fun v L' => v = .tuple #[] ∧ L' = L1) := by
  intro L L1 sv lim h
  refine CallsS.of_body Tryz.func142 rfl rfl rfl ?_
  refine Q.rn ?_;(repeat (intro b1;refine Q.rn ?_))
  refine swp_loop (σ := Unit) (fun s => [(0,sv),(1,.int .i64 (0 : Nat)),(2,.int .i64 m)]) (fun s => L) (fun s => True) (fun s => 0) () ⟨rfl,rfl,rfl,trivial⟩ (Ent.refl _) trivial ?_
  intro _ _
  refine Q.rn ?_;(repeat (intro b1;refine Q.rn ?_))
  refine S.cr rfl h ?_
  rintro _ _ ⟨rfl,rfl⟩
  refine Q.rn ?_;(repeat (intro b1;refine Q.rn ?_))
  exact N.r0 RV.nil (Ent.refl _) ⟨rfl,rfl⟩
 by_cases h0 : m = 0
 ·have hx : xs = [] := List.eq_nil_of_length_eq_zero (by omega)
  subst hx
  have hs : sortL [] = [] := by simp [sortL]
  rw [hs]
  refine CallsS.of_body Tryz.func127 rfl rfl rfl ?_
  refine Q.rn ?_;(repeat (intro b1;refine Q.rn ?_))
  refine S.y (Y.cvi rfl) ?_
  rw [hu]
  refine Q.rn ?_;(repeat (intro b1;refine Q.rn ?_))
  refine S.cr rfl (Len_spec m (by omega) _) ?_
  rintro _ _ ⟨rfl,rfl⟩
  subst h0
  refine S.cr rfl (pdq _ _ _ (Sort.bitsLen 0) (insertionSortI_zero _ _)) ?_
  rintro _ _ ⟨rfl,rfl⟩
  refine Q.rn ?_;(repeat (intro b1;refine Q.rn ?_))
  exact N.n0 RV.nil (Ent.refl _) ⟨rfl,rfl⟩
 refine CallsS.slO (by omega) fun b rest ha hmc hlen => ?_
 subst ha
 refine CallsS.of_body Tryz.func127 rfl rfl rfl ?_
 refine Q.rn ?_;(repeat (intro b1;refine Q.rn ?_))
 refine S.y (Y.cvi rfl) ?_
 rw [hu]
 refine Q.rn ?_;(repeat (intro b1;refine Q.rn ?_))
 refine S.cr rfl (Len_spec m (by omega) _) ?_
 rintro _ _ ⟨rfl,rfl⟩
 have hd : xs.toArray.size = m := by simp [hm]
 refine S.cr rfl (pdq _ _ _ (Sort.bitsLen m) (insertionSortI_spec b m c 0 m xs.toArray rest _ hd (by omega) (Nat.le_refl _) (by omega))) ?_
 rintro _ _ ⟨rfl,rfl⟩
 have hsp := Sort.insertionSort_holds (lt := Sort.ltInt) Sort.swo_ltInt xs.toArray 0 m (by omega) (by omega)
 have he : (Sort.insertionSort Sort.ltInt xs.toArray 0 m).toList = sortL xs := by
  have := Sort.sorted_unique_holds (lt := Sort.ltInt) Sort.swo_ltInt (fun x y h1 h2 => by simp [Sort.ltInt] at h1 h2;omega) xs.toArray _ (by rw [hd];exact hsp.1) (by rw [hd];exact hsp.2)
  rw [this]
  unfold sortL
  congr 1
  funext x y
  simp [Sort.ltInt]
  by_cases h : x ≤ y <;> simp [h] <;> omega
 refine Q.rn ?_;(repeat (intro b1;refine Q.rn ?_))
 refine N.n0 RV.nil ?_ ⟨rfl,rfl⟩
 have hen : (ar .i64 (Sort.insertionSort Sort.ltInt xs.toArray 0 m) rest) = (sortL xs).map (Value.int .i64) ++ rest := by rw [ar_toList,he]
 unfold AI
 rw [hen]
 exact slO_shut (by simp [sortL_len,hm]) hmc (by simpa [sortL_len] using hlen)
end Go.Proofs.YtiampehfpgcogaaGreatDoor
namespace Go.Proofs.YtiampehfpgcogaaGreatDoor
open Go Go.SX
attribute [local irreducible] swp opsS thenS blockS retS CallsS St Ent YieldS anyS drawS
theorem NaNI_spec (x : Int) (L : List HP) : CallsS Tryz.prog 139 [.int .i64 x] L (fun v L' => v = .bool false ∧ L' = L) := by
 refine CallsS.of_body Tryz.func139 rfl rfl rfl ?_
 refine Q.r ?_;(repeat (intro b1;refine Q.r ?_))
 exact N.r1 (RV.tmp rfl RV.nil) (Ent.refl _) ⟨by simp [packV],rfl⟩
theorem ltI_eq (x y : Int) : Sort.ltInt x y = decide (x < y) := rfl
abbrev cntI (xs : List Int) (x : Int) : Nat := (xs.takeWhile fun y => decide (y < x)).length
theorem cntI_le (xs : List Int) (x : Int) : cntI xs x ≤ xs.length := (List.takeWhile_prefix _).length_le
theorem cntI_cons (a : Int) (xs : List Int) (x : Int) : cntI (a :: xs) x = if a < x then cntI xs x + 1 else 0 := by
 unfold cntI
 rw [List.takeWhile_cons]
 by_cases h : a < x
 ·rw [decide_eq_true h,if_pos h];rfl
 ·rw [decide_eq_false h,if_neg h];rfl
theorem cntI_lo {x : Int} : ∀ {xs : List Int} {k : Nat},k < cntI xs x → ∀ {y : Int},xs[k]? = some y → y < x
 | [],k,h,y,_ => absurd h (Nat.not_lt_zero _)
 | a :: xs,k,h,y,hy => by
  rw [cntI_cons] at h
  by_cases ha : a < x
  ·rw [if_pos ha] at h
   cases k with
   | zero => simp at hy;omega
   | succ k => exact cntI_lo (xs := xs) (k := k) (by omega) (by simpa using hy)
  ·rw [if_neg ha] at h;omega
theorem cntI_hi {x : Int} : ∀ {xs : List Int},Rise xs → ∀ {k : Nat},cntI xs x ≤ k → ∀ {y : Int},xs[k]? = some y → ¬ y < x
 | [],_,k,_,y,hy => by simp at hy
 | a :: xs,hs,k,h,y,hy => by
  have h2 := List.pairwise_cons.1 hs
  rw [cntI_cons] at h
  by_cases ha : a < x
  ·rw [if_pos ha] at h
   cases k with
   | zero => omega
   | succ k => exact cntI_hi h2.2 (k := k) (by omega) (by simpa using hy)
  ·cases k with
   | zero => simp at hy;omega
   | succ k =>
    have := h2.1 y (List.mem_of_getElem? (by simpa using hy : xs[k]? = some y))
    omega
set_option maxHeartbeats 2000000 in
theorem BinI_spec (a : Option Addr) (c : Nat) (xs : List Int) (x : Int) (A : List HP) (h : RdS A a xs.length 1 (xs.map I64)) (hn : xs.length ≤ 1000000) (hs : Rise xs) :
  CallsS Tryz.prog 124 [.slice a xs.length c,.int .i64 x] A (fun r L' => (∃ b,r = .tuple #[.int .i64 (cntI xs x),.bool b]) ∧ L' = A) := by
 refine CallsS.of_body Tryz.func124 rfl rfl rfl ?_
 refine Q.r ?_;(repeat (intro b1;refine Q.r ?_))
 refine swp_loop (σ := Nat × Nat) (fun s => [(0,.slice a xs.length c),(1,.int .i64 x),(6,.int .i64 xs.length),(7,.int .i64 s.1),(8,.int .i64 s.2)])
  (fun _ => A) (fun s => s.1 ≤ cntI xs x ∧ cntI xs x ≤ s.2 ∧ s.2 ≤ xs.length) (fun s => s.2 - s.1) (0,xs.length) ⟨rfl,rfl,rfl,rfl,rfl,trivial⟩ (Ent.refl _) ⟨Nat.zero_le _,cntI_le _ _,Nat.le_refl _⟩ ?_
 rintro ⟨i,j⟩ ⟨h1,h2,h3⟩
 dsimp only at h1 h2 h3 ⊢
 by_cases hij : i < j
 ·refine Q.rn ?_;(repeat (intro b1;refine Q.rn ?_))
  refine S.y (Y.cvi rfl) ?_
  rw [wrap_u64 (by omega) (by omega)]
  refine S.y (Y.shr (a := i + j) (b := 1) rfl rfl (by decide)) ?_
  rw [show (i + j) / 2 ^ 1 = (i + j) / 2 by simp]
  refine S.y (Y.cvi rfl) ?_
  rw [wrap_i64 (by omega) (by omega)]
  obtain ⟨m,hm⟩ : ∃ m,m = (i + j) / 2 := ⟨_,rfl⟩
  have hh1 : i ≤ m := by omega
  have hh2 : m < j := by omega
  rw [← hm]
  obtain ⟨q,hq⟩ := mem_get (show m < xs.length by omega)
  obtain ⟨b,oo,hia,hr⟩ := RdS.elem (g := fun z : Int => [I64 z]) (fun _ => rfl) (by rw [flat_I64];exact h) hq rfl
  rw [hia]
  refine Q.rn ?_;(repeat (intro b1;refine Q.rn ?_))
  refine S.cr rfl (LessI_spec q x _) ?_
  rintro _ _ ⟨rfl,rfl⟩
  rw [ltI_eq]
  by_cases hp : q < x
  ·have hrh : m < cntI xs x := Nat.lt_of_not_le fun hc => cntI_hi hs hc hq hp
   rw [decide_eq_true hp]
   refine Q.rn ?_;(repeat (intro b1;refine Q.rn ?_))
   exact ⟨(m + 1,j),⟨rfl,rfl,rfl,rfl,rfl,trivial⟩,Ent.refl _,⟨hrh,h2,h3⟩,by dsimp only;omega⟩
  ·have hrh : cntI xs x ≤ m := Nat.le_of_not_lt fun hc => hp (cntI_lo hc hq)
   rw [decide_eq_false hp]
   refine Q.rn ?_;(repeat (intro b1;refine Q.rn ?_))
   exact ⟨(i,m),⟨rfl,rfl,rfl,rfl,rfl,trivial⟩,Ent.refl _,⟨h1,hrh,by dsimp only;omega⟩,by dsimp only;omega⟩
 ·have hci : cntI xs x = i := by omega
  have hil : i ≤ xs.length := by omega
  rw [hci]
  clear hci h1 h2
  by_cases hlt : i < xs.length
  ·obtain ⟨q,hq⟩ := mem_get hlt
   obtain ⟨b,oo,hia,hr⟩ := RdS.elem (g := fun z : Int => [I64 z]) (fun _ => rfl) (by rw [flat_I64];exact h) hq rfl
   rw [hia]
   by_cases hqx : q = x
   ·refine Q.rn ?_;(repeat (intro b1;refine Q.rn ?_))
    exact N.r2 (RV.tmp rfl (RV.tmp rfl RV.nil)) (Ent.refl _) ⟨⟨_,rfl⟩,rfl⟩
   ·refine Q.rn ?_;(repeat (intro b1;refine Q.rn ?_))
    refine S.cr rfl (NaNI_spec q _) ?_
    rintro _ _ ⟨rfl,rfl⟩
    refine Q.rn ?_;(repeat (intro b1;refine Q.rn ?_))
    exact N.r2 (RV.tmp rfl (RV.tmp rfl RV.nil)) (Ent.refl _) ⟨⟨_,rfl⟩,rfl⟩
  ·refine Q.rn ?_;(repeat (intro b1;refine Q.rn ?_))
   exact N.r2 (RV.tmp rfl (RV.tmp rfl RV.nil)) (Ent.refl _) ⟨⟨_,rfl⟩,rfl⟩
theorem ins_room {p q rest : List Value} {x : Value} (h : 1 ≤ rest.length) : putAt (putAt (p ++ q ++ rest) (p.length + 1) q) p.length [x] = (p ++ x :: q) ++ rest.drop 1 := by
 obtain ⟨y,rest,rfl⟩ : ∃ y r,rest = y :: r := by
  cases rest with
  | nil => simp at h
  | cons y r => exact ⟨y,r,rfl⟩
 have e1 : putAt (p ++ q ++ y :: rest) (p.length + 1) q = p ++ (q ++ [y]).take 1 ++ q ++ rest := by
  unfold putAt
  have : p ++ q ++ y :: rest = p ++ ((q ++ [y]) ++ rest) := by simp
  rw [this,List.take_append,List.take_of_length_le (by omega),show p.length + 1 - p.length = 1 by omega,List.drop_append,List.drop_eq_nil_of_le (by omega),List.nil_append,show p.length + 1 + q.length - p.length = (q ++ [y]).length by simp;omega]
  rw [List.drop_left,List.take_append]
  have : 1 - (q ++ [y]).length = 0 := by simp
  rw [this]
  simp
 rw [e1]
 obtain ⟨z,hz⟩ : ∃ z,(q ++ [y]).take 1 = [z] := by
  cases q with
  | nil => exact ⟨y,rfl⟩
  | cons z q => exact ⟨z,rfl⟩
 rw [hz]
 unfold putAt
 simp [List.take_append,List.drop_append]
theorem ins_grow {p zs q rest : List Value} {x : Value} (h : zs.length = q.length + 1) : putAt (putAt (p ++ zs ++ rest) p.length [x]) (p.length + 1) q = (p ++ x :: q) ++ rest := by
 obtain ⟨y,zs,rfl⟩ : ∃ y r,zs = y :: r := by
  cases zs with
  | nil => simp at h
  | cons y r => exact ⟨y,r,rfl⟩
 have h2 : zs.length = q.length := by simpa using h
 have e1 : putAt (p ++ y :: zs ++ rest) p.length [x] = p ++ x :: (zs ++ rest) := by
  unfold putAt
  rw [show p ++ y :: zs ++ rest = p ++ (y :: (zs ++ rest)) by simp,List.take_left,List.drop_append,List.drop_eq_nil_of_le (by simp)]
  simp
 rw [e1]
 unfold putAt
 have e2 : p ++ x :: (zs ++ rest) = (p ++ [x]) ++ (zs ++ rest) := by simp
 have e3 : p.length + 1 = (p ++ [x]).length := by simp
 rw [e2,e3,List.take_left,List.drop_append,List.drop_eq_nil_of_le (by omega),List.nil_append,show (p ++ [x]).length + q.length - (p ++ [x]).length = zs.length by omega,List.drop_left]
 simp
theorem RdC.pre {L : List HP} {b o : Nat} {cs ds : List Value} (h : RdC L b o (cs ++ ds)) : RdC L b o cs := RdC.part (k := 0) (ds := cs) h fun j v e => by
 rw [Nat.zero_add,List.getElem?_append_left (List.getElem?_eq_some_iff.1 e).1];exact e
theorem RdC.suf {L : List HP} {b o : Nat} {cs ds : List Value} (h : RdC L b o (cs ++ ds)) : RdC L b (o + cs.length) ds := RdC.part (k := cs.length) (ds := ds) h fun j v e => by
 rw [List.getElem?_append_right (by omega)]
 rw [show cs.length + j - cs.length = j by omega];exact e
set_option maxHeartbeats 2000000 in
theorem InsI_in (b c vb n i : Nat) (p q rest : List Value) (x : Value) (L : List HP) (hi : p.length = i) (hq : i + q.length = n) (hq0 : 0 < q.length) (hn : n ≤ 1000000) (hc : (p ++ q ++ rest).length = c) (h1 : x.oneCell' = true) (h2 : q.all (·.oneCell') = true) :
  CallsS Tryz.prog 125 [.slice (some ⟨b,0,none⟩) n c,.int .i64 i,.slice (some ⟨vb,0,none⟩) 1 1] (pt b (cl (p ++ q ++ rest) 3) :: pt vb (cl [x] 3) :: L)
   (fun r L' => ∃ a' c',r = .slice a' (n + 1) c' ∧ L' = slO 3 1 a' (n + 1) c' (p ++ x :: q) :: L) := by
 have hcl : i + q.length + rest.length = c := by rw [← hc,List.length_append,List.length_append,hi]
 refine CallsS.of_body Tryz.func125 rfl rfl rfl ?_
 refine Q.r ?_;(repeat (intro b1;refine Q.r ?_))
 refine S.y (Y.slF (l := i) rfl rfl rfl (by omega)) ?_
 refine Q.r ?_;(repeat (intro b1;refine Q.r ?_))
 refine S.y (Y.cap rfl) ?_
 by_cases hg : c < n + 1
 ·refine Q.r ?_;(repeat (intro b1;refine Q.r ?_))
  refine S.y (Y.slT (h := i) rfl rfl rfl (by omega)) ?_
  refine Q.rn ?_;(repeat (intro b1;refine Q.rn ?_))
  have hrp : RdC (pt b (cl (p ++ q ++ rest) 3) :: pt vb (cl [x] 3) :: L) b 0 p := by
   have h : RdC (pt b (cl (p ++ q ++ rest) 3) :: pt vb (cl [x] 3) :: L) b 0 (p ++ q ++ rest) := RdC.row
   exact RdC.pre (RdC.pre h)
  refine S.appz (k := n + 1 - i) rfl rfl hrp (by omega) (by omega) (by omega) (by rfl) (by decide) (by omega) (by omega) (fun b' c' => ?_)
  rw [show i + (n + 1 - i) = n + 1 by omega]
  have hrl : (rep (n + 1 - i) [Value.int .i64 0]).length = q.length + 1 := by rw [rep_length];simp;omega
  generalize hzs : rep (n + 1 - i) [Value.int .i64 0] = zs at hrl ⊢
  refine Q.r ?_;(repeat (intro b1;refine Q.r ?_))
  refine opsS_own b' (fun rs hm2 hc2 => ?_)
  have hcl2 : i + zs.length + rs.length = c' := by
   have h := hc2
   rw [List.length_append,List.length_append,hi,Nat.mul_one] at h;exact h
  refine S.y (Y.slF (l := i) rfl rfl rfl (by omega)) ?_
  rw [show (if c' = i then 0 else 0 + i * 1) = i by rw [if_neg (by omega)];omega]
  refine Q.r ?_;(repeat (intro b1;refine Q.r ?_))
  refine S.cpy (l' := putAt (p ++ zs ++ rs) i [x]) (ys := [x]) rfl rfl RdC.row (by simp;omega) (by simp only [List.length_append,List.length_singleton,hrl];omega) (by simpa using h1) rfl ?_
  refine Q.r ?_;(repeat (intro b1;refine Q.r ?_))
  refine Q.dgo [] [8] [] [0,1,2,3,4,5,6,7,8] ?_
  refine Q.rd ?_;(repeat (intro b1;refine Q.rd ?_))
  refine D.y rfl rfl rfl (by kernel_rfl) (Y.slF (l := i + 1) rfl rfl rfl (by omega)) ?_
  rw [show (if c' = i + 1 then 0 else 0 + (i + 1) * 1) = i + 1 by rw [if_neg (by omega)];omega]
  refine Q.rd ?_;(repeat (intro b1;refine Q.rd ?_))
  refine D.y rfl rfl rfl (by kernel_rfl) (Y.slF (l := i) rfl rfl rfl (by omega)) ?_
  rw [show (if c = i then 0 else 0 + i * 1) = i by rw [if_neg (by omega)];omega]
  refine Q.rd ?_;(repeat (intro b1;refine Q.rd ?_))
  refine D.e rfl rfl rfl ?_
  have hrq : RdC (pt b' (cl (putAt (p ++ zs ++ rs) i [x]) 3) :: pt b (cl (p ++ q ++ rest) 3) :: pt vb (cl [x] 3) :: L) b i q := by
   have h : RdC (pt b' (cl (putAt (p ++ zs ++ rs) i [x]) 3) :: pt b (cl (p ++ q ++ rest) 3) :: pt vb (cl [x] 3) :: L) b 0 (p ++ q ++ rest) := RdC.row
   have h2 := RdC.suf (RdC.pre h)
   rw [hi,Nat.zero_add] at h2;exact h2
  have hpl : (putAt (p ++ zs ++ rs) i [x]).length = (p ++ zs ++ rs).length := by
   unfold putAt;simp [List.length_append];omega
  have hfin := ins_grow (p := p) (zs := zs) (q := q) (rest := rs) (x := x) hrl
  rw [hi] at hfin
  refine S.cpy (l' := (p ++ x :: q) ++ rs) (ys := q) rfl rfl hrq (by omega) (by rw [hpl,List.length_append,List.length_append,hi,hrl];omega) h2 hfin ?_
  refine Q.r ?_;(repeat (intro b1;refine Q.r ?_))
  refine Q.rd ?_;(repeat (intro b1;refine Q.rd ?_))
  refine Q.r ?_;(repeat (intro b1;refine Q.r ?_))
  refine N.r1 (RV.tmp rfl RV.nil) ?_ ⟨some ⟨b',0,none⟩,c',rfl,rfl⟩
  refine Ent.trans (M := pt b' (cl ((p ++ x :: q) ++ rs) 3) :: L) (by exact Go.SX.Ent.go) ?_
  exact slO_shut (by rw [List.length_append,List.length_cons,hi];omega) (by omega) (by rw [List.length_append,List.length_append,List.length_cons,hi];omega)
 ·refine Q.r ?_;(repeat (intro b1;refine Q.r ?_))
  refine S.y (Y.slT (h := n + 1) rfl rfl (by omega) (by omega)) ?_
  refine Q.r ?_;(repeat (intro b1;refine Q.r ?_))
  refine S.y (Y.slF (l := i + 1) rfl rfl rfl (by omega)) ?_
  rw [show (if c = i + 1 then 0 else 0 + (i + 1) * 1) = i + 1 by rw [if_neg (by omega)];omega]
  refine S.y (Y.ovl (tS := 34) (tR := 4) (b1 := vb) (b2 := b) (t1 := 3) (t2 := 3) (l1 := [x]) (l2 := p ++ q ++ rest) Tryz.func140 (by kernel_rfl) (by kernel_rfl) (by kernel_rfl) (by kernel_rfl) rfl rfl (by intro h;have h := congrArg List.length h;rw [List.length_append,List.length_append,List.length_nil] at h;omega)) ?_
  refine Q.r ?_;(repeat (intro b1;refine Q.r ?_))
  refine Q.dgo [] [8] [] [0,1,2,3,4,5,6,7,8] ?_
  refine Q.rd ?_;(repeat (intro b1;refine Q.rd ?_))
  refine D.y rfl rfl rfl (by kernel_rfl) (Y.slF (l := i + 1) rfl rfl rfl (by omega)) ?_
  rw [show (if c = i + 1 then 0 else 0 + (i + 1) * 1) = i + 1 by rw [if_neg (by omega)];omega]
  refine Q.rd ?_;(repeat (intro b1;refine Q.rd ?_))
  refine D.y rfl rfl rfl (by kernel_rfl) (Y.slF (l := i) rfl rfl rfl (by omega)) ?_
  rw [show (if c = i then 0 else 0 + i * 1) = i by rw [if_neg (by omega)];omega]
  refine Q.rd ?_;(repeat (intro b1;refine Q.rd ?_))
  refine D.e rfl rfl rfl ?_
  have hrq : RdC (pt b (cl (p ++ q ++ rest) 3) :: pt vb (cl [x] 3) :: L) b i q := by
   have h : RdC (pt b (cl (p ++ q ++ rest) 3) :: pt vb (cl [x] 3) :: L) b 0 (p ++ q ++ rest) := RdC.row
   have h2 := RdC.suf (RdC.pre h)
   rw [hi,Nat.zero_add] at h2;exact h2
  have hpl : (putAt (p ++ q ++ rest) (i + 1) q).length = (p ++ q ++ rest).length := by
   unfold putAt;simp [List.length_append];omega
  have hfin := ins_room (p := p) (q := q) (rest := rest) (x := x) (by omega)
  rw [hi] at hfin
  refine S.cpy (l' := putAt (p ++ q ++ rest) (i + 1) q) (ys := q) rfl rfl hrq (by omega) (by rw [List.length_append,List.length_append,hi];omega) h2 rfl ?_
  refine Q.r ?_;(repeat (intro b1;refine Q.r ?_))
  refine Q.rd ?_;(repeat (intro b1;refine Q.rd ?_))
  refine Q.r ?_;(repeat (intro b1;refine Q.r ?_))
  refine S.y (Y.slF (l := i) rfl rfl rfl (by omega)) ?_
  rw [show (if c = i then 0 else 0 + i * 1) = i by rw [if_neg (by omega)];omega]
  refine Q.r ?_;(repeat (intro b1;refine Q.r ?_))
  refine S.cpy (l' := (p ++ x :: q) ++ rest.drop 1) (ys := [x]) rfl rfl RdC.row (by simp;omega) (by rw [hpl,List.length_append,List.length_append,hi,List.length_singleton];omega) (by simpa using h1) hfin ?_
  refine Q.r ?_;(repeat (intro b1;refine Q.r ?_))
  refine N.r1 (RV.tmp rfl RV.nil) ?_ ⟨some ⟨b,0,none⟩,c,rfl,rfl⟩
  refine Ent.trans (M := pt b (cl ((p ++ x :: q) ++ rest.drop 1) 3) :: L) (by exact Go.SX.Ent.go) ?_
  exact slO_shut (by rw [List.length_append,List.length_cons,hi];omega) (by omega) (by rw [List.length_append,List.length_append,List.length_cons,List.length_drop,hi];omega)
set_option maxHeartbeats 1000000 in
theorem InsI_spec (a : Option Addr) (c i vb : Nat) (xs : List Int) (x : Int) (L : List HP) (hi : i ≤ xs.length) (hn : xs.length ≤ 1000000) :
  CallsS Tryz.prog 125 [.slice a xs.length c,.int .i64 i,.slice (some ⟨vb,0,none⟩) 1 1] (slO 3 1 a xs.length c (xs.map I64) :: pt vb (cl [I64 x] 3) :: L)
   (fun r L' => ∃ a' c',r = .slice a' (xs.length + 1) c' ∧ L' = slO 3 1 a' (xs.length + 1) c' ((xs.take i ++ x :: xs.drop i).map I64) :: L) := by
 by_cases hin : i = xs.length
 ·subst hin
  rw [List.take_length,List.drop_length]
  obtain ⟨n,hnn⟩ : ∃ n,n = xs.length := ⟨_,rfl⟩
  rw [← hnn]
  refine CallsS.slOc (fun e1 e2 e3 e4 => ?_) (fun b e h1 => ?_)
  ·subst e1 e2 e3
   have hx : xs = [] := List.eq_nil_of_length_eq_zero hnn.symm
   subst hx
   refine CallsS.of_body Tryz.func125 rfl rfl rfl ?_
   refine Q.r ?_;(repeat (intro b1;refine Q.r ?_))
   refine S.y (Y.slFn rfl rfl rfl) ?_
   refine Q.r ?_;(repeat (intro b1;refine Q.r ?_))
   refine S.app rfl rfl (SrcS.sl RdC.row (by rfl) (by rfl)) (by rfl) (by omega) (by omega) (fun a7 c7 => ?_)
   refine Q.r ?_;(repeat (intro b1;refine Q.r ?_))
   exact N.r1 (RV.tmp rfl RV.nil) (Ent.cons (Ent.drop (Ent.refl _))) ⟨a7,c7,rfl,rfl⟩
  ·subst e
   refine CallsS.of_body Tryz.func125 rfl rfl rfl ?_
   refine Q.r ?_;(repeat (intro b1;refine Q.r ?_))
   refine S.y (Y.slF (l := n) rfl rfl rfl (by omega)) ?_
   refine Q.r ?_;(repeat (intro b1;refine Q.r ?_))
   refine S.app rfl rfl (SrcS.sl RdC.row (by rfl) (by rfl)) (by rfl) (by omega) (by omega) (fun a7 c7 => ?_)
   refine Q.r ?_;(repeat (intro b1;refine Q.r ?_))
   refine N.r1 (RV.tmp rfl RV.nil) (Ent.cons (Ent.drop (Ent.refl _))) ⟨a7,c7,rfl,?_⟩
   rw [List.map_append];rfl
 have hlt : i < xs.length := by omega
 refine CallsS.slO (by omega) fun b rest ha hmc hlen => ?_
 subst ha
 have hl1 : ((xs.take i).map I64).length = i := by rw [List.length_map,List.length_take];omega
 have hl2 : ((xs.drop i).map I64).length = xs.length - i := by rw [List.length_map,List.length_drop]
 have hx1 : xs.map I64 = (xs.take i).map I64 ++ (xs.drop i).map I64 := by rw [← List.map_append,List.take_append_drop]
 have hres : (xs.take i ++ x :: xs.drop i).map I64 = (xs.take i).map I64 ++ I64 x :: (xs.drop i).map I64 := by rw [List.map_append,List.map_cons]
 rw [hx1,hres]
 rw [hx1] at hlen
 exact InsI_in b c vb xs.length i _ _ rest (I64 x) L hl1 (by omega) (by omega) hn (by rw [hlen,Nat.mul_one]) rfl (P_one _)
theorem Gput_spec (a : Option Addr) (c : Nat) (xs : List Int) (x : Int) (A : List HP) (h : RdS A a xs.length 1 (xs.map I64)) (hn : xs.length ≤ 1000000) (hs : Rise xs) :
  CallsS Tryz.prog 96 [.slice a xs.length c,.int .i64 x] A (fun r L' => ∃ a' c',r = .slice a' (xs.length + 1) c' ∧ L' = slO 3 1 a' (xs.length + 1) c' ((putI xs x).map I64) :: A) := by
 have hpi : putI xs x = xs.take (cntI xs x) ++ x :: xs.drop (cntI xs x) := by
  unfold putI cntI
  have e := List.takeWhile_append_dropWhile (p := fun y => decide (y < x)) (l := xs)
  have e1 : xs.take (xs.takeWhile fun y => decide (y < x)).length = xs.takeWhile fun y => decide (y < x) := by
   conv => lhs;arg 2;rw [← e]
   exact List.take_left ..
  have e2 : xs.drop (xs.takeWhile fun y => decide (y < x)).length = xs.dropWhile fun y => decide (y < x) := by
   conv => lhs;arg 2;rw [← e]
   exact List.drop_left ..
  rw [e1,e2]
 have hle := cntI_le xs x
 refine CallsS.of_body Tryz.func96 rfl rfl rfl ?_
 refine Q.r ?_;(repeat (intro b1;refine Q.r ?_))
 refine S.cr rfl (BinI_spec a c xs x _ h hn hs) ?_
 rintro _ _ ⟨⟨b,rfl⟩,rfl⟩
 refine Q.r ?_;(repeat (intro b1;refine Q.r ?_))
 refine S.cr rfl (CloneP_spec a c xs _ h hn) ?_
 rintro _ _ ⟨ca,cc,rfl,rfl⟩
 refine Q.r ?_;(repeat (intro b1;refine Q.r ?_))
 refine S.c2 (A := slO 3 1 ca xs.length cc (xs.map I64)) rfl (InsI_spec ca cc (cntI xs x) b1 xs x _ hle hn) ?_
 rintro _ _ ⟨a',c',rfl,rfl⟩
 refine Q.r ?_;(repeat (intro b1;refine Q.r ?_))
 refine N.r1 (RV.tmp rfl RV.nil) ?_ ⟨a',c',rfl,by rw [hpi]⟩
 exact Go.SX.Ent.go
abbrev nvG (m : Int × NA) : Int × NV := (m.1,m.2.nv)
abbrev toldV (t : TR) (stamp code : Int) : List (Int × NV) := (toldM t stamp code).map nvG
theorem toldV_len (t : TR) (s c : Int) : (toldV t s c).length = t.parts.length + 1 := by rw [List.length_map,toldM_len]
theorem toldV_abs (t : TR) (s c : Int) : (toldV t s c).map (fun m : Int × NV => (m.1,m.2.abs)) = toldM t s c := nvm_abs (toldM_abs t s c)
theorem toldV_ok {M : Nat → Option Obj} (t : TR) (s c : Int) : ∀ m ∈ toldV t s c,okN M m.2 := fun m hm => by
 obtain ⟨u,_,rfl⟩ := List.mem_map.1 hm
 exact okN.nv u.2
theorem GtoldV_spec (t : Nat × TV) (stamp code : Int) (M : Nat → Option Obj) (L : List HP) (ht : okT M t.2) :
  CallsS Tryz.prog 35 [ptT t,.int .u64 stamp,.int .i64 code] (oneT t :: roM M :: L) (fun r L' => ∃ a' c',r = .slice a' (toldV t.2.abs stamp code).length c' ∧ L' = slO 54 17 a' (toldV t.2.abs stamp code).length c' ((toldV t.2.abs stamp code).flatMap mcells) :: oneT t :: roM M :: L) := by
 have h := Gtold_spec t stamp code M L ht
 rw [show t.2.parts.length + 1 = (toldV t.2.abs stamp code).length from (toldV_len t.2.abs stamp code).symm,show (toldM t.2.abs stamp code).flatMap mailC = (toldV t.2.abs stamp code).flatMap mcells from (by rw [List.flatMap_map])] at h
 exact h
set_option maxHeartbeats 1000000 in
theorem Gvote_spec (n : NV) (M : Nat → Option Obj) (p : Nat) (j : JG) (fr : Int) (L : List HP) (h0 : 0 ≤ j.last) (h1 : j.last ≤ 1099511627776) :
  CallsS Tryz.prog 45 [ptrG p,.int .i64 fr,n.val] (jdgH M p j :: roM M :: L) (planGR0 M p j (voteG j fr n.abs) L) := by
 unfold voteG
 refine calls_jdg fun mt md ts hq => ?_
 refine CallsS.of_body Tryz.func45 rfl rfl rfl ?_
 refine Q.r ?_;(repeat (intro b1;refine Q.r ?_))
 rename_i b5
 revert b1
 intro b6
 refine Q.dgo [true,true,true,true,true,true,true] [] [] [0,1,2,3,4,5,6,7] ?_
 refine Q.rd ?_;(repeat (intro b1;refine Q.rd ?_))
 refine D.y rfl rfl rfl (by kernel_rfl) (Y.lk false rfl rfl (fun w => Tryz.zeroValue96 w)) ?_
 rw [lk_tr hq.tr n.txn]
 cases hz : lkL (α := Nat × TV) ts n.txn with
 | none =>
  dsimp only [Option.map_none]
  refine Q.rd ?_;(repeat (intro b1;refine Q.rd ?_))
  refine Q.r ?_;(repeat (intro b1;refine Q.r ?_))
  exact N.r1 (by apply RV.cellN;rfl;exact RdC.row;rfl;exact RV.nil) (Ent.trans (Ent.trans (M := gP p j mt md :: gT mt ts :: trsH ts :: gD md j.done :: roM M :: L) (by exact Go.SX.Ent.go) (jdg_shut hq)) nil5) (planGR0.none M p j L)
 | some u =>
  obtain ⟨k,hk⟩ := lk_idx hz
  have hu : okT M u.2 := hq.ok _ (List.mem_of_getElem? hk)
  have hpl := hu.pl
  have hyl := hu.yl
  dsimp only [Option.map_some]
  refine Q.rd ?_;(repeat (intro b1;refine Q.rd ?_))
  refine Q.r ?_;(repeat (intro b1;refine Q.r ?_))
  refine opsS_trs hk ?_
  by_cases hs : 0 < u.2.stamp
  ·rw [if_pos (.inl hs)]
   refine Q.r ?_;(repeat (intro b1;refine Q.r ?_))
   exact N.r1 (by apply RV.cellN;rfl;exact RdC.row;rfl;exact RV.nil) (Ent.trans (Ent.trans (M := gP p j mt md :: gT mt ts :: oneT u :: trsH (ts.eraseIdx k) :: gD md j.done :: roM M :: L) (by exact Go.SX.Ent.go) (jdg_shut1 hk hq)) nil5) (planGR0.none M p j L)
  refine Q.r ?_;(repeat (intro b1;refine Q.r ?_))
  refine S.cr rfl (ContainsP_spec u.2.pa u.2.pc u.2.parts fr _ hu.p.rd hpl) ?_
  rintro _ _ ⟨rfl,rfl⟩
  by_cases hc : fr ∈ u.2.parts
  case neg =>
   rw [if_pos (.inr hc),decide_eq_false hc]
   refine Q.r ?_;(repeat (intro b1;refine Q.r ?_))
   exact N.r1 (by apply RV.cellN;rfl;exact RdC.row;rfl;exact RV.nil) (Ent.trans (Ent.trans (M := gP p j mt md :: gT mt ts :: oneT u :: trsH (ts.eraseIdx k) :: gD md j.done :: roM M :: L) (by exact Go.SX.Ent.go) (jdg_shut1 hk hq)) nil5) (planGR0.none M p j L)
  rw [if_neg (show ¬ (0 < u.2.abs.stamp ∨ fr ∉ u.2.abs.parts) from fun h => h.elim hs (fun h => h hc)),decide_eq_true hc]
  by_cases hco : n.code = 0
  case neg =>
   rw [if_pos hco]
   refine Q.r ?_;(repeat (intro b1;refine Q.r ?_))
   refine Q.dgo [false,false,false,true] [1,5,7] [] [0,2,3,4,1,5,6,7] ?_
   refine Q.rd ?_;(repeat (intro b1;refine Q.rd ?_))
   refine D.e rfl rfl rfl ?_
   refine S.c1 rfl (Ggone_spec u _) ?_
   rintro _ _ ⟨bg,rfl,rfl⟩
   refine Q.r ?_;(repeat (intro b1;refine Q.r ?_))
   refine Q.rd ?_;(repeat (intro b1;refine Q.rd ?_))
   refine D.e rfl rfl rfl ?_
   refine S.c2 rfl (GtoldV_spec u 0 n.code M _ hu) ?_
   rintro _ _ ⟨a3,c3,rfl,rfl⟩
   have hta := toldV_abs u.2.abs 0 n.code
   have hto := toldV_ok (M := M) u.2.abs 0 n.code
   generalize toldV u.2.abs 0 n.code = ms at hta hto ⊢
   refine Q.r ?_;(repeat (intro b1;refine Q.r ?_))
   refine Q.rd ?_;(repeat (intro b1;refine Q.rd ?_))
   refine Q.r ?_;(repeat (intro b1;refine Q.r ?_))
   refine N.r1 (by apply RV.cellN;rfl;exact RdC.row;rfl;exact RV.nil) (Ent.trans (M := slO 52 16 (some ⟨bg,0,none⟩) 1 1 (goneN u.2.txn).nv.cells :: slO 54 17 a3 ms.length c3 (ms.flatMap mcells) :: gP p j mt md :: gT mt ts :: oneT u :: trsH (ts.eraseIdx k) :: gD md j.done :: roM M :: L) (by exact Go.SX.Ent.go) (Ent.trans (Ent.cons (Ent.cons (jdg_shut1 hk hq))) ?_)) ⟨none,0,[],some ⟨bg,0,none⟩,1,[(goneN u.2.txn).nv],a3,c3,ms,none,0,[],none,0,[],M,rfl,leM.refl M,⟨fun _ h => (by cases h),fun m hm => by rw [List.mem_singleton.1 hm];exact okN.nv _,hto,fun _ h => (by cases h),fun _ h => (by cases h)⟩,⟨rfl,rfl,hta,rfl,rfl⟩,rfl⟩
   show Ent _ (slO 52 16 none 0 0 [] :: slO 52 16 (some ⟨bg,0,none⟩) 1 1 (goneN u.2.txn).nv.cells :: slO 54 17 a3 ms.length c3 (ms.flatMap mcells) :: slO 52 16 none 0 0 [] :: slO 54 17 none 0 0 [] :: jdgH M p j :: roM M :: L)
   exact Go.SX.Ent.go
  rw [if_neg (show ¬ n.abs.code ≠ 0 from fun h => h hco)]
  refine Q.r ?_;(repeat (intro b1;refine Q.r ?_))
  refine S.cr rfl (ContainsP_spec u.2.ya u.2.yc u.2.yes fr _ hu.y.rd hyl) ?_
  rintro _ _ ⟨rfl,rfl⟩
  by_cases hd : fr ∈ u.2.yes
  ·rw [if_pos hd,decide_eq_true hd]
   refine Q.r ?_;(repeat (intro b1;refine Q.r ?_))
   exact N.r1 (by apply RV.cellN;rfl;exact RdC.row;rfl;exact RV.nil) (Ent.trans (Ent.trans (M := gP p j mt md :: gT mt ts :: oneT u :: trsH (ts.eraseIdx k) :: gD md j.done :: roM M :: L) (by exact Go.SX.Ent.go) (jdg_shut1 hk hq)) nil5) (planGR0.none M p j L)
  rw [if_neg hd,decide_eq_false hd]
  refine Q.r ?_;(repeat (intro b1;refine Q.r ?_))
  refine S.cr rfl (GlastOf_spec u u.2.ya u.2.yes.length u.2.yc _ hyl hpl) ?_
  rintro _ _ ⟨rfl,rfl⟩
  by_cases hl : u.2.yes.length + 1 = u.2.parts.length
  ·rw [if_neg (fun h => h hl),decide_eq_true hl]
   refine Q.r ?_;(repeat (intro b1;refine Q.r ?_))
   refine swp_cutT (σ := Nat × NV × (Nat → Option Obj)) (fun s => [(5,.pointer (some ⟨b5,0,none⟩)),(6,.pointer (some ⟨b6,0,none⟩)),(7,ptT u),(8,.pointer (some ⟨s.1,0,none⟩))])
    (fun s => pt s.1 (cl s.2.1.cells 52) :: pt b6 (cl [.slice none 0 0,.slice none 0 0,.slice none 0 0,.slice none 0 0,.slice none 0 0] 50) :: oneT u :: trsH (ts.eraseIdx k) :: gP p j mt md :: gT mt ts :: gD md j.done :: roM s.2.2 :: L) (fun s => leM M s.2.2 ∧ okN s.2.2 s.2.1 ∧ s.2.1.abs = { NA.zero with kind := 17,txn := u.2.txn,batch := u.2.batch,stamp := j.last + 1,parts := u.2.parts }) ?_ ?_
   ·refine Q.dgo [true,false,false,false,true] [20,22,23] [] [0,1,2,3,4,5,6,7,8,9,10,11,12,13,14,15,16,17,18,19,99999,0,0,0] ?_
    refine Q.rd ?_;(repeat (intro b1;refine Q.rd ?_))
    refine D.y rfl rfl rfl (by kernel_rfl) (Y.add rfl rfl) ?_
    rw [wrap_u64 (by omega) (by omega)]
    refine Q.rd ?_;(repeat (intro b1;refine Q.rd ?_))
    refine D.two 20 22 [21,22,23] [20,21,23] (by kernel_rfl) rfl rfl rfl rfl (by kernel_rfl) (by kernel_rfl) ?_ ?_
    ·refine S.cr rfl (CloneP_spec u.2.pa u.2.pc u.2.parts _ hu.p.rd hpl) ?_
     rintro _ _ ⟨ca,cc,rfl,rfl⟩
     refine opsS_abs ca (fun M1 hl1 hs1 => ?_)
     refine Q.r ?_;(repeat (intro b1;refine Q.r ?_))
     refine Q.rd ?_;(repeat (intro b1;refine Q.rd ?_))
     refine N.tn ⟨(b1,⟨17,u.2.txn,u.2.batch,j.last + 1,0,0,0,0,0,0,0,0,ca,cc,u.2.parts,none,0,[],none,0,[],none,0,[]⟩,M1),⟨rfl,rfl,rfl,rfl,trivial⟩,?_,hl1,⟨hs1,⟨SlM.nil0,fun o ho => by cases ho⟩,SlM.nil0,SlM.nil0,fun o ho => by cases ho⟩,rfl⟩
     (try dsimp only);exact Go.SX.Ent.go
    ·refine GQ.a ?_
     refine Q.al (fun b8 => ?_)
     refine Q.r ?_;(repeat (intro b1;refine Q.r ?_))
     refine Q.rd ?_;(repeat (intro b1;refine Q.rd ?_))
     refine D.e rfl rfl rfl ?_
     refine S.cr rfl (CloneP_spec u.2.pa u.2.pc u.2.parts _ hu.p.rd hpl) ?_
     rintro _ _ ⟨ca,cc,rfl,rfl⟩
     refine opsS_abs ca (fun M1 hl1 hs1 => ?_)
     refine Q.r ?_;(repeat (intro b1;refine Q.r ?_))
     refine Q.rd ?_;(repeat (intro b1;refine Q.rd ?_))
     refine N.tn ⟨(b8,⟨17,u.2.txn,u.2.batch,j.last + 1,0,0,0,0,0,0,0,0,ca,cc,u.2.parts,none,0,[],none,0,[],none,0,[]⟩,M1),⟨rfl,rfl,rfl,rfl,trivial⟩,?_,hl1,⟨hs1,⟨SlM.nil0,fun o ho => by cases ho⟩,SlM.nil0,SlM.nil0,fun o ho => by cases ho⟩,rfl⟩
     (try dsimp only);exact Go.SX.Ent.go
   ·rintro ⟨b8,cn,M1⟩ ⟨hl1,hcn,hca⟩
    dsimp only at hl1 hcn hca ⊢
    refine Q.r ?_;(repeat (intro b1;refine Q.r ?_))
    refine Q.dgo [true,false,false,false] [1,5,7,9,11] [] [0,2,3,4,6,8,99999,0,0,0,0,0] ?_
    have hca1 : [cn].map NV.abs = [{ NA.zero with kind := 17,txn := u.2.txn,batch := u.2.batch,stamp := j.last + 1,parts := u.2.parts }] := congrArg (fun z => [z]) hca
    have hst : cn.stamp = j.last + 1 := congrArg NA.stamp hca
    have hta : (toldV u.2.abs cn.stamp 0).map (fun m : Int × NV => (m.1,m.2.abs)) = toldM u.2.abs (j.last + 1) 0 := by rw [hst];exact toldV_abs _ _ _
    refine Q.rd ?_;(repeat (intro b1;refine Q.rd ?_))
    refine D.two 1 5 [5,7,9,10,11] [99999,0,0,0,0] (by kernel_rfl) rfl rfl rfl rfl (by kernel_rfl) (by kernel_rfl) ?_ ?_
    ·refine Q.r ?_;(repeat (intro b1;refine Q.r ?_))
     refine Q.rd ?_;(repeat (intro b1;refine Q.rd ?_))
     refine D.e rfl rfl rfl ?_
     refine S.c2 rfl (GtoldV_spec u cn.stamp 0 M1 _ (hu.mono hl1)) ?_
     rintro _ _ ⟨a3,c3,rfl,rfl⟩
     refine Q.r ?_;(repeat (intro b1;refine Q.r ?_))
     refine Q.rd ?_;(repeat (intro b1;refine Q.rd ?_))
     refine D.e rfl rfl rfl ?_
     refine S.c1 rfl (Ggone_spec u _) ?_
     rintro _ _ ⟨bg,rfl,rfl⟩
     refine Q.r ?_;(repeat (intro b1;refine Q.r ?_))
     refine Q.rd ?_;(repeat (intro b1;refine Q.rd ?_))
     refine D.e rfl rfl rfl ?_
     refine S.c2 rfl (GtoldV_spec u 0 8 M1 _ (hu.mono hl1)) ?_
     rintro _ _ ⟨a5,c5,rfl,rfl⟩
     refine Q.r ?_;(repeat (intro b1;refine Q.r ?_))
     refine Q.rd ?_;(repeat (intro b1;refine Q.rd ?_))
     refine Q.r ?_;(repeat (intro b1;refine Q.r ?_))
     refine N.r1 (by apply RV.cellN;rfl;exact RdC.row;rfl;exact RV.nil) (Ent.trans (M := pt b1 (cl cn.cells 52) :: slO 54 17 a3 (toldV u.2.abs cn.stamp 0).length c3 ((toldV u.2.abs cn.stamp 0).flatMap mcells) :: slO 52 16 (some ⟨bg,0,none⟩) 1 1 (goneN u.2.txn).nv.cells :: slO 54 17 a5 (toldV u.2.abs 0 8).length c5 ((toldV u.2.abs 0 8).flatMap mcells) :: gP p j mt md :: gT mt ts :: oneT u :: trsH (ts.eraseIdx k) :: gD md j.done :: roM M1 :: L) (by exact Go.SX.Ent.go) (Ent.trans (Ent.cons (Ent.cons (Ent.cons (Ent.cons (jdg_shut1 hk (hq.mono hl1)))))) (Ent.trans (slO_fold (sz := 16) (m := 1) rfl) ?_))) ⟨some ⟨b1,0,none⟩,1,[cn],none,0,[],a3,c3,toldV u.2.abs cn.stamp 0,some ⟨bg,0,none⟩,1,[(goneN u.2.txn).nv],a5,c5,toldV u.2.abs 0 8,M1,rfl,hl1,⟨fun m hm => by rw [List.mem_singleton.1 hm];exact hcn,fun _ h => (by cases h),toldV_ok _ _ _,fun m hm => by rw [List.mem_singleton.1 hm];exact okN.nv _,toldV_ok _ _ _⟩,⟨hca1,rfl,hta,rfl,toldV_abs _ _ _⟩,rfl⟩
     show Ent _ (slO 52 16 (some ⟨b1,0,none⟩) 1 1 cn.cells :: slO 52 16 none 0 0 [] :: slO 54 17 a3 (toldV u.2.abs cn.stamp 0).length c3 ((toldV u.2.abs cn.stamp 0).flatMap mcells) :: slO 52 16 (some ⟨bg,0,none⟩) 1 1 (goneN u.2.txn).nv.cells :: slO 54 17 a5 (toldV u.2.abs 0 8).length c5 ((toldV u.2.abs 0 8).flatMap mcells) :: jdgH M1 p j :: roM M1 :: L)
     exact Go.SX.Ent.go
    ·refine S.c2 rfl (GtoldV_spec u cn.stamp 0 M1 _ (hu.mono hl1)) ?_
     rintro _ _ ⟨a3,c3,rfl,rfl⟩
     refine Q.r ?_;(repeat (intro b1;refine Q.r ?_))
     refine Q.rd ?_;(repeat (intro b1;refine Q.rd ?_))
     refine D.two 1 7 [7,9,10,11] [99999,0,0,0] (by kernel_rfl) rfl rfl rfl rfl (by kernel_rfl) (by kernel_rfl) ?_ ?_
     ·refine Q.r ?_;(repeat (intro b1;refine Q.r ?_))
      refine Q.rd ?_;(repeat (intro b1;refine Q.rd ?_))
      refine D.e rfl rfl rfl ?_
      refine S.c1 rfl (Ggone_spec u _) ?_
      rintro _ _ ⟨bg,rfl,rfl⟩
      refine Q.r ?_;(repeat (intro b1;refine Q.r ?_))
      refine Q.rd ?_;(repeat (intro b1;refine Q.rd ?_))
      refine D.e rfl rfl rfl ?_
      refine S.c2 rfl (GtoldV_spec u 0 8 M1 _ (hu.mono hl1)) ?_
      rintro _ _ ⟨a5,c5,rfl,rfl⟩
      refine Q.r ?_;(repeat (intro b1;refine Q.r ?_))
      refine Q.rd ?_;(repeat (intro b1;refine Q.rd ?_))
      refine Q.r ?_;(repeat (intro b1;refine Q.r ?_))
      refine N.r1 (by apply RV.cellN;rfl;exact RdC.row;rfl;exact RV.nil) (Ent.trans (M := pt b1 (cl cn.cells 52) :: slO 54 17 a3 (toldV u.2.abs cn.stamp 0).length c3 ((toldV u.2.abs cn.stamp 0).flatMap mcells) :: slO 52 16 (some ⟨bg,0,none⟩) 1 1 (goneN u.2.txn).nv.cells :: slO 54 17 a5 (toldV u.2.abs 0 8).length c5 ((toldV u.2.abs 0 8).flatMap mcells) :: gP p j mt md :: gT mt ts :: oneT u :: trsH (ts.eraseIdx k) :: gD md j.done :: roM M1 :: L) (by exact Go.SX.Ent.go) (Ent.trans (Ent.cons (Ent.cons (Ent.cons (Ent.cons (jdg_shut1 hk (hq.mono hl1)))))) (Ent.trans (slO_fold (sz := 16) (m := 1) rfl) ?_))) ⟨some ⟨b1,0,none⟩,1,[cn],none,0,[],a3,c3,toldV u.2.abs cn.stamp 0,some ⟨bg,0,none⟩,1,[(goneN u.2.txn).nv],a5,c5,toldV u.2.abs 0 8,M1,rfl,hl1,⟨fun m hm => by rw [List.mem_singleton.1 hm];exact hcn,fun _ h => (by cases h),toldV_ok _ _ _,fun m hm => by rw [List.mem_singleton.1 hm];exact okN.nv _,toldV_ok _ _ _⟩,⟨hca1,rfl,hta,rfl,toldV_abs _ _ _⟩,rfl⟩
      show Ent _ (slO 52 16 (some ⟨b1,0,none⟩) 1 1 cn.cells :: slO 52 16 none 0 0 [] :: slO 54 17 a3 (toldV u.2.abs cn.stamp 0).length c3 ((toldV u.2.abs cn.stamp 0).flatMap mcells) :: slO 52 16 (some ⟨bg,0,none⟩) 1 1 (goneN u.2.txn).nv.cells :: slO 54 17 a5 (toldV u.2.abs 0 8).length c5 ((toldV u.2.abs 0 8).flatMap mcells) :: jdgH M1 p j :: roM M1 :: L)
      exact Go.SX.Ent.go
     ·refine S.c1 rfl (Ggone_spec u _) ?_
      rintro _ _ ⟨bg,rfl,rfl⟩
      refine Q.r ?_;(repeat (intro b1;refine Q.r ?_))
      refine Q.rd ?_;(repeat (intro b1;refine Q.rd ?_))
      refine D.two 1 9 [9,10,11] [1,10,11] (by kernel_rfl) rfl rfl rfl rfl (by kernel_rfl) (by kernel_rfl) ?_ ?_
      ·refine Q.r ?_;(repeat (intro b1;refine Q.r ?_))
       refine Q.rd ?_;(repeat (intro b1;refine Q.rd ?_))
       refine D.e rfl rfl rfl ?_
       refine S.c2 rfl (GtoldV_spec u 0 8 M1 _ (hu.mono hl1)) ?_
       rintro _ _ ⟨a5,c5,rfl,rfl⟩
       refine Q.r ?_;(repeat (intro b1;refine Q.r ?_))
       refine Q.rd ?_;(repeat (intro b1;refine Q.rd ?_))
       refine Q.r ?_;(repeat (intro b1;refine Q.r ?_))
       refine N.r1 (by apply RV.cellN;rfl;exact RdC.row;rfl;exact RV.nil) (Ent.trans (M := pt b1 (cl cn.cells 52) :: slO 54 17 a3 (toldV u.2.abs cn.stamp 0).length c3 ((toldV u.2.abs cn.stamp 0).flatMap mcells) :: slO 52 16 (some ⟨bg,0,none⟩) 1 1 (goneN u.2.txn).nv.cells :: slO 54 17 a5 (toldV u.2.abs 0 8).length c5 ((toldV u.2.abs 0 8).flatMap mcells) :: gP p j mt md :: gT mt ts :: oneT u :: trsH (ts.eraseIdx k) :: gD md j.done :: roM M1 :: L) (by exact Go.SX.Ent.go) (Ent.trans (Ent.cons (Ent.cons (Ent.cons (Ent.cons (jdg_shut1 hk (hq.mono hl1)))))) (Ent.trans (slO_fold (sz := 16) (m := 1) rfl) ?_))) ⟨some ⟨b1,0,none⟩,1,[cn],none,0,[],a3,c3,toldV u.2.abs cn.stamp 0,some ⟨bg,0,none⟩,1,[(goneN u.2.txn).nv],a5,c5,toldV u.2.abs 0 8,M1,rfl,hl1,⟨fun m hm => by rw [List.mem_singleton.1 hm];exact hcn,fun _ h => (by cases h),toldV_ok _ _ _,fun m hm => by rw [List.mem_singleton.1 hm];exact okN.nv _,toldV_ok _ _ _⟩,⟨hca1,rfl,hta,rfl,toldV_abs _ _ _⟩,rfl⟩
       show Ent _ (slO 52 16 (some ⟨b1,0,none⟩) 1 1 cn.cells :: slO 52 16 none 0 0 [] :: slO 54 17 a3 (toldV u.2.abs cn.stamp 0).length c3 ((toldV u.2.abs cn.stamp 0).flatMap mcells) :: slO 52 16 (some ⟨bg,0,none⟩) 1 1 (goneN u.2.txn).nv.cells :: slO 54 17 a5 (toldV u.2.abs 0 8).length c5 ((toldV u.2.abs 0 8).flatMap mcells) :: jdgH M1 p j :: roM M1 :: L)
       exact Go.SX.Ent.go
      ·refine S.c2 rfl (GtoldV_spec u 0 8 M1 _ (hu.mono hl1)) ?_
       rintro _ _ ⟨a5,c5,rfl,rfl⟩
       refine Q.r ?_;(repeat (intro b1;refine Q.r ?_))
       refine Q.rd ?_;(repeat (intro b1;refine Q.rd ?_))
       refine Q.r ?_;(repeat (intro b1;refine Q.r ?_))
       refine N.r1 (by apply RV.cellN;rfl;exact RdC.row;rfl;exact RV.nil) (Ent.trans (M := pt b1 (cl cn.cells 52) :: slO 54 17 a3 (toldV u.2.abs cn.stamp 0).length c3 ((toldV u.2.abs cn.stamp 0).flatMap mcells) :: slO 52 16 (some ⟨bg,0,none⟩) 1 1 (goneN u.2.txn).nv.cells :: slO 54 17 a5 (toldV u.2.abs 0 8).length c5 ((toldV u.2.abs 0 8).flatMap mcells) :: gP p j mt md :: gT mt ts :: oneT u :: trsH (ts.eraseIdx k) :: gD md j.done :: roM M1 :: L) (by exact Go.SX.Ent.go) (Ent.trans (Ent.cons (Ent.cons (Ent.cons (Ent.cons (jdg_shut1 hk (hq.mono hl1)))))) (Ent.trans (slO_fold (sz := 16) (m := 1) rfl) ?_))) ⟨some ⟨b1,0,none⟩,1,[cn],none,0,[],a3,c3,toldV u.2.abs cn.stamp 0,some ⟨bg,0,none⟩,1,[(goneN u.2.txn).nv],a5,c5,toldV u.2.abs 0 8,M1,rfl,hl1,⟨fun m hm => by rw [List.mem_singleton.1 hm];exact hcn,fun _ h => (by cases h),toldV_ok _ _ _,fun m hm => by rw [List.mem_singleton.1 hm];exact okN.nv _,toldV_ok _ _ _⟩,⟨hca1,rfl,hta,rfl,toldV_abs _ _ _⟩,rfl⟩
       show Ent _ (slO 52 16 (some ⟨b1,0,none⟩) 1 1 cn.cells :: slO 52 16 none 0 0 [] :: slO 54 17 a3 (toldV u.2.abs cn.stamp 0).length c3 ((toldV u.2.abs cn.stamp 0).flatMap mcells) :: slO 52 16 (some ⟨bg,0,none⟩) 1 1 (goneN u.2.txn).nv.cells :: slO 54 17 a5 (toldV u.2.abs 0 8).length c5 ((toldV u.2.abs 0 8).flatMap mcells) :: jdgH M1 p j :: roM M1 :: L)
       exact Go.SX.Ent.go
  ·rw [if_pos hl,decide_eq_false hl]
   refine Q.r ?_;(repeat (intro b1;refine Q.r ?_))
   refine N.r1 (by apply RV.cellN;rfl;exact RdC.row;rfl;exact RV.nil) (Ent.trans (M := pt b1 (cl (NA.nv { NA.zero with kind := 20,txn := n.txn,who := fr }).cells 52) :: gP p j mt md :: gT mt ts :: oneT u :: trsH (ts.eraseIdx k) :: gD md j.done :: roM M :: L) (by exact Go.SX.Ent.go) (Ent.trans (Ent.cons (jdg_shut1 hk hq)) (Ent.trans (slO_fold (sz := 16) (m := 1) rfl) ?_))) ⟨none,0,[],some ⟨b1,0,none⟩,1,[NA.nv { NA.zero with kind := 20,txn := n.txn,who := fr }],none,0,[],none,0,[],none,0,[],M,rfl,leM.refl M,⟨fun _ h => (by cases h),fun m hm => by rw [List.mem_singleton.1 hm];exact okN.nv _,fun _ h => (by cases h),fun _ h => (by cases h),fun _ h => (by cases h)⟩,⟨rfl,rfl,rfl,rfl,rfl⟩,rfl⟩
   show Ent _ (slO 52 16 none 0 0 [] :: slO 52 16 (some ⟨b1,0,none⟩) 1 1 (NA.nv { NA.zero with kind := 20,txn := n.txn,who := fr }).cells :: slO 54 17 none 0 0 [] :: slO 52 16 none 0 0 [] :: slO 54 17 none 0 0 [] :: jdgH M p j :: roM M :: L)
   exact Go.SX.Ent.go
end Go.Proofs.YtiampehfpgcogaaGreatDoor
namespace Go.Proofs.YtiampehfpgcogaaGreatDoor
open Go Go.SX
theorem nodup_le {l m : List Int} (h : l.Nodup) (hs : ∀ x ∈ l,x ∈ m) : l.length ≤ m.length := by
 induction l generalizing m with
 | nil => exact Nat.zero_le _
 | cons a l ih =>
  have h2 := List.nodup_cons.1 h
  have hm := hs a (List.mem_cons_self ..)
  have := ih (m := m.erase a) h2.2 (fun x hx => (List.mem_erase_of_ne (by rintro rfl;exact h2.1 hx)).2 (hs x (List.mem_cons_of_mem _ hx)))
  rw [List.length_erase_of_mem hm] at this
  have := List.length_pos_of_mem hm
  rw [List.length_cons];omega
structure OneT (j : JG) (Y : Int → Int → Prop) (D : List (Int × Int)) (x : Int) (t : TR) : Prop where
 xx : t.txn = x
 x1 : 1 ≤ x
 x2 : x ≤ j.seq
 r : Rise t.parts
 pb : ∀ q ∈ t.parts,1 ≤ q ∧ q ≤ 3
 yn : t.yes.Nodup
 ys : ∀ q ∈ t.yes,q ∈ t.parts ∧ Y x q
 st : 0 ≤ t.stamp
 d : t.stamp = 0 → lkL D x = none
 b : t.stamp = 0 → lkL j.done t.batch = none
structure GI (j : JG) (k : Nat) (Y : Int → Int → Prop) (D : List (Int × Int)) : Prop where
 e : j.epoch = 0
 sh : j.shards = 3
 s0 : 0 ≤ j.seq
 s1 : j.seq ≤ k
 l0 : 0 ≤ j.last
 l1 : j.last ≤ k
 kt : keysOK j.tr
 kd : keysOK j.done
 kD : keysOK D
 tx : ∀ x t,lkL j.tr x = some t → OneT j Y D x t
 dd : ∀ t s,lkL D t = some s → t ≤ j.seq ∧ s ≠ 0
 dp : ∀ t s,lkL j.done t = some s → s ≠ 0
 b1 : ∀ x t y u,lkL j.tr x = some t → lkL j.tr y = some u → t.stamp = 0 → u.stamp = 0 → t.batch = u.batch → x = y
theorem OneT.to {j j' : JG} {Y Y' : Int → Int → Prop} {D : List (Int × Int)} {x : Int} {t : TR} (h : OneT j Y D x t) (hs : j.seq ≤ j'.seq) (hd : j'.done = j.done) (hY : ∀ x q,Y x q → Y' x q) : OneT j' Y' D x t :=
 ⟨h.xx,h.x1,by have := h.x2;omega,h.r,h.pb,h.yn,fun q hq => ⟨(h.ys q hq).1,hY _ _ (h.ys q hq).2⟩,h.st,h.d,by rw [hd];exact h.b⟩
theorem GI.put {j : JG} {k : Nat} {Y : Int → Int → Prop} {D : List (Int × Int)} (h : GI j k Y D) {x : Int} {t t' : TR} (ht : lkL j.tr x = some t) (h' : OneT j Y D x t') (hb : t'.batch = t.batch) (hs : t'.stamp = t.stamp) : GI { j with tr := putL j.tr x t' } k Y D := by
 have hl : ∀ y u,lkL (putL j.tr x t') y = some u → (y = x ∧ u = t') ∨ (y ≠ x ∧ lkL j.tr y = some u) := by
  intro y u hu
  rw [lkL_put h.kt] at hu
  by_cases hy : y = x
  ·rw [if_pos hy] at hu;exact .inl ⟨hy,by injection hu with hu;exact hu.symm⟩
  ·rw [if_neg hy] at hu;exact .inr ⟨hy,hu⟩
 refine ⟨h.e,h.sh,h.s0,h.s1,h.l0,h.l1,putL_ok h.kt _ _,h.kd,h.kD,fun y u hu => ?_,h.dd,h.dp,fun y u z v hu hv e1 e2 e3 => ?_⟩
 ·rcases hl y u hu with ⟨rfl,rfl⟩ | ⟨_,hu⟩
  ·exact h'.to (Int.le_refl _) rfl fun _ _ h => h
  ·exact (h.tx y u hu).to (Int.le_refl _) rfl fun _ _ h => h
 ·rcases hl y u hu with ⟨rfl,rfl⟩ | ⟨_,hu'⟩ <;> rcases hl z v hv with ⟨rfl,rfl⟩ | ⟨_,hv'⟩
  ·rfl
  ·exact h.b1 _ _ _ _ ht hv' (by omega) e2 (by rw [← hb];exact e3)
  ·exact h.b1 _ _ _ _ hu' ht e1 (by omega) (by rw [← hb];exact e3)
  ·exact h.b1 _ _ _ _ hu' hv' e1 e2 e3
theorem right_opsG {n : NA} (h : rightN n = true) : n.ops.any badOp = false ∧ n.ops.length ≤ 16 := by
 unfold rightN boundN at h
 simp only [Bool.and_eq_true,Bool.not_eq_true',Bool.or_eq_false_iff,decide_eq_false_iff_not] at h
 exact ⟨h.2.1.2,by omega⟩
def MO (n : NA) (D : List (Int × Int)) (ms : List (Int × NA)) : Prop := ∀ m ∈ ms,m.2.kind = 5 → n.kind = 7 ∨ lkL D m.2.txn = none
theorem MO.nil {n : NA} {D : List (Int × Int)} : MO n D [] := fun _ h => by cases h
structure NZ (r : NA) : Prop where
 t0 : 0 ≤ r.txn
 t1 : r.txn < 18446744073709551616
 s : 0 ≤ r.stamp
 m : 0 ≤ r.mark
 a : 0 ≤ r.after
inductive OnceC (j : JG) (k : Nat) (Y : Int → Int → Prop) (D : List (Int × Int)) (n : NA) (pl : PG) : Prop
 | a (h1 : pl.rec_ = []) (h2 : pl.notes = []) (h3 : MO n D pl.mail) (h4 : GI j (k + 1) Y D)
 | b (r : NA) (hz : NZ r) (h1 : pl.rec_ = []) (h2 : pl.notes = [r]) (h3 : MO n D pl.mail) (hr : r.kind = 19 ∨ r.kind = 20 ∨ r.kind = 21 ∨ r.kind = 22) (h4 : appGE j r = 0) (h5 : r.kind = 22 → lkL D r.txn = none) (h6 : GI (appG j r) (k + 1) Y D) (h7 : (appG j r).done = j.done) (h8 : (appG j r).last = j.last)
 | c (r : NA) (hz : NZ r) (h1 : pl.rec_ = [r]) (h2 : pl.notes = []) (h3 : pl.mail = []) (hr : r.kind = 18) (h4 : appGE j r = 0) (h6 : GI (appG j r) (k + 1) Y D) (h7 : (appG j r).done = j.done) (h8 : (appG j r).last = j.last)
 | d (r : NA) (hz : NZ r) (h1 : pl.rec_ = [r]) (h2 : pl.notes = []) (hr : r.kind = 17) (h3 : ∀ m ∈ pl.mail,m.2.kind = 5 → m.2.txn = r.txn ∧ m.2.stamp = r.stamp ∧ m.2.code = 0) (h4 : appGE j r = 0) (h5 : lkL D r.txn = none) (h6 : r.stamp = j.last + 1) (h7 : lkL j.done r.batch = none)
   (h8 : ∀ q ∈ r.parts,Y r.txn q) (h9 : GI (appG j r) (k + 1) Y (putL D r.txn r.stamp)) (ha : (appG j r).done = putL j.done r.batch r.stamp) (hb : (appG j r).last = r.stamp)
end Go.Proofs.YtiampehfpgcogaaGreatDoor
namespace Go.Proofs.YtiampehfpgcogaaGreatDoor
open Go Go.SX
attribute [local irreducible] swp opsS thenS blockS retS CallsS St Ent YieldS anyS drawS
theorem RdS.own {L : List HP} {t sz m c : Nat} {a : Option Addr} {cs : List Value} {L' : HP → List HP} [h : UpdS a L t sz m c cs L'] (ha : m = 0 ∨ ∃ b,a = some ⟨b,0,none⟩) (hl : cs.length = m * sz) : RdS L a m sz cs := by
 refine ⟨hl,ha.imp id ?_⟩
 rintro ⟨b,rfl⟩
 obtain ⟨R,p1,_⟩ := h.at_
 exact ⟨b,0,rfl,RdC.slO (t := t) (sz := sz) (m := m) (c := c) ⟨R,Ent.perm p1⟩⟩
def dedG (s : Int) (ids : List Int) : List Int := ids.foldl (fun l o => if homeP s o ∈ l then l else l ++ [homeP s o]) []
theorem dedG_snoc (s : Int) (ids : List Int) (o : Int) : dedG s (ids ++ [o]) = if homeP s o ∈ dedG s ids then dedG s ids else dedG s ids ++ [homeP s o] := by
 unfold dedG;rw [List.foldl_append];rfl
theorem dedG_ok {s : Int} (h1 : 1 ≤ s) (ids : List Int) : (dedG s ids).Nodup ∧ ∀ x ∈ dedG s ids,1 ≤ x ∧ x ≤ s := by
 have key : ∀ (ids l : List Int),(l.Nodup ∧ ∀ x ∈ l,1 ≤ x ∧ x ≤ s) → (ids.foldl (fun l o => if homeP s o ∈ l then l else l ++ [homeP s o]) l).Nodup ∧ ∀ x ∈ ids.foldl (fun l o => if homeP s o ∈ l then l else l ++ [homeP s o]) l,1 ≤ x ∧ x ≤ s := by
  intro ids
  induction ids with
  | nil => exact fun l h => h
  | cons o ids ih =>
   intro l h
   rw [List.foldl_cons]
   refine ih _ ?_
   split
   ·exact h
   ·rename_i hm
    refine ⟨List.nodup_append.2 ⟨h.1,by simp,fun x hx y hy => by rw [List.mem_singleton] at hy;subst hy;rintro rfl;exact hm hx⟩,fun x hx => ?_⟩
    rcases List.mem_append.1 hx with hx | hx
    ·exact h.2 x hx
    ·rw [List.mem_singleton] at hx;subst hx
     have := homeV_b h1 o
     unfold homeP;omega
 exact key ids [] ⟨List.nodup_nil,fun _ h => by cases h⟩
theorem putI_perm (l : List Int) (n : Int) : (putI l n).Perm (n :: l) := by
 unfold putI
 refine List.perm_middle.trans (List.Perm.cons _ ?_)
 rw [List.takeWhile_append_dropWhile]
theorem partsG_ded {s : Int} (h1 : 1 ≤ s) (ops : VL) : sortL (dedG s (ops.map (·.1))) = partsG s ops := by
 have key : ∀ (ops : VL) (l l' : List Int),l'.Perm l → (ops.foldl (fun l o => if homeP s o.1 ∈ l then l else putI l (homeP s o.1)) l').Perm ((ops.map (·.1)).foldl (fun l o => if homeP s o ∈ l then l else l ++ [homeP s o]) l) := by
  intro ops
  induction ops with
  | nil => exact fun l l' h => h
  | cons o ops ih =>
   intro l l' h
   rw [List.map_cons,List.foldl_cons,List.foldl_cons]
   refine ih _ _ ?_
   by_cases hm : homeP s o.1 ∈ l
   ·rw [if_pos hm,if_pos (h.mem_iff.2 hm)];exact h
   ·rw [if_neg hm,if_neg (fun x => hm (h.mem_iff.1 x))]
    exact (putI_perm _ _).trans ((h.cons _).trans (List.perm_append_singleton _ _).symm)
 refine sorted_uniq ((sortL_perm _).trans (key ops [] [] (List.Perm.refl _)).symm) (sortL_sorted _) ?_
 exact (partsG_ok h1 ops).1.imp fun h => Int.le_of_lt h
theorem dedG_len {s : Int} (h1 : 1 ≤ s) (h2 : s ≤ 4) (ids : List Int) : (dedG s ids).length ≤ 4 := by
 have h := dedG_ok h1 ids
 have := nodup_le (l := dedG s ids) (m := [1,2,3,4]) h.1 (fun x hx => by
  have := h.2 x hx
  have : x = 1 ∨ x = 2 ∨ x = 3 ∨ x = 4 := by omega
  simpa using this)
 simpa using this
theorem Gparts_spec (p : Nat) (j : JG) (mt md : Nat) (a : Option Addr) (c : Nat) (ops : List OV) (A : List HP) (h : RdS A a ops.length 2 (ops.flatMap OV.cells)) (hn : ops.length ≤ 1000000) (s1 : 1 ≤ j.shards) (s2 : j.shards ≤ 4) :
  CallsS Tryz.prog 98 [ptrG p,.slice a ops.length c] (gP p j mt md :: A) (fun r L' => ∃ a' c',r = .slice a' (partsG j.shards (ops.map OV.abs)).length c' ∧ L' = slO 3 1 a' (partsG j.shards (ops.map OV.abs)).length c' ((partsG j.shards (ops.map OV.abs)).map I64) :: gP p j mt md :: A) := by
 refine CallsS.of_body Tryz.func98 rfl rfl rfl ?_
 refine Q.r ?_;(repeat (intro b1;refine Q.r ?_))
 refine swp_loop (σ := Nat × Option Addr × Nat × List Int) (fun s => [(0,ptrG p),(9,.slice a ops.length c),(10,.int .i64 ops.length),(5,.slice s.2.1 s.2.2.2.length s.2.2.1),(11,.int .i64 s.1)])
  (fun s => slO 3 1 s.2.1 s.2.2.2.length s.2.2.1 (s.2.2.2.map I64) :: gP p j mt md :: A)
  (fun s => s.1 ≤ ops.length ∧ s.2.2.2 = dedG j.shards ((ops.take s.1).map (·.id))) (fun s => ops.length - s.1) (0,none,0,[]) ⟨rfl,rfl,rfl,rfl,rfl,trivial⟩ slO_nil ⟨by omega,rfl⟩ ?_
 rintro ⟨k,a3,c3,us⟩ ⟨hk,hus⟩
 dsimp only at hk hus ⊢
 have hul : us.length ≤ 4 := by rw [hus];exact dedG_len s1 s2 _
 by_cases hlt : k < ops.length
 ·obtain ⟨o,ho⟩ := mem_get hlt
  obtain ⟨b,oo,hia,hr⟩ := RdS.elem (g := OV.cells) (fun _ => rfl) (h.sub (L := slO 3 1 a3 us.length c3 (us.map I64) :: gP p j mt md :: A)) ho rfl
  rw [hia]
  refine Q.r ?_;(repeat (intro b1;refine Q.r ?_))
  refine S.c1 (A := gP p j mt md) rfl (Ghome_spec p j mt md o.id _ s1 s2) ?_
  rintro _ _ ⟨rfl,rfl⟩
  refine opsS_addr a3 (fun ha3 => ?_)
  refine Q.r ?_;(repeat (intro b1;refine Q.r ?_))
  refine S.cr rfl (ContainsP_spec a3 c3 us (homeP j.shards o.id) _ (RdS.own ha3 (by rw [List.length_map,Nat.mul_one])) (by omega)) ?_
  rintro _ _ ⟨rfl,rfl⟩
  have hnext : dedG j.shards ((ops.take (k + 1)).map (·.id)) = if homeP j.shards o.id ∈ us then us else us ++ [homeP j.shards o.id] := by
   rw [take_snoc ho,List.map_append,List.map_cons,List.map_nil,dedG_snoc,← hus]
  by_cases hm : homeP j.shards o.id ∈ us
  ·rw [decide_eq_true hm]
   rw [if_pos hm] at hnext
   refine Q.r ?_;(repeat (intro b1;refine Q.r ?_))
   refine ⟨(k + 1,a3,c3,us),⟨rfl,rfl,rfl,rfl,rfl,trivial⟩,by exact Go.SX.Ent.go,⟨by dsimp only;omega,hnext.symm⟩,by dsimp only;omega⟩
  ·rw [decide_eq_false hm]
   rw [if_neg hm] at hnext
   refine Q.r ?_;(repeat (intro b1;refine Q.r ?_))
   refine S.app rfl rfl (SrcS.sl RdC.row (by rfl) (by rfl)) (by rfl) (by omega) (by omega) (fun a7 c7 => ?_)
   refine Q.r ?_;(repeat (intro b1;refine Q.r ?_))
   refine ⟨(k + 1,a7,c7,us ++ [homeP j.shards o.id]),⟨rfl,rfl,rfl,congrArg some (by simp),rfl,trivial⟩,?_,⟨by dsimp only;omega,hnext.symm⟩,by dsimp only;omega⟩
   dsimp only
   rw [List.length_append,List.length_singleton,List.map_append,List.map_cons,List.map_nil]
   exact Go.SX.Ent.go
 ·have hke : k = ops.length := by omega
  subst hke
  rw [List.take_length] at hus
  refine Q.r ?_;(repeat (intro b1;refine Q.r ?_))
  refine S.c1 (A := slO 3 1 a3 us.length c3 (us.map I64)) rfl (SortI_spec a3 us.length c3 us _ rfl (by omega)) ?_
  rintro _ _ ⟨rfl,rfl⟩
  have hx : partsG j.shards (ops.map OV.abs) = sortL us := by
   rw [hus,← partsG_ded s1,List.map_map];rfl
  rw [hx,sortL_len]
  refine Q.r ?_;(repeat (intro b1;refine Q.r ?_))
  exact N.r1 (RV.tmp rfl RV.nil) (Ent.refl _) ⟨a3,c3,rfl,rfl⟩
theorem Gprepare_spec (p : Nat) (j : JG) (mt md : Nat) (t : Nat × TV) (q : Int) (M : Nat → Option Obj) (L : List HP) (ht : okT M t.2) (s1 : 1 ≤ j.shards) (s2 : j.shards ≤ 4) :
  CallsS Tryz.prog 99 [ptrG p,ptT t,.int .i64 q] (gP p j mt md :: oneT t :: roM M :: L) (fun r L' => ∃ (m : NV) (M' : Nat → Option Obj),r = .agg (mcells (q,m)).toArray ∧ leM M M' ∧ okN M' m ∧ (q,m.abs) = prepM j.shards t.2.abs q ∧ L' = gP p j mt md :: oneT t :: roM M' :: L) := by
 refine CallsS.of_body Tryz.func99 rfl rfl rfl ?_
 have hol := ht.ol
 have hpl := ht.pl
 refine Q.r ?_;(repeat (intro b1;refine Q.r ?_))
 revert b1
 intro b6
 refine swp_loop (σ := Nat × Option Addr × Nat × List OV) (fun s => [(0,ptrG p),(1,ptT t),(2,.int .i64 q),(6,.pointer (some ⟨b6,0,none⟩)),(13,.slice t.2.oa t.2.ops.length t.2.oc),(14,.int .i64 t.2.ops.length),(7,.slice s.2.1 s.2.2.2.length s.2.2.1),(15,.int .i64 s.1)])
  (fun s => slO 77 2 s.2.1 s.2.2.2.length s.2.2.1 (s.2.2.2.flatMap OV.cells) :: pt b6 (cl (mcells (0,NA.zero.nv)) 54) :: gP p j mt md :: oneT t :: roM M :: L)
  (fun s => s.1 ≤ t.2.ops.length ∧ s.2.2.2 = (t.2.ops.take s.1).filter fun o => decide (homeP j.shards o.id = q)) (fun s => t.2.ops.length - s.1) (0,none,0,[]) ⟨rfl,rfl,rfl,rfl,rfl,rfl,rfl,rfl,trivial⟩ slO_nil ⟨by omega,rfl⟩ ?_
 rintro ⟨k,a3,c3,us⟩ ⟨hk,hus⟩
 dsimp only at hk hus ⊢
 have hul : us.length ≤ t.2.ops.length := by
  rw [hus];exact Nat.le_trans (List.length_filter_le _ _) (by rw [List.length_take];omega)
 by_cases hlt : k < t.2.ops.length
 ·obtain ⟨o,ho⟩ := mem_get hlt
  obtain ⟨b,oo,hia,cr⟩ := SlM.cm (g := OV.cells) (fun _ => rfl) ht.o ho rfl
  rw [hia]
  refine Q.r ?_;(repeat (intro b1;refine Q.r ?_))
  refine S.c1 (A := gP p j mt md) rfl (Ghome_spec p j mt md o.id _ s1 s2) ?_
  rintro _ _ ⟨rfl,rfl⟩
  have hnext : (t.2.ops.take (k + 1)).filter (fun o => decide (homeP j.shards o.id = q)) = us ++ if homeP j.shards o.id = q then [o] else [] := by
   rw [take_snoc ho,List.filter_append,← hus,List.filter_cons,List.filter_nil]
   by_cases hm : homeP j.shards o.id = q
   ·rw [decide_eq_true hm,if_pos hm];rfl
   ·rw [decide_eq_false hm,if_neg hm];rfl
  by_cases hm : homeP j.shards o.id = q
  ·rw [if_pos hm] at hnext
   refine Q.r ?_;(repeat (intro b1;refine Q.r ?_))
   refine S.app rfl rfl (SrcS.sl RdC.row (by rfl) (by rfl)) (by rfl) (by omega) (by omega) (fun a7 c7 => ?_)
   refine Q.r ?_;(repeat (intro b1;refine Q.r ?_))
   refine ⟨(k + 1,a7,c7,us ++ [o]),⟨rfl,rfl,rfl,rfl,rfl,rfl,congrArg some (by simp),rfl,trivial⟩,?_,⟨by dsimp only;omega,hnext.symm⟩,by dsimp only;omega⟩
   dsimp only
   rw [len_snoc,flat_snoc]
   exact Go.SX.Ent.go
  ·rw [if_neg hm,List.append_nil] at hnext
   refine Q.r ?_;(repeat (intro b1;refine Q.r ?_))
   refine ⟨(k + 1,a3,c3,us),⟨rfl,rfl,rfl,rfl,rfl,rfl,rfl,rfl,trivial⟩,by exact Go.SX.Ent.go,⟨by dsimp only;omega,hnext.symm⟩,by dsimp only;omega⟩
 ·have hke : k = t.2.ops.length := by omega
  subst hke
  rw [List.take_length] at hus
  refine Q.r ?_;(repeat (intro b1;refine Q.r ?_))
  refine swp_abs a3 (fun M1 hl1 hs1 => ?_)
  have ht1 := ht.mono hl1
  refine Q.dgo [false,false,false,true] [16,20] [] [0,1,2,3,4,5,6,7,8,9,10,11,12,13,14,15,17,16,18,19,20] ?_
  refine Q.rd ?_;(repeat (intro b1;refine Q.rd ?_))
  refine D.e rfl rfl rfl ?_
  refine S.cr rfl (CloneP_spec t.2.pa t.2.pc t.2.parts _ ht1.p.rd hpl) ?_
  rintro _ _ ⟨ca,cc,rfl,rfl⟩
  refine opsS_abs ca (fun M2 hl2 hs2 => ?_)
  refine Q.r ?_;(repeat (intro b1;refine Q.r ?_))
  refine Q.rd ?_;(repeat (intro b1;refine Q.rd ?_))
  refine Q.r ?_;(repeat (intro b1;refine Q.r ?_))
  refine N.r1 (by apply RV.cellN;rfl;exact RdC.row;rfl;exact RV.nil) ?_ ⟨⟨3,t.2.txn,0,0,t.2.after,0,0,0,0,0,0,0,ca,cc,t.2.parts,a3,c3,us,none,0,[],none,0,[]⟩,M2,rfl,hl1.trans hl2,⟨hs2,⟨hs1.mono hl2,fun o ho => ?_⟩,SlM.nil0,SlM.nil0,fun o ho => by cases ho⟩,?_,rfl⟩
  ·exact Go.SX.Ent.go
  ·rw [hus] at ho
   exact (ht1.mono hl2).ov o (List.mem_filter.1 ho).1
  ·rw [hus]
   show (q,_) = (q,_)
   refine congrArg (Prod.mk q) ?_
   show NA.mk _ _ _ _ _ _ _ _ _ _ _ _ _ _ _ _ = NA.mk _ _ _ _ _ _ _ _ _ _ _ _ _ _ _ _
   rw [List.filter_map];rfl
end Go.Proofs.YtiampehfpgcogaaGreatDoor
namespace Go.SX
open Go
section
variable {P : Program} {n : Nat} {ops : List Oper} {Q : Post} {f : Env} {A L : List HP} {E cs σ : List Nat} {listed : Array Bool}
theorem one_ofA {i : Nat} {o : Oper} {F : List HP} {a : Act} {w : World} {k : Nat} (hi : ops[i]? = some o) (ok : okOps n ops = true) (s : Sim n a f) (t : St w (L ++ (A ++ F))) (hsh : shut ops.toArray (listed.setIfInBounds i true))
    (h : oneS P n ops o (fun f L2 => ∃ L', Ent L2 (L' ++ A) ∧ anyS P n ops Q cs A k (listed.setIfInBounds i true) true f L') f (L ++ A)) :
    wpOp P ops.toArray (lift n F Q) i (fun a w => until_ cs (fun w => ∃ L, St w (L ++ (A ++ F))) (listed.setIfInBounds i true) w ∧ anyI P ops.toArray (lift n F Q) (until_ cs fun w => ∃ L, St w (L ++ (A ++ F))) k (listed.setIfInBounds i true) a w) a w := by
  have h2 := h (by simpa [okOps] using okOps_at ok hi) F a w s (by simpa using t)
  simp only [wpList] at h2
  unfold wpOp
  have hi' : ops.toArray[i]? = some o := by simpa using hi
  simp only [hi']
  have key : ∀ a w, lift n F (fun e f L2 => match e with | .normal => ∃ L', Ent L2 (L' ++ A) ∧ anyS P n ops Q cs A k (listed.setIfInBounds i true) true f L' | _ => False) .normal a w →
      until_ cs (fun w => ∃ L, St w (L ++ (A ++ F))) (listed.setIfInBounds i true) w ∧ anyI P ops.toArray (lift n F Q) (until_ cs fun w => ∃ L, St w (L ++ (A ++ F))) k (listed.setIfInBounds i true) a w := by
    rintro a w ⟨f, L2, s, t, L', he, q⟩
    have t3 := he w F t
    exact ⟨.inr ⟨L', by simpa using t3⟩, q ok F a w s hsh (by simpa using t3) (fun h => by cases h)⟩
  by_cases hw : Region.wanted o (yielded ops.toArray a.tmps) = true
  · rw [if_pos hw] at h2 ⊢
    refine .inl ?_
    rcases h2 with h2 | ⟨_, a', w', f, L, _, _, q⟩
    · unfold Oper.wp at h2 ⊢
      generalize (execOp a.eval o).run P w = r at *
      cases r with
      | ok m w' =>
        cases m <;> simp only [Oper.upon] at h2 ⊢ <;> first
          | exact key _ _ h2
          | exact h2
          | (refine Calls.mono h2 fun e w'' he => ?_
             cases e with
             | returned u => exact key _ _ he
             | panicked c => obtain ⟨_, _, _, _, q⟩ := he; exact q.elim
             | outgrown => obtain ⟨_, _, _, _, _, _, q⟩ := he; exact q.elim)
          | exact Rows.mono h2 fun _ _ he => key _ _ he
      | halt x w' => cases x <;> simp only [Oper.upon] at h2 ⊢ <;> first | exact h2 | (obtain ⟨_, _, _, _, q⟩ := h2; exact q.elim)
    · exact q.elim
  · rw [if_neg hw] at h2 ⊢
    exact key _ _ h2
theorem A.oneA (i : Nat) {k : Nat} {o : Oper} (hr : Region.ready .any ops.toArray listed = [i]) (hi : ops[i]? = some o)
  (h : oneS P n ops o (fun f L2 => ∃ L',Ent L2 (L' ++ A) ∧ anyS P n ops Q cs A k (listed.setIfInBounds i true) true f L') f (L ++ A)) : anyS P n ops Q cs A (k + 1) listed true f L := by
 intro ok F a w s hsh t hh
 refine ⟨fun h0 => (by rw [h0] at hr;cases hr),fun j hj => ?_⟩
 have hri : i ∈ Region.ready .any ops.toArray listed := by rw [hr];simp
 rw [hr] at hj
 obtain rfl : j = i := by simpa using hj
 exact one_ofA hi ok s (by simpa using t) (hsh.set hri) h
class AppL (A L : List HP) (L2 : outParam (List HP)) : Prop where
 eq : A ++ L = L2
instance AppL.nil {L : List HP} : AppL [] L L := ⟨rfl⟩
instance AppL.cons {x : HP} {A L L2 : List HP} [h : AppL A L L2] : AppL (x :: A) L (x :: L2) := ⟨congrArg (List.cons x) h.eq⟩
theorem D.ea {i : Nat} {o : Oper} {L2 : List HP} [hL : AppL A L L2] (hi : ops[i]? = some o) (h9 : Nat.beq i 99999 = false) (hE : E.contains i = true)
  (h : opsS P n ops [o] (thenS (fun f L2 => ∃ L',Ent L2 (A ++ L') ∧ drawS P n ops E cs A σ Q (listed.setIfInBounds i true) true f L') (fun _ _ _ => False)) f L2) : drawS P n ops E cs A (i :: σ) Q listed true f L := by
 intro ho hs hQ
 simp only [ordOK,h9,hE,cond_true,cond_false,Bool.and_eq_true,beq_iff_eq] at ho
 refine _root_.Go.SX.A.oneA i ho.1 hi (opsS_ent (Ent.perm (List.perm_append_comm.trans (hL.eq ▸ List.Perm.refl _))) fun ok F a w s t => wpList_mono (h ok F a w s t) ?_)
 rintro e a w ⟨f,L,s,t,q⟩
 cases e <;> first | exact q.elim | (obtain ⟨L',he,q⟩ := q;exact ⟨f,L,s,t,L',he.trans (Ent.perm List.perm_append_comm),q ho.2 hs hQ⟩)
class PickL (A L : List HP) (L' : outParam (List HP)) : Prop where
 ent : Ent L (A ++ L')
instance PickL.nil {L : List HP} : PickL [] L L := ⟨Ent.refl _⟩
instance PickL.cons {x : HP} {A L L1 L' : List HP} [h1 : Pick x L L1] [h2 : PickL A L1 L'] : PickL (x :: A) L L' := ⟨h1.ent.trans h2.ent.cons⟩
theorem D.back {L' : List HP} [h : PickL A L L'] (hk : drawS P n ops E cs A σ Q listed true f L') : ∃ L',Ent L (A ++ L') ∧ drawS P n ops E cs A σ Q listed true f L' := ⟨L',h.ent,hk⟩
end
end Go.SX
namespace Go.Proofs.YtiampehfpgcogaaGreatDoor
open Go Go.SX
attribute [local irreducible] swp opsS thenS blockS retS CallsS St Ent YieldS anyS drawS
structure JB (j : JG) : Prop where
 e0 : 0 ≤ j.epoch
 e1 : j.epoch ≤ 1099511627776
 s0 : 0 ≤ j.seq
 s1 : j.seq < 1048576
 l0 : 0 ≤ j.last
 l1 : j.last ≤ 1099511627776
 d1 : 1 ≤ j.dim
 d2 : j.dim ≤ 8
abbrev eP : HP := slO 52 16 none 0 0 []
abbrev askT (j : JG) (fr : Int) (n : NV) (pa : Option Addr) (pc : Nat) : TV := ⟨j.epoch * 1048576 + j.seq + 1,n.batch,0,j.last,fr,pa,pc,partsG j.shards (n.ops.map OV.abs),none,0,[],none,0,[],n.oa,n.oc,n.ops⟩
abbrev askN (j : JG) (fr : Int) (n : NV) (pa : Option Addr) (pc : Nat) : NV := ⟨19,j.epoch * 1048576 + j.seq + 1,n.batch,0,j.last,0,0,0,0,0,0,fr,pa,pc,partsG j.shards (n.ops.map OV.abs),n.oa,n.oc,n.ops,none,0,[],none,0,[]⟩
abbrev eMl : HP := slO 54 17 none 0 0 []
theorem gr_mail (M : Nat → Option Obj) (p : Nat) (j : JG) (L : List HP) (m : Int × NA) (hm : m.2.nv.abs = m.2) (b : Nat) : planGR0 M p j ⟨[],[],[m],[],[]⟩ L (.agg #[.slice none 0 0,.slice none 0 0,.slice (some ⟨b,0,none⟩) 1 1,.slice none 0 0,.slice none 0 0])
  (eP :: eP :: slO 54 17 (some ⟨b,0,none⟩) 1 1 (mailC m) :: eP :: eMl :: jdgH M p j :: roM M :: L) :=
 ⟨none,0,[],none,0,[],some ⟨b,0,none⟩,1,[(m.1,m.2.nv)],none,0,[],none,0,[],M,rfl,leM.refl M,⟨fun _ h => (by cases h),fun _ h => (by cases h),fun m hm => (by rw [List.mem_singleton.1 hm];exact okN.nv _),fun _ h => (by cases h),fun _ h => (by cases h)⟩,⟨rfl,rfl,congrArg (fun z => [(m.1,z)]) hm,rfl,rfl⟩,by simp⟩
theorem gr_ent {M : Nat → Option Obj} {p mt md b : Nat} {j : JG} {ts : List TB} {L : List HP} {m : Int × NA} (hq : GQ' M j ts) : Ent (pt b (cl (mailC m) 54) :: gP p j mt md :: gT mt ts :: trsH ts :: gD md j.done :: roM M :: L) (eP :: eP :: slO 54 17 (some ⟨b,0,none⟩) 1 1 (mailC m) :: eP :: eMl :: jdgH M p j :: roM M :: L) := by
 refine Ent.trans (Ent.cons (jdg_shut hq)) (Ent.trans (slO_fold (sz := 17) (m := 1) rfl) ?_)
 exact Go.SX.Ent.go
set_option maxHeartbeats 4000000 in
theorem Gask_spec (n : NV) (M : Nat → Option Obj) (p : Nat) (j : JG) (fr : Int) (L : List HP) (hb : JB j) (hn : okN M n) (hN : OkN n) :
  CallsS Tryz.prog 44 [ptrG p,.int .i64 fr,n.val] (jdgH M p j :: roM M :: L) (planGR0 M p j (askG j fr n.abs) L) := by
 unfold askG
 refine calls_jdg fun mt md ts hq => ?_
 refine CallsS.of_body Tryz.func44 rfl rfl rfl ?_
 refine Q.r ?_;(repeat (intro b1;refine Q.r ?_))
 rename_i b5
 revert b1
 intro b6
 refine Q.dgo [true,true,true,true,true,true,true] [] [] [0,1,2,3,4,5,6,7,8,9,10,11] ?_
 refine Q.rd ?_;(repeat (intro b1;refine Q.rd ?_))
 refine D.y rfl rfl rfl (by kernel_rfl) (Y.lk true rfl rfl (fun w => Tryz.zeroValue29 w)) ?_
 cases hz : lkL j.done n.batch with
 | some s =>
  dsimp only
  refine Q.rd ?_;(repeat (intro b1;refine Q.rd ?_))
  refine Q.r ?_;(repeat (intro b1;refine Q.r ?_))
  refine S.cr rfl (Greply_spec fr n.batch s 0 _) ?_
  rintro _ _ ⟨rfl,rfl⟩
  refine Q.r ?_;(repeat (intro b1;refine Q.r ?_))
  refine N.r1 (by apply RV.cellN;rfl;exact RdC.row;rfl;exact RV.nil) (Ent.trans (M := pt b1 (cl (mailC (repM fr n.batch s 0)) 54) :: gP p j mt md :: gT mt ts :: trsH ts :: gD md j.done :: roM M :: L) (by exact Go.SX.Ent.go) (gr_ent hq)) (gr_mail M p j L (repM fr n.batch s 0) rfl b1)
 | none =>
  dsimp only
  refine Q.rd ?_;(repeat (intro b1;refine Q.rd ?_))
  refine Q.r ?_;(repeat (intro b1;refine Q.r ?_))
  refine S.rg rfl (fun r => ?_)
  refine Q.r ?_;(repeat (intro b1;refine Q.r ?_))
  refine swp_cutB (σ := Unit) (fun _ => [(0,ptrG p),(1,.int .i64 fr),(5,.pointer (some ⟨b5,0,none⟩)),(6,.pointer (some ⟨b6,0,none⟩))])
   (fun _ => pt b6 (cl [.slice none 0 0,.slice none 0 0,.slice none 0 0,.slice none 0 0,.slice none 0 0] 50) :: pt b5 (cl n.cells 52) :: gP p j mt md :: gT mt ts :: trsH ts :: gD md j.done :: roM M :: L) (fun _ => ¬ j.tr.any (fun u => decide (u.2.batch = n.batch)) = true) ?_ ?_
  ·refine swp_loop (σ := List Nat) (fun _ => [(0,ptrG p),(1,.int .i64 fr),(5,.pointer (some ⟨b5,0,none⟩)),(6,.pointer (some ⟨b6,0,none⟩)),(38,.pointer (some ⟨r,0,none⟩))])
    (fun vis => itO U64 ptT mt r ts vis :: pt b6 (cl [.slice none 0 0,.slice none 0 0,.slice none 0 0,.slice none 0 0,.slice none 0 0] 50) :: pt b5 (cl n.cells 52) :: gP p j mt md :: trsH ts :: gD md j.done :: roM M :: L)
    (fun vis => vis.Nodup ∧ (∀ i ∈ vis,i < ts.length) ∧ ∀ i ∈ vis,∀ u : TB,ts[i]? = some u → u.2.2.batch ≠ n.batch) (fun vis => ts.length - vis.length) [] ⟨rfl,rfl,rfl,rfl,rfl,trivial⟩ (by exact Go.SX.Ent.go) ⟨by simp,by simp,by simp⟩ ?_
   rintro vis ⟨hv1,hv2,hv3⟩
   refine Q.r ?_;(repeat (intro b1;refine Q.r ?_))
   refine S.nx rfl (fun hend => ?_) (fun i u hu hi => ?_)
   ·refine Q.r ?_;(repeat (intro b1;refine Q.r ?_))
    refine ⟨(),⟨rfl,rfl,rfl,rfl,trivial⟩,Ent.trans itO_map (by exact Go.SX.Ent.go),?_⟩
    rw [List.any_eq_true]
    rintro ⟨w,hw,hwb⟩
    rw [← hq.tr] at hw
    obtain ⟨u,hu,rfl⟩ := List.mem_map.1 hw
    obtain ⟨i,hi⟩ := List.mem_iff_getElem?.1 hu
    exact hv3 i (hend i (List.getElem?_eq_some_iff.1 hi).1) u hi (by simpa using hwb)
   ·obtain ⟨m1,m2,m3⟩ := vis_more hv1 hv2 (List.getElem?_eq_some_iff.1 hu).1 hi
    refine Q.r ?_;(repeat (intro b1;refine Q.r ?_))
    refine S.y (Y.en rfl hu) ?_
    refine Q.r ?_;(repeat (intro b1;refine Q.r ?_))
    refine swp_trs hu ?_
    by_cases hbb : u.2.2.batch = n.batch
    ·have hany : j.tr.any (fun u => decide (u.2.batch = n.abs.batch)) = true := by
      rw [List.any_eq_true,← hq.tr]
      exact ⟨_,List.mem_map.2 ⟨u,List.mem_of_getElem? hu,rfl⟩,by simpa using hbb⟩
     refine Q.dgo [true,true,true,true,true] [] [] [0,1,2,3,4,5,6,7] ?_
     refine Q.rd ?_;(repeat (intro b1;refine Q.rd ?_))
     refine Q.r ?_;(repeat (intro b1;refine Q.r ?_))
     rw [if_pos hany]
     refine N.r1 (by apply RV.cellN;rfl;exact RdC.row;rfl;exact RV.nil) (Ent.trans (M := itO U64 ptT mt r ts (vis ++ [i]) :: gP p j mt md :: oneT u.2 :: trsH (ts.eraseIdx i) :: gD md j.done :: roM M :: L) (by exact Go.SX.Ent.go) (Ent.trans itO_map (Ent.trans (Ent.trans (M := gP p j mt md :: gT mt ts :: oneT u.2 :: trsH (ts.eraseIdx i) :: gD md j.done :: roM M :: L) (by exact Go.SX.Ent.go) (jdg_shut1 hu hq)) nil5))) (planGR0.none M p j L)
    ·refine Q.dgo [true,true,true,true,true] [] [] [0,1,2,3,4,5,6,7] ?_
     refine Q.rd ?_;(repeat (intro b1;refine Q.rd ?_))
     refine Q.r ?_;(repeat (intro b1;refine Q.r ?_))
     refine ⟨vis ++ [i],⟨rfl,rfl,rfl,rfl,rfl,trivial⟩,Ent.trans (trs_back hu) (by exact Go.SX.Ent.go),⟨m1,m2,fun k hk w hw => ?_⟩,by simp;omega⟩
     rcases List.mem_append.1 hk with hk | hk
     ·exact hv3 k hk w hw
     ·rw [List.mem_singleton] at hk;subst hk
      rw [hu] at hw;injection hw with hw;subst hw;exact hbb
  ·rintro _ hany
   rw [if_neg hany]
   have hb1 := hb.d1
   have hb2 := hb.d2
   have hlt : j.tr.length = ts.length := by rw [← hq.tr,List.length_map]
   have e0 := hb.e0
   have e1 := hb.e1
   have q0 := hb.s0
   have q1 := hb.s1
   have l0 := hb.l0
   have l1 := hb.l1
   refine Q.r ?_;(repeat (intro b1;refine Q.r ?_))
   refine Q.dgo [false,true,true] [6] [] [0,1,2,3,4,5,6,7] ?_
   refine Q.rd ?_;(repeat (intro b1;refine Q.rd ?_))
   refine D.e rfl rfl rfl ?_
   refine S.cr rfl (Check_spec j.dim n.oa n.oc n.ops _ hn.rd.o hN.o hN.ov (by omega)) ?_
   rintro _ _ ⟨rfl,rfl⟩
   refine Q.r ?_;(repeat (intro b1;refine Q.r ?_))
   refine Q.rd ?_;(repeat (intro b1;refine Q.rd ?_))
   by_cases hc : checkV j.dim (n.ops.map OV.abs) = 0
   ·by_cases hf : 8 ≤ j.tr.length ∨ 1048575 ≤ j.seq ∨ 1099511627776 ≤ j.last
    ·have hE : askE j n.abs = 8 := by
      unfold askE
      rw [if_neg (fun h => h hc),if_pos hf]
     rw [if_pos (by rw [hE];decide),hE,hc]
     rw [hlt] at hf
     refine N.tn ?_
     refine swp_seq ?_
     refine swp_cutT (σ := Unit) (fun _ => [(0,ptrG p),(1,.int .i64 fr),(5,.pointer (some ⟨b5,0,none⟩)),(6,.pointer (some ⟨b6,0,none⟩)),(11,.int .i64 8)])
      (fun _ => pt b6 (cl [.slice none 0 0,.slice none 0 0,.slice none 0 0,.slice none 0 0,.slice none 0 0] 50) :: pt b5 (cl n.cells 52) :: gP p j mt md :: gT mt ts :: trsH ts :: gD md j.done :: roM M :: L) (fun _ => True) ?_ ?_
     ·by_cases h8 : 8 ≤ ts.length
      ·refine Q.r ?_;(repeat (intro b1;refine Q.r ?_))
       exact ⟨(),⟨rfl,rfl,rfl,rfl,rfl,trivial⟩,by exact Go.SX.Ent.go,trivial⟩
      by_cases h9 : 1048575 ≤ j.seq
      ·refine Q.r ?_;(repeat (intro b1;refine Q.r ?_))
       exact ⟨(),⟨rfl,rfl,rfl,rfl,rfl,trivial⟩,by exact Go.SX.Ent.go,trivial⟩
      have h10 : 1099511627776 ≤ j.last := by omega
      refine Q.r ?_;(repeat (intro b1;refine Q.r ?_))
      exact ⟨(),⟨rfl,rfl,rfl,rfl,rfl,trivial⟩,by exact Go.SX.Ent.go,trivial⟩
     ·rintro _ _
      refine Q.r ?_;(repeat (intro b1;refine Q.r ?_))
      refine S.cr rfl (Greply_spec fr n.batch 0 8 _) ?_
      rintro _ _ ⟨rfl,rfl⟩
      refine Q.r ?_;(repeat (intro b1;refine Q.r ?_))
      refine N.r1 (by apply RV.cellN;rfl;exact RdC.row;rfl;exact RV.nil) (Ent.trans (M := pt b1 (cl (mailC (repM fr n.batch 0 8)) 54) :: gP p j mt md :: gT mt ts :: trsH ts :: gD md j.done :: roM M :: L) (by exact Go.SX.Ent.go) (gr_ent hq)) (gr_mail M p j L (repM fr n.batch 0 8) rfl b1)
    ·have hE : askE j n.abs = 0 := by
      unfold askE
      rw [if_neg (fun h => h hc),if_neg hf]
     rw [if_neg (fun h => h hE),hc]
     rw [hlt] at hf
     have h8 : ¬ 8 ≤ ts.length := fun h => hf (.inl h)
     have h9 : ¬ 1048575 ≤ j.seq := fun h => hf (.inr (.inl h))
     have h10 : ¬ 1099511627776 ≤ j.last := fun h => hf (.inr (.inr h))
     have wz : ∀ a : Int,0 ≤ a → a < 18446744073709551616 → IntKind.u64.wrap a = a := fun a h1 h2 => wrap_u64 h1 (by omega)
     refine Q.r ?_;(repeat (intro b1;refine Q.r ?_))
     refine swp_cutT (σ := Nat × Option Addr × Nat × (Nat → Option Obj)) (fun s => [(0,ptrG p),(6,.pointer (some ⟨b6,0,none⟩)),(12,.pointer (some ⟨s.1,0,none⟩))])
      (fun s => oneT (s.1,askT j fr n s.2.1 s.2.2.1) :: pt b6 (cl [.slice none 0 0,.slice none 0 0,.slice none 0 0,.slice none 0 0,.slice none 0 0] 50) :: gP p j mt md :: gT mt ts :: trsH ts :: gD md j.done :: roM s.2.2.2 :: L)
      (fun s => leM M s.2.2.2 ∧ SlM s.2.2.2 s.2.1 (partsG j.shards (n.ops.map OV.abs)).length 1 ((partsG j.shards (n.ops.map OV.abs)).map I64)) ?_ ?_
     ·refine Q.dgo [true,true] [21,26] [] [0,1,2,3,4,5,6,7,8,9,10,11,12,13,14,15,16,17,18,19,20,23,24,21,22,25,26,27] ?_
      refine Q.rd ?_;(repeat (intro b1;refine Q.rd ?_))
      refine D.y rfl rfl rfl (by kernel_rfl) (Y.shlI (b := 20) rfl rfl (by decide)) ?_
      rw [show j.epoch * 2 ^ 20 = j.epoch * 1048576 by omega,wz _ (by omega) (by omega)]
      refine Q.rd ?_;(repeat (intro b1;refine Q.rd ?_))
      refine D.y rfl rfl rfl (by kernel_rfl) (Y.add rfl rfl) ?_
      rw [wz _ (by omega) (by omega)]
      refine Q.rd ?_;(repeat (intro b1;refine Q.rd ?_))
      refine D.y rfl rfl rfl (by kernel_rfl) (Y.add rfl rfl) ?_
      rw [wz _ (by omega) (by omega)]
      refine Q.rd ?_;(repeat (intro b1;refine Q.rd ?_))
      refine D.ea rfl rfl rfl ?_
      refine S.c1 (A := gP p j mt md) rfl (Gparts_spec p j mt md n.oa n.oc n.ops _ (by exact hn.rd.o.1) hN.o hq.s1 hq.s2) ?_
      rintro _ _ ⟨pa,pc,rfl,rfl⟩
      refine opsS_abs pa (fun M1 hl1 hs1 => ?_)
      refine opsS_nil ?_;refine N.tn ?_;refine D.back ?_
      refine Q.rd ?_;(repeat (intro b1;refine Q.rd ?_))
      refine N.tn ⟨(b1,pa,pc,M1),⟨rfl,rfl,rfl,trivial⟩,?_,hl1,hs1⟩
      (try dsimp only);exact Go.SX.Ent.go
     ·rintro ⟨bt,pa,pc,M1⟩ ⟨hl1,hs1⟩
      dsimp only at hl1 hs1 ⊢
      have ht1 : okT M1 (askT j fr n pa pc) := ⟨hs1,SlM.nil0,SlM.nil0,(hn.mono hl1).o.1,(hn.mono hl1).o.2,by have := rise_len (partsG_ok hq.s1 (n.ops.map OV.abs)).1 (partsG_ok hq.s1 (n.ops.map OV.abs)).2 (by have := hq.s1;omega);have := hq.s2;show (partsG j.shards (n.ops.map OV.abs)).length ≤ _;omega,Nat.zero_le _,Nat.zero_le _,hN.o⟩
      refine Q.r ?_;(repeat (intro b1;refine Q.r ?_))
      refine swp_cutT (σ := Nat × Nat) (fun s => [(0,ptrG p),(6,.pointer (some ⟨b6,0,none⟩)),(12,.pointer (some ⟨bt,0,none⟩)),(13,.pointer (some ⟨s.1,0,none⟩))])
       (fun s => pt s.1 (cl [.slice none 0 0,.slice (some ⟨s.2,0,none⟩) 1 1,.slice none 0 0,.slice none 0 0,.slice none 0 0] 50) :: pt s.2 (cl (askN j fr n pa pc).cells 52) :: oneT (bt,askT j fr n pa pc) :: pt b6 (cl [.slice none 0 0,.slice none 0 0,.slice none 0 0,.slice none 0 0,.slice none 0 0] 50) :: gP p j mt md :: gT mt ts :: trsH ts :: gD md j.done :: roM M1 :: L)
       (fun s => True) ?_ ?_
      ·refine Q.dgo [true] [30,32,33] [] [0,1,2,3,4,5,6,7,8,9,10,11,12,13,14,15,16,17,18,19,20,21,22,23,24,25,26,27,28,29,99999,0,0,0] ?_
       refine Q.rd ?_;(repeat (intro b1;refine Q.rd ?_))
       refine D.two 30 32 [31,32,33] [30,31,33] (by kernel_rfl) rfl rfl rfl rfl (by kernel_rfl) (by kernel_rfl) ?_ ?_
       ·refine Q.r ?_;(repeat (intro b1;refine Q.r ?_))
        refine Q.rd ?_;(repeat (intro b1;refine Q.rd ?_))
        rename_i bn
        refine N.tn ⟨(b1,bn),⟨rfl,rfl,rfl,rfl,trivial⟩,?_,trivial⟩
        (try dsimp only);exact Go.SX.Ent.go
       ·refine Q.r ?_;(repeat (intro b1;refine Q.r ?_))
        refine Q.rd ?_;(repeat (intro b1;refine Q.rd ?_))
        rename_i bp
        refine N.tn ⟨(bp,b1),⟨rfl,rfl,rfl,rfl,trivial⟩,?_,trivial⟩
        (try dsimp only);exact Go.SX.Ent.go
      ·rintro ⟨bp,bn⟩ _
       dsimp only
       refine Q.r ?_;(repeat (intro b1;refine Q.r ?_))
       obtain ⟨ps,hps⟩ : ∃ ps,ps = partsG j.shards (n.ops.map OV.abs) := ⟨_,rfl⟩
       have hpo := partsG_ok hq.s1 (n.ops.map OV.abs)
       have hpl : ps.length ≤ 4 := by have := rise_len (hps ▸ hpo.1) (hps ▸ hpo.2) (by have := hq.s1;omega);have := hq.s2;omega
       refine swp_loop (σ := Nat × Option Addr × Nat × List (Int × NV) × (Nat → Option Obj)) (fun s => [(0,ptrG p),(6,.pointer (some ⟨b6,0,none⟩)),(12,.pointer (some ⟨bt,0,none⟩)),(13,.pointer (some ⟨bp,0,none⟩)),(155,.slice pa ps.length pc),(156,.int .i64 ps.length),(157,.int .i64 s.1)])
        (fun s => pt bp (cl [.slice none 0 0,.slice (some ⟨bn,0,none⟩) 1 1,.slice s.2.1 s.2.2.2.1.length s.2.2.1,.slice none 0 0,.slice none 0 0] 50) :: slO 54 17 s.2.1 s.2.2.2.1.length s.2.2.1 (s.2.2.2.1.flatMap mcells) :: pt bn (cl (askN j fr n pa pc).cells 52) :: oneT (bt,askT j fr n pa pc) :: pt b6 (cl [.slice none 0 0,.slice none 0 0,.slice none 0 0,.slice none 0 0,.slice none 0 0] 50) :: gP p j mt md :: gT mt ts :: trsH ts :: gD md j.done :: roM s.2.2.2.2 :: L)
        (fun s => s.1 ≤ ps.length ∧ s.2.2.2.1.map (fun m => (m.1,m.2.abs)) = (ps.take s.1).map (prepM j.shards (newT j fr n.abs)) ∧ leM M1 s.2.2.2.2 ∧ ∀ m ∈ s.2.2.2.1,okN s.2.2.2.2 m.2) (fun s => ps.length - s.1) (0,none,0,[],M1) ⟨rfl,rfl,rfl,rfl,congrArg some (by rw [hps]),congrArg some (by rw [hps]),rfl,trivial⟩ (Ent.cons slO_nil) ⟨Nat.zero_le _,rfl,leM.refl M1,fun _ h => by cases h⟩ ?_
       rintro ⟨k,a3,c3,us,M2⟩ ⟨hk,hus,hl2,huo⟩
       dsimp only at hk hus hl2 huo ⊢
       have hul : us.length = k := by
        have := congrArg List.length hus
        rw [List.length_map,List.length_map,List.length_take] at this;omega
       by_cases hlt2 : k < ps.length
       ·obtain ⟨q,hq2⟩ := mem_get hlt2
        rw [← hps] at hs1
        obtain ⟨bq,oq,hia,cr⟩ := SlM.cm (g := fun z : Int => [I64 z]) (fun _ => rfl) (by rw [flat_I64];exact hs1.mono hl2) hq2 rfl
        subst hia
        refine Q.r ?_;(repeat (intro b1;refine Q.r ?_))
        refine Q.dgo [true] [5,6,7,9] [9] [0,1,2,3,4,5,6,7,8,9] ?_
        refine Q.rd ?_;(repeat (intro b1;refine Q.rd ?_))
        refine D.e rfl rfl rfl ?_
        refine S.c3 (A := gP p j mt md) (B := oneT (bt,askT j fr n (some ⟨bq,oq,none⟩) pc)) (C := roM M2) rfl (Gprepare_spec p j mt md (bt,askT j fr n (some ⟨bq,oq,none⟩) pc) q M2 _ (ht1.mono hl2) hq.s1 hq.s2) ?_
        rintro _ _ ⟨m,M3,rfl,hl3,hm3,hma,rfl⟩
        refine Q.r ?_;(repeat (intro b1;refine Q.r ?_))
        refine Q.rd ?_;(repeat (intro b1;refine Q.rd ?_))
        refine D.e rfl rfl rfl ?_
        refine S.app rfl rfl (SrcS.sl RdC.row (by rfl) (by rfl)) (by rfl) (by omega) (by omega) (fun a7 c7 => ?_)
        refine Q.r ?_;(repeat (intro b1;refine Q.r ?_))
        refine Q.rd ?_;(repeat (intro b1;refine Q.rd ?_))
        refine Q.dc rfl rfl rfl rfl ?_
        refine Q.r ?_;(repeat (intro b1;refine Q.r ?_))
        refine Q.rd ?_;(repeat (intro b1;refine Q.rd ?_))
        refine Q.r ?_;(repeat (intro b1;refine Q.r ?_))
        refine ⟨(k + 1,a7,c7,us ++ [(q,m)],M3),⟨rfl,rfl,rfl,rfl,rfl,rfl,rfl,trivial⟩,?_,⟨by dsimp only;omega,?_,hl2.trans hl3,fun w hw => ?_⟩,by dsimp only;omega⟩
        ·dsimp only
         rw [len_snoc,flat_snoc]
         exact Go.SX.Ent.go
        ·dsimp only
         rw [List.map_append,hus,take_snoc hq2,List.map_append]
         exact congrArg (fun z => _ ++ [z]) hma
        ·rcases List.mem_append.1 hw with hw | hw
         ·exact (huo w hw).mono hl3
         ·rw [List.mem_singleton] at hw;subst hw;exact hm3
       ·have hke : k = ps.length := by omega
        subst hke
        rw [List.take_length] at hus
        refine Q.r ?_;(repeat (intro b1;refine Q.r ?_))
        refine N.r1 (by apply RV.cellN;rfl;exact RdC.row;rfl;exact RV.nil) (Ent.trans (M := slO 54 17 a3 us.length c3 (us.flatMap mcells) :: pt bn (cl (askN j fr n pa pc).cells 52) :: gP p j mt md :: gT mt ts :: trsH ts :: gD md j.done :: roM M2 :: L) (by exact Go.SX.Ent.go) (Ent.trans (Ent.cons (Ent.cons (jdg_shut (hq.mono (hl1.trans hl2))))) (Ent.trans (Ent.cons (slO_fold (sz := 16) (m := 1) rfl)) ?_))) ⟨none,0,[],some ⟨bn,0,none⟩,1,[askN j fr n pa pc],a3,c3,us,none,0,[],none,0,[],M2,rfl,hl1.trans hl2,⟨fun _ h => (by cases h),fun m hm => ?_,huo,fun _ h => (by cases h),fun _ h => (by cases h)⟩,⟨rfl,rfl,?_,rfl,rfl⟩,rfl⟩
        ·show Ent _ (eP :: slO 52 16 (some ⟨bn,0,none⟩) 1 1 (askN j fr n pa pc).cells :: slO 54 17 a3 us.length c3 (us.flatMap mcells) :: eP :: eMl :: jdgH M2 p j :: roM M2 :: L)
         exact Go.SX.Ent.go
        ·rw [List.mem_singleton.1 hm]
         exact ⟨hs1.mono hl2,(hn.mono (hl1.trans hl2)).o,SlM.nil0,SlM.nil0,fun o ho => by cases ho⟩
        ·rw [hus,hps]
   ·have hE : askE j n.abs = checkV j.dim (n.ops.map OV.abs) := by
     unfold askE
     rw [if_pos hc]
    rw [if_pos (by rw [hE];exact hc),hE]
    refine Q.r ?_;(repeat (intro b1;refine Q.r ?_))
    refine S.cr rfl (Greply_spec fr n.batch 0 (checkV j.dim (n.ops.map OV.abs)) _) ?_
    rintro _ _ ⟨rfl,rfl⟩
    refine Q.r ?_;(repeat (intro b1;refine Q.r ?_))
    refine N.r1 (by apply RV.cellN;rfl;exact RdC.row;rfl;exact RV.nil) (Ent.trans (M := pt b1 (cl (mailC (repM fr n.batch 0 (checkV j.dim (n.ops.map OV.abs)))) 54) :: gP p j mt md :: gT mt ts :: trsH ts :: gD md j.done :: roM M :: L) (by exact Go.SX.Ent.go) (gr_ent hq)) (gr_mail M p j L (repM fr n.batch 0 (checkV j.dim (n.ops.map OV.abs))) rfl b1)
set_option maxHeartbeats 2000000 in
theorem GPlan_spec (n : NV) (M : Nat → Option Obj) (p : Nat) (j : JG) (fr : Int) (L : List HP) (hb : JB j) (hn : okN M n) (hN : OkN n) (hT : TabM M) (h0 : 0 ≤ n.kind ∧ n.kind ≤ 255) :
  CallsS Tryz.prog 15 [ptrG p,.int .i64 fr,n.val] (jdgH M p j :: roM M :: L) (planGR M p j (planG j fr n.abs) L) := by
 have fin : ∀ {g : FuncId} {pl : PG} {L : List HP},CallsS Tryz.prog g [ptrG p,.int .i64 fr,n.val] (jdgH M p j :: roM M :: L) (planGR0 M p j pl L) → CallsS Tryz.prog g [ptrG p,.int .i64 fr,n.val] (jdgH M p j :: roM M :: L) (planGR M p j pl L) := fun h => h.post fun _ _ h => planGR.of0 h
 unfold planG
 refine CallsS.of_body Tryz.func15 rfl rfl rfl ?_
 refine Q.r ?_;(repeat (intro b1;refine Q.r ?_))
 refine S.cr rfl (NRight_spec n _ hn.rd hN hT.rd h0) ?_
 rintro _ _ ⟨rfl,rfl⟩
 have e5 : ∀ {L : List HP},planGR M p j PG.none L (.agg #[.slice none 0 0,.slice none 0 0,.slice none 0 0,.slice none 0 0,.slice none 0 0]) (jdgH M p j :: roM M :: L) := planGR.none M p j _
 cases hr : rightN n.abs with
 | false =>
  rw [if_pos (.inl rfl)]
  refine Q.r ?_;(repeat (intro b1;refine Q.r ?_))
  exact N.r1 (by apply RV.cellN;rfl;exact RdC.row;rfl;exact RV.nil) (by exact Go.SX.Ent.go) e5
 | true =>
 by_cases hf1 : fr < 0
 ·rw [if_pos (.inr (.inl hf1))]
  refine Q.r ?_;(repeat (intro b1;refine Q.r ?_))
  exact N.r1 (by apply RV.cellN;rfl;exact RdC.row;rfl;exact RV.nil) (by exact Go.SX.Ent.go) e5
 by_cases hf2 : 16 ≤ fr
 ·rw [if_pos (.inr (.inr hf2))]
  refine Q.r ?_;(repeat (intro b1;refine Q.r ?_))
  exact N.r1 (by apply RV.cellN;rfl;exact RdC.row;rfl;exact RV.nil) (by exact Go.SX.Ent.go) e5
 rw [if_neg (by rintro (h | h | h);cases h;exact hf1 h;exact hf2 h)]
 rw [show n.abs.kind = n.kind from rfl]
 by_cases h1 : n.kind = 1
 ·rw [if_pos h1]
  refine Q.r ?_;(repeat (intro b1;refine Q.r ?_))
  refine S.cg p rfl (fin (Gask_spec n M p j fr _ hb hn hN)) ?_
  rintro _ _ ⟨a1,c1,rs,a2,c2,ns,a3,c3,ms,a4,c4,is,a5,c5,es,M2,rfl,hl,ok,ab,rfl⟩;(refine Q.r ?_;(repeat (intro b1;refine Q.r ?_)));refine N.r1 (by apply RV.cellN;rfl;exact RdC.row;rfl;exact RV.nil) ?_ ⟨a1,c1,rs,a2,c2,ns,a3,c3,ms,a4,c4,is,a5,c5,es,M2,rfl,hl,ok,ab,rfl⟩;exact Go.SX.Ent.go
 rw [if_neg h1]
 by_cases h4 : n.kind = 4
 ·rw [if_pos h4]
  refine Q.r ?_;(repeat (intro b1;refine Q.r ?_))
  refine S.cg p rfl (fin (Gvote_spec n M p j fr _ hb.l0 hb.l1)) ?_
  rintro _ _ ⟨a1,c1,rs,a2,c2,ns,a3,c3,ms,a4,c4,is,a5,c5,es,M2,rfl,hl,ok,ab,rfl⟩;(refine Q.r ?_;(repeat (intro b1;refine Q.r ?_)));refine N.r1 (by apply RV.cellN;rfl;exact RdC.row;rfl;exact RV.nil) ?_ ⟨a1,c1,rs,a2,c2,ns,a3,c3,ms,a4,c4,is,a5,c5,es,M2,rfl,hl,ok,ab,rfl⟩;exact Go.SX.Ent.go
 rw [if_neg h4]
 by_cases h6 : n.kind = 6
 ·rw [if_pos h6]
  refine Q.r ?_;(repeat (intro b1;refine Q.r ?_))
  refine S.cg p rfl (fin (Gack_spec n M p j fr _)) ?_
  rintro _ _ ⟨a1,c1,rs,a2,c2,ns,a3,c3,ms,a4,c4,is,a5,c5,es,M2,rfl,hl,ok,ab,rfl⟩;(refine Q.r ?_;(repeat (intro b1;refine Q.r ?_)));refine N.r1 (by apply RV.cellN;rfl;exact RdC.row;rfl;exact RV.nil) ?_ ⟨a1,c1,rs,a2,c2,ns,a3,c3,ms,a4,c4,is,a5,c5,es,M2,rfl,hl,ok,ab,rfl⟩;exact Go.SX.Ent.go
 rw [if_neg h6]
 by_cases h7 : n.kind = 7
 ·rw [if_pos h7]
  refine Q.r ?_;(repeat (intro b1;refine Q.r ?_))
  refine S.cg p rfl (Gprobe_spec n M p j fr _) ?_
  rintro _ _ ⟨a1,c1,rs,a2,c2,ns,a3,c3,ms,a4,c4,is,a5,c5,es,M2,rfl,hl,ok,ab,rfl⟩;(refine Q.r ?_;(repeat (intro b1;refine Q.r ?_)));refine N.r1 (by apply RV.cellN;rfl;exact RdC.row;rfl;exact RV.nil) ?_ ⟨a1,c1,rs,a2,c2,ns,a3,c3,ms,a4,c4,is,a5,c5,es,M2,rfl,hl,ok,ab,rfl⟩;exact Go.SX.Ent.go
 rw [if_neg h7]
 refine Q.r ?_;(repeat (intro b1;refine Q.r ?_))
 exact N.r1 (by apply RV.cellN;rfl;exact RdC.row;rfl;exact RV.nil) (by exact Go.SX.Ent.go) e5
structure WT (x : Int) (t : TR) : Prop where
 xx : t.txn = x
 x0 : 0 ≤ x
 st : 0 ≤ t.stamp
 r : Rise t.parts
 pl : t.parts.length ≤ 4
 pb : ∀ q ∈ t.parts,0 ≤ q ∧ q < 16
 yr : Rise t.yes
 ys : ∀ q ∈ t.yes,q ∈ t.parts
 kr : Rise t.acked
 ks : ∀ q ∈ t.acked,q ∈ t.parts
 ol : t.ops.length ≤ 16
structure WG (j : JG) : Prop where
 b : JB j
 kt : keysOK j.tr
 kd : keysOK j.done
 tx : ∀ u ∈ j.tr,WT u.1 u.2
 dp : ∀ u ∈ j.done,0 < u.2
theorem WG.lk {j : JG} (h : WG j) {x : Int} {t : TR} (ht : lkL j.tr x = some t) : WT x t := h.tx _ ((lkL_iff h.kt).1 ht)
theorem CloneO_spec (a : Option Addr) (c : Nat) (xs : List OV) (A : List HP) (h : RdS A a xs.length 2 (xs.flatMap OV.cells)) (hn : xs.length ≤ 1000000) :
  CallsS Tryz.prog 94 [.slice a xs.length c] A (fun v L' => ∃ a' c',v = .slice a' xs.length c' ∧ L' = slO 77 2 a' xs.length c' (xs.flatMap OV.cells) :: A) := by
 refine CallsS.of_body Tryz.func94 rfl rfl rfl ?_
 cases a with
 | none =>
  have hx : xs = [] := by
   rcases h.2 with h0 | ⟨_,_,h0,_⟩
   ·exact List.eq_nil_of_length_eq_zero h0
   ·cases h0
  subst hx
  refine Q.r ?_;(repeat (intro b1;refine Q.r ?_))
  exact N.r1 (RV.tmp rfl RV.nil) slO_nil ⟨none,0,rfl,rfl⟩
 | some ad =>
  refine Q.r ?_;(repeat (intro b1;refine Q.r ?_))
  refine opsS_ent (slO_fold (sz := 2) (m := 0) rfl) ?_
  refine S.app0 rfl rfl rfl (SrcS.rd h.sub (OV_one _)) (by rfl) (by omega) (by omega) (fun a5 c5 => ?_)
  refine Q.r ?_;(repeat (intro b1;refine Q.r ?_))
  exact N.r1 (RV.tmp rfl RV.nil) (Ent.refl _) ⟨a5,c5,rfl,rfl⟩
theorem and20 {a : Int} (h0 : 0 ≤ a) (h1 : a < 18446744073709551616) : IntKind.u64.wrap ((BitVec.ofInt IntKind.u64.bits a) &&& (BitVec.ofInt IntKind.u64.bits 1048575)).toNat = a % 1048576 := by
 obtain ⟨k,rfl⟩ := Int.eq_ofNat_of_zero_le h0
 have hk : k < 2 ^ 64 := by omega
 show IntKind.u64.wrap ((BitVec.ofInt 64 (k : Int)) &&& (BitVec.ofInt 64 1048575)).toNat = _
 have e1 : (BitVec.ofInt 64 (k : Int)).toNat = k := by
  rw [BitVec.toNat_ofInt];omega
 have e2 : (BitVec.ofInt 64 (1048575 : Int)).toNat = 2 ^ 20 - 1 := by decide
 rw [BitVec.toNat_and,e1,e2,Nat.and_two_pow_sub_one_eq_mod,wrap_u64 (by omega) (by omega)]
 omega
def appR (n : NA) (M : Nat → Option Obj) (p : Nat) (j : JG) (L : List HP) (r : Value) (L' : List HP) : Prop := ∃ M' : Nat → Option Obj,r = .int .i64 (appGE j n) ∧ leM M M' ∧ L' = jdgH M' p (appG j n) :: roM M' :: L
theorem lk_none {ts : List TB} {tr : List (Int × TR)} (h : ts.map (fun u => (u.1,u.2.2.abs)) = tr) {x : Int} (hx : lkL tr x = none) : ∀ u ∈ ts,u.1 ≠ x := by
 intro u hu e
 have hm : (x,u.2.2.abs) ∈ tr := by rw [← h,← e];exact List.mem_map_of_mem (f := fun u : TB => (u.1,u.2.2.abs)) hu
 unfold lkL at hx
 rw [Option.map_eq_none_iff,List.find?_eq_none] at hx
 have := hx _ hm
 simp at this
theorem GQ'.new {M : Nat → Option Obj} {j j' : JG} {ts : List TB} (h : GQ' M j ts) {x : Int} {b : Nat} {t : TV} (hx : lkL j.tr x = none) (ht : okT M t) (hs : j'.shards = j.shards) (htr : j'.tr = putL j.tr x t.abs) : GQ' M j' (ts ++ [(x,b,t)]) := by
 refine ⟨by rw [hs];exact h.s1,by rw [hs];exact h.s2,?_,fun u hu => ?_⟩
 ·rw [htr,List.map_append,h.tr,putL_none]
  ·rfl
  ·intro u hu e
   rw [← h.tr] at hu
   obtain ⟨w,hw,rfl⟩ := List.mem_map.1 hu
   exact lk_none h.tr hx w hw e
 ·rcases List.mem_append.1 hu with hu | hu
  ·exact h.ok u hu
  ·rw [List.mem_singleton] at hu;subst hu;exact ht
set_option maxHeartbeats 4000000 in
theorem Gbegin_spec (n : NV) (M : Nat → Option Obj) (p : Nat) (j : JG) (L : List HP) (hw : WG j) (hn : okN M n) (hN : OkN n) (h0 : 0 ≤ n.txn) (h1 : n.txn < 18446744073709551616) (hr : rightN n.abs = true) (hk : n.kind = 19) :
  CallsS Tryz.prog 38 [ptrG p,n.val] (jdgH M p j :: roM M :: L) (appR n.abs M p j L) := by
 unfold appR
 refine calls_jdg fun mt md ts hq => ?_
 refine CallsS.of_body Tryz.func38 rfl rfl rfl ?_
 have hnp := hN.p
 have hno := hN.o
 refine Q.r ?_;(repeat (intro b1;refine Q.r ?_))
 refine Q.dgo [true,true,true,true,true,true] [] [] [0,1,2,3,4,5,6,7] ?_
 refine Q.rd ?_;(repeat (intro b1;refine Q.rd ?_))
 refine D.y rfl rfl rfl (by kernel_rfl) (Y.lk false rfl rfl (fun w => Tryz.zeroValue96 w)) ?_
 have hlk := lk_tr hq.tr n.txn
 cases hz : lkL (α := Nat × TV) ts n.txn with
 | some u =>
  rw [hz] at hlk
  dsimp only
  have hE : appGE j n.abs = 7 := by rw [appGE19 hr hk,show n.abs.txn = n.txn from rfl,hlk];rfl
  refine Q.rd ?_;(repeat (intro b1;refine Q.rd ?_))
  refine Q.r ?_;(repeat (intro b1;refine Q.r ?_))
  exact N.r1 (RV.tmp rfl RV.nil) (Ent.trans (M := gP p j mt md :: gT mt ts :: trsH ts :: gD md j.done :: roM M :: L) (by exact Go.SX.Ent.go) (jdg_shut hq)) ⟨M,by rw [hE],leM.refl M,by rw [appGno (by rw [hE];decide)]⟩
 | none =>
  rw [hz] at hlk
  have hE : appGE j n.abs = 0 := by rw [appGE19 hr hk,show n.abs.txn = n.txn from rfl,hlk];rfl
  have hS := appG19 hE hk
  have hput : ∀ v : Nat × TV,putL ts n.txn v = ts ++ [(n.txn,v)] := fun v => putL_none (lk_none hq.tr hlk)
  dsimp only
  refine Q.rd ?_;(repeat (intro b1;refine Q.rd ?_))
  refine Q.r ?_;(repeat (intro b1;refine Q.r ?_))
  revert b1
  intro b3
  refine swp_cutT (σ := Nat × TV × (Nat → Option Obj)) (fun s => [(0,ptrG p),(3,.pointer (some ⟨b3,0,none⟩))])
   (fun s => pt b3 (cl n.cells 52) :: gP p j mt md :: gT mt (ts ++ [(n.txn,s.1,s.2.1)]) :: trsH (ts ++ [(n.txn,s.1,s.2.1)]) :: gD md j.done :: roM s.2.2 :: L) (fun s => leM M s.2.2 ∧ okT s.2.2 s.2.1 ∧ s.2.1.abs = begT n.abs) ?_ ?_
  ·refine Q.dgo [true,true] [16,20,22,23] [] [0,1,2,3,4,5,6,7,8,9,10,11,12,13,14,15,18,19,16,17,20,21,22,23] ?_
   refine Q.rd ?_;(repeat (intro b1;refine Q.rd ?_))
   refine D.e rfl rfl rfl ?_
   refine S.cr rfl (CloneP_spec n.pa n.pc n.parts _ hn.rd.p hnp) ?_
   rintro _ _ ⟨pa,pc,rfl,rfl⟩
   refine opsS_abs pa (fun M1 hl1 hs1 => ?_)
   have hn1 := hn.mono hl1
   refine Q.r ?_;(repeat (intro b1;refine Q.r ?_))
   refine Q.rd ?_;(repeat (intro b1;refine Q.rd ?_))
   refine D.e rfl rfl rfl ?_
   refine S.cr rfl (CloneO_spec n.oa n.oc n.ops _ hn1.rd.o.1 hno) ?_
   rintro _ _ ⟨oa,oc,rfl,rfl⟩
   refine opsS_abs oa (fun M2 hl2 hs2 => ?_)
   have hn2 := hn1.mono hl2
   refine Q.r ?_;(repeat (intro b1;refine Q.r ?_))
   refine Q.rd ?_;(repeat (intro b1;refine Q.rd ?_))
   refine D.e rfl rfl rfl ?_
   refine S.mu (r := ptT) (u := (b1,(⟨n.txn,n.batch,0,n.after,n.who,pa,pc,n.parts,none,0,[],none,0,[],oa,oc,n.ops⟩ : TV))) rfl rfl rfl ?_
   rw [hput]
   refine Q.r ?_;(repeat (intro b1;refine Q.r ?_))
   refine Q.rd ?_;(repeat (intro b1;refine Q.rd ?_))
   refine N.tn ⟨(b1,⟨n.txn,n.batch,0,n.after,n.who,pa,pc,n.parts,none,0,[],none,0,[],oa,oc,n.ops⟩,M2),⟨rfl,rfl,trivial⟩,?_,hl1.trans hl2,⟨hs1.mono hl2,SlM.nil0,SlM.nil0,hs2,hn2.o.2,hnp,Nat.zero_le _,Nat.zero_le _,hno⟩,rfl⟩
   dsimp only
   exact Ent.trans (M := oneT (b1,(⟨n.txn,n.batch,0,n.after,n.who,pa,pc,n.parts,none,0,[],none,0,[],oa,oc,n.ops⟩ : TV)) :: trsH ts :: pt b3 (cl n.cells 52) :: gP p j mt md :: gT mt (ts ++ [(n.txn,b1,⟨n.txn,n.batch,0,n.after,n.who,pa,pc,n.parts,none,0,[],none,0,[],oa,oc,n.ops⟩)]) :: gD md j.done :: roM M2 :: L) (by exact Go.SX.Ent.go) (Ent.trans (trs_new ts (n.txn,b1,_)) (by exact Go.SX.Ent.go))
  ·rintro ⟨bt,tv,M2⟩ ⟨hl2,htv,hta⟩
   dsimp only at hl2 htv hta ⊢
   have hfd : n.txn.fdiv (2 ^ 20) = n.txn / 1048576 := by rw [Int.fdiv_eq_ediv_of_nonneg _ (by decide)];rfl
   have hq2 : ∀ sq : Int,GQ' M2 { j with tr := putL j.tr n.txn (begT n.abs),seq := sq } (ts ++ [(n.txn,bt,tv)]) := fun sq => (hq.mono hl2).new hlk htv rfl (by rw [hta])
   refine Q.r ?_;(repeat (intro b1;refine Q.r ?_))
   by_cases he : n.txn / 1048576 = j.epoch
   ·refine Q.dgo [true,true] [] [] [0,1,2,3,4,5,6,7] ?_
    refine Q.rd ?_;(repeat (intro b1;refine Q.rd ?_))
    refine D.y rfl rfl rfl (by kernel_rfl) (Y.shrI (b := 20) rfl rfl (by decide)) ?_
    rw [hfd]
    refine Q.rd ?_;(repeat (intro b1;refine Q.rd ?_))
    refine Q.r ?_;(repeat (intro b1;refine Q.r ?_))
    refine Q.dgo [true,true] [11] [11] [0,1,2,3,4,5,6,7,8,9,10,11] ?_
    refine Q.rd ?_;(repeat (intro b1;refine Q.rd ?_))
    refine D.y rfl rfl rfl (by kernel_rfl) (Y.and rfl rfl) ?_
    rw [and20 h0 h1]
    refine Q.rd ?_;(repeat (intro b1;refine Q.rd ?_))
    refine Q.dc rfl rfl rfl rfl ?_
    refine Q.r ?_;(repeat (intro b1;refine Q.r ?_))
    refine Q.rd ?_;(repeat (intro b1;refine Q.rd ?_))
    refine Q.r ?_;(repeat (intro b1;refine Q.r ?_))
    refine N.r1 (RV.tmp rfl RV.nil) (Ent.trans (M := gP p { j with tr := putL j.tr n.txn (begT n.abs),seq := max j.seq (n.txn % 1048576) } mt md :: gT mt (ts ++ [(n.txn,bt,tv)]) :: trsH (ts ++ [(n.txn,bt,tv)]) :: gD md j.done :: roM M2 :: L) (by exact Go.SX.Ent.go) (jdg_shut (hq2 _))) ⟨M2,by rw [hE],hl2,?_⟩
    rw [hS,show n.abs.txn = n.txn from rfl,if_pos he]
   ·refine Q.dgo [true,true] [] [] [0,1,2,3,4,5,6,7] ?_
    refine Q.rd ?_;(repeat (intro b1;refine Q.rd ?_))
    refine D.y rfl rfl rfl (by kernel_rfl) (Y.shrI (b := 20) rfl rfl (by decide)) ?_
    rw [hfd]
    refine Q.rd ?_;(repeat (intro b1;refine Q.rd ?_))
    refine Q.r ?_;(repeat (intro b1;refine Q.r ?_))
    refine N.r1 (RV.tmp rfl RV.nil) (Ent.trans (M := gP p { j with tr := putL j.tr n.txn (begT n.abs),seq := j.seq } mt md :: gT mt (ts ++ [(n.txn,bt,tv)]) :: trsH (ts ++ [(n.txn,bt,tv)]) :: gD md j.done :: roM M2 :: L) (by exact Go.SX.Ent.go) (jdg_shut (hq2 _))) ⟨M2,by rw [hE],hl2,?_⟩
    rw [hS,show n.abs.txn = n.txn from rfl,if_neg he]
end Go.Proofs.YtiampehfpgcogaaGreatDoor
