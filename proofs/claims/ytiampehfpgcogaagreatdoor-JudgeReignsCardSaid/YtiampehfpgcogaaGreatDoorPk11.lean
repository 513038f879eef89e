/- The judge's Unpack. What Pack wrote Unpack reads again. What is unpacked of a judge's bytes. Of any number there is one trial at most. What holds of a judge whose notes are its own plans'. A judge of the law's steps can be unpacked. A judge that is unpacked is a judge as a walk wants it. The law: a new epoch forgets what wasn't committed, and nothing else; its transactions are none of those ahead. No condition. -/
import Derived.Test.YtiampehfpgcogaaGreatDoorPk10
set_option linter.unusedVariables false
set_option linter.unusedSimpArgs false
set_option linter.unusedSectionVars false
namespace Go.Proofs.YtiampehfpgcogaaGreatDoor
open Go Go.SX
attribute [local irreducible] swp opsS thenS blockS retS CallsS St Ent YieldS anyS drawS
def hdF (bs : List UInt8) : Nat × Nat × RS := ((rdF 1099511627776 ⟨bs,0,true⟩).1,(rdF 1099511627776 (rdF 1099511627776 ⟨bs,0,true⟩).2).1,(rdF 1099511627776 (rdF 1099511627776 ⟨bs,0,true⟩).2).2)
def dnU (bs : List UInt8) : RS × List (Int × Int) := dnF (hdF bs).2.1 (rdF 1048576 (hdF bs).2.2).1 ((rdF 1048576 (hdF bs).2.2).2,[])
def trU (sh : Nat) (bs : List UInt8) : RS × List (Int × TR) := trF sh (hdF bs).2.1 (rdF 8 (dnU bs).1).1 ((rdF 8 (dnU bs).1).2,[])
def unG (sh dim : Int) (bs : List UInt8) : JG := ⟨sh,dim,(hdF bs).1,0,(hdF bs).2.1,(trU sh.toNat bs).2,(dnU bs).2⟩
def unOK (sh dim : Int) (bs : List UInt8) : Prop := endF (trU sh.toNat bs).1.bs (trU sh.toNat bs).1.bad = 0 ∧ (trU sh.toNat bs).1.good = true ∧ packG (unG sh dim bs) = bs
open Classical in
noncomputable def unE (j : JG) (bs : List UInt8) : Int := if ¬ unOK j.shards j.dim bs then 4 else if 0 < j.epoch ∨ 0 < j.last ∨ 0 < j.done.length + j.tr.length then 10 else 0
open Classical in
noncomputable def unJ (j : JG) (bs : List UInt8) : JG := if unE j bs = 0 then unG j.shards j.dim bs else j
theorem triF_eq {sh last : Nat} {s z1 z2 z3 z4 z5 : RS} {x y st k : Nat} {ps : List Int} (h1 : rdF 18446744073709551615 s = (x,z1)) (h2 : rdF 18446744073709551615 z1 = (y,z2)) (h3 : stF last z2 = (st,z3)) (h4 : rdF 4 z3 = (k,z4)) (h5 : ptF sh k (z4,[]) = (z5,ps)) :
  triF sh last s = ({ z5 with good := z5.good && headK ps && riseK ps ps.length },⟨x,y,st,0,0,ps,[],[],[]⟩) := by
 unfold triF
 simp only [h1,h2,h3,h4,h5]
abbrev TVu (x y st : Nat) (pa : Option Addr) (pc : Nat) (ps : List Int) : TV := ⟨x,y,st,0,0,pa,pc,ps,none,0,[],none,0,[],none,0,[]⟩
theorem headK_cons (v : Int) (vs : List Int) : headK (v :: vs) = decide (0 < v) := by
 unfold headK
 rw [decide_eq_true (show 0 < (v :: vs).length from Nat.succ_pos _),Bool.true_and]
 rfl
theorem riseK_succ (ps : List Int) (k : Nat) : riseK ps (k + 1) = (riseK ps k && decide (k = 0 ∨ ps.getD (k - 1) 0 < ps.getD k 0)) := by
 unfold riseK
 rw [Bool.eq_iff_iff]
 simp only [decide_eq_true_eq,Bool.and_eq_true]
 exact ⟨fun h => ⟨fun i hi => h i (by omega),h k (by omega)⟩,fun ⟨h1,h2⟩ i hi => by
  by_cases e : i = k
  ·subst e;exact h2
  ·exact h1 i (by omega)⟩
theorem riseK_zero (ps : List Int) : riseK ps 0 = true := by
 unfold riseK
 exact decide_eq_true fun i hi => absurd hi (Nat.not_lt_zero i)
theorem getD_of {ps : List Int} {k : Nat} {v : Int} (h : ps[k]? = some v) : ps.getD k 0 = v := by rw [List.getD_eq_getElem?_getD,h];rfl
theorem trs_put {ts : List TB} (hk : keysOK ts) (x : Int) (u : Nat × TV) {L : List HP} : Ent (oneT u :: trsH ts :: L) (trsH (putL ts x u) :: L) := by
 rcases keyCase ts hk x with ⟨p,b,q,rfl,hp,hq⟩ | hn
 ·rw [putL_mid hp hq]
  have h1 : (p ++ (x,b) :: q)[p.length]? = some ((x,b) : TB) := by rw [List.getElem?_append_right (Nat.le_refl _),Nat.sub_self];rfl
  have h2 : p.length < (p ++ (x,b) :: q).length := by rw [List.length_append,List.length_cons];omega
  have h3 : (p ++ (x,b) :: q).set p.length ((x,u) : TB) = p ++ (x,u) :: q := by rw [List.set_append_right _ _ (Nat.le_refl _),Nat.sub_self];rfl
  refine Ent.trans (Ent.cons (trs_out h1)) ?_
  refine Ent.trans (M := oneT u :: trsH ((p ++ (x,b) :: q).eraseIdx p.length) :: L) (by exact Go.SX.Ent.go) ?_
  have := trs_in h2 ((x,u) : TB) (L := L)
  rw [h3] at this
  exact this
 ·rw [putL_none hn]
  exact trs_new ts (x,u)
theorem unG_pb {sh dim : Int} (h1 : 1 ≤ sh) (h2 : sh ≤ 4) (bs : List UInt8) : PB (unG sh dim bs) ∧ (unG sh dim bs).tr.length ≤ 8 := by
 have he := (rdF_le 1099511627776 ⟨bs,0,true⟩).1
 have hl := (rdF_le 1099511627776 (rdF 1099511627776 ⟨bs,0,true⟩).2).1
 have h8 := (rdF_le 8 (dnU bs).1).1
 obtain ⟨a,b,c⟩ := trF_in (sh := sh.toNat) (l := (hdF bs).2.1) (by omega) (rdF 8 (dnU bs).1).1 ((rdF 8 (dnU bs).1).2,[]) (by simp [keysOK]) (fun _ h => by cases h)
 obtain ⟨d,e⟩ := dnF_in (hdF bs).2.1 (rdF 1048576 (hdF bs).2.2).1 ((rdF 1048576 (hdF bs).2.2).2,[]) (by simp [keysOK]) (fun _ h => by cases h)
 refine ⟨⟨Int.natCast_nonneg _,?_,Int.natCast_nonneg _,?_,a,d,b,e⟩,?_⟩
 ·show ((rdF 1099511627776 ⟨bs,0,true⟩).1 : Int) ≤ _
  omega
 ·show ((rdF 1099511627776 (rdF 1099511627776 ⟨bs,0,true⟩).2).1 : Int) ≤ _
  omega
 ·have c' : (unG sh dim bs).tr.length ≤ 0 + (rdF 8 (dnU bs).1).1 := c
  omega
theorem unG_len {sh dim : Int} {bs : List UInt8} (h : endF (trU sh.toNat bs).1.bs (trU sh.toNat bs).1.bad = 0) : (unG sh dim bs).done.length ≤ bs.length := by
 have hb : (trU sh.toNat bs).1.bad = 0 := by
  unfold endF at h
  by_cases h1 : (trU sh.toNat bs).1.bad ≠ 0
  ·rw [if_pos h1] at h
   exact h
  ·exact Classical.not_not.1 h1
 have h1 := trF_bad _ _ _ _ hb
 have h2 := rdF_dec h1
 have h3 := dnF_dec _ _ _ h2.1
 have h4 := rdF_len 1048576 (hdF bs).2.2
 have h5 := rdF_len 1099511627776 (rdF 1099511627776 ⟨bs,0,true⟩).2
 have h6 := rdF_len 1099511627776 ⟨bs,0,true⟩
 have h7 : (unG sh dim bs).done.length ≤ (rdF 1048576 (hdF bs).2.2).2.bs.length + 0 := Nat.le_trans (Nat.le_add_left _ _) h3.2
 have h8 : (hdF bs).2.2.bs.length ≤ bs.length := Nat.le_trans h5 h6
 omega
theorem unE_no {j : JG} {bs : List UInt8} (h : ¬ unOK j.shards j.dim bs) : unE j bs = 4 ∧ unJ j bs = j := by
 have : unE j bs = 4 := by unfold unE;rw [if_pos h]
 exact ⟨this,by unfold unJ;rw [if_neg (by rw [this];decide)]⟩
theorem unE_full {j : JG} {bs : List UInt8} (h : unOK j.shards j.dim bs) (h2 : 0 < j.epoch ∨ 0 < j.last ∨ 0 < j.done.length + j.tr.length) : unE j bs = 10 ∧ unJ j bs = j := by
 have : unE j bs = 10 := by unfold unE;rw [if_neg (not_not_intro h),if_pos h2]
 exact ⟨this,by unfold unJ;rw [if_neg (by rw [this];decide)]⟩
theorem unE_ok {j : JG} {bs : List UInt8} (h : unOK j.shards j.dim bs) (h2 : ¬ (0 < j.epoch ∨ 0 < j.last ∨ 0 < j.done.length + j.tr.length)) : unE j bs = 0 ∧ unJ j bs = unG j.shards j.dim bs := by
 have : unE j bs = 0 := by unfold unE;rw [if_neg (not_not_intro h),if_neg h2]
 exact ⟨this,by unfold unJ;rw [if_pos this]⟩
abbrev JUn (j : JG) (e l : Nat) : JG := ⟨j.shards,j.dim,e,0,l,[],[]⟩
abbrev unF (b7 b8 b5 : Nat) : Value := .func (.func 67) #[] #[.pointer (some ⟨b7,0,none⟩),.pointer (some ⟨b8,0,none⟩),.pointer (some ⟨b5,0,none⟩)]
structure RK (M : Nat → Option Obj) (a : Option Addr) (c : Nat) (s : RS) : Prop where
 sl : SlM M a s.bs.length 1 (s.bs.map B)
 c : s.bs.length ≤ c
 b : s.bs.length ≤ 100000
theorem RK.mono {M M' : Nat → Option Obj} {a : Option Addr} {c : Nat} {s : RS} (h : RK M a c s) (hl : leM M M') : RK M' a c s := ⟨h.sl.mono hl,h.c,h.b⟩
abbrev rdS (r : Nat) (a : Option Addr) (c : Nat) (s : RS) : HP := rdP r a s.bs.length c s.bad
theorem rdN_spec (r : Nat) (a : Option Addr) (c : Nat) (s : RS) (most : Nat) (M : Nat → Option Obj) (L : List HP) [hM : HasM M L] (h : RK M a c s) :
  CallsS Tryz.prog 66 [.pointer (some ⟨r,0,none⟩),.int .u64 most] (rdS r a c s :: L)
   (fun v L' => v = .int .u64 (rdF most s).1 ∧ ∃ a' c',RK M a' c' (rdF most s).2 ∧ L' = rdS r a' c' (rdF most s).2 :: L) :=
 CallsS.mono (rNum_spec r a c s.bs s.bad most M L h.sl h.c (by have := h.b;omega)) fun v L' ⟨h1,a',c',h2,h3,h4⟩ => ⟨h1,a',c',⟨h2,h3,Nat.le_trans (rdF_len most s) h.b⟩,h4⟩
theorem stN_spec (b7 b8 b5 r q mt md : Nat) (a : Option Addr) (c : Nat) (s : RS) (j : JG) (last : Nat) (M : Nat → Option Obj) (L : List HP) (h : RK M a c s) (hl : j.last = last) :
  CallsS Tryz.prog 67 [.pointer (some ⟨b7,0,none⟩),.pointer (some ⟨b8,0,none⟩),.pointer (some ⟨b5,0,none⟩)] (rdS r a c s :: gdP b8 s.good :: rcP b7 r :: fcP b5 q :: gP q j mt md :: roM M :: L)
   (fun v L' => v = .int .u64 (stF last s).1 ∧ ∃ a' c',RK M a' c' (stF last s).2 ∧ L' = rdS r a' c' (stF last s).2 :: gdP b8 (stF last s).2.good :: rcP b7 r :: fcP b5 q :: gP q j mt md :: roM M :: L) :=
 CallsS.mono (stamp_spec b7 b8 b5 r q mt md a c s j last M L h.sl h.c (by have := h.b;omega) hl) fun v L' ⟨h1,a',c',h2,h3,h4⟩ => ⟨h1,a',c',⟨h2,h3,Nat.le_trans (stF_len last s) h.b⟩,h4⟩
set_option maxHeartbeats 8000000 in
set_option maxRecDepth 100000 in
theorem GUnpack_spec (M : Nat → Option Obj) (p : Nat) (j : JG) (a : Option Addr) (c : Nat) (bs : List UInt8) (L : List HP) (hs : SlM M a bs.length 1 (bs.map B)) (hd1 : 1 ≤ j.dim) (hd2 : j.dim ≤ 8) (hb : bs.length ≤ 100000) (htj : j.tr.length ≤ 100000) (hdj : j.done.length ≤ 100000) :
  CallsS Tryz.prog 21 [ptrG p,.slice a bs.length c] (jdgH M p j :: roM M :: L) (fun r L' => r = .int .i64 (unE j bs) ∧ ∃ M',leM M M' ∧ L' = jdgH M' p (unJ j bs) :: roM M' :: L) := by
 refine calls_jdg fun mt md ts hq => ?_
 have s1 := hq.s1
 have s2 := hq.s2
 have hlts : ts.length = j.tr.length := by rw [← hq.tr,List.length_map]
 have hb' : bs.length ≤ 1000000 := by omega
 refine CallsS.of_body Tryz.func21 rfl rfl rfl ?_
 refine Q.r ?_;(repeat (intro b1;refine Q.r ?_))
 refine swp_cutT (σ := Nat × Nat) (fun s => [(0,ptrG p),(1,.slice a bs.length c),(5,.pointer (some ⟨s.1,0,none⟩))]) (fun s => fcP s.1 s.2 :: jdgH M s.2 (JG0 j.shards j.dim) :: gP p j mt md :: gT mt ts :: trsH ts :: gD md j.done :: roM M :: L) (fun _ => True) ?_ ?_
 ·refine Q.dgo [true,false,false,false,false] [8,12,13] [] [0,1,2,3,4,5,6,7,99999,0,0,0,0,0,0] ?_
  repeat (first | refine D.endA ?_ | refine Q.dp rfl rfl rfl ?_ | refine Q.dy rfl rfl rfl ?_ | refine D.end_ ?_ | refine Q.endH ?_ | (refine D.e rfl rfl rfl ?_;(first | refine S.gskip1 rfl ?_ | refine S.gskip rfl ?_ | refine S.y (Y.gskipU rfl) ?_);refine opsS_nil ?_;refine N.tn ?_))
  refine D.two 8 12 [9,10,11,12,13,14] [8,9,10,11,13,14] (by kernel_rfl) rfl rfl rfl rfl (by kernel_rfl) (by kernel_rfl) ?_ ?_
  ·refine S.cr (args := [.int .i64 j.shards,.int .i64 j.dim]) rfl (GNew_spec M j.shards j.dim _ s1 s2 hd1 hd2) ?_
   rintro _ _ ⟨q,rfl,rfl⟩
   refine Q.r ?_;(repeat (intro b1;refine Q.r ?_))
   refine Q.rd ?_;(repeat (intro b1;refine Q.rd ?_))
   refine N.tn ?_
   exact ⟨(b1,q),⟨rfl,rfl,rfl,trivial⟩,by exact Go.SX.Ent.go,trivial⟩
  ·refine Q.r ?_;(repeat (intro b1;refine Q.r ?_))
   repeat (first | refine D.endA ?_ | refine Q.dp rfl rfl rfl ?_ | refine Q.dy rfl rfl rfl ?_ | refine D.end_ ?_ | refine Q.endH ?_ | (refine D.e rfl rfl rfl ?_;(first | refine S.gskip1 rfl ?_ | refine S.gskip rfl ?_ | refine S.y (Y.gskipU rfl) ?_);refine opsS_nil ?_;refine N.tn ?_))
   refine D.e rfl rfl rfl ?_
   refine S.cr (args := [.int .i64 j.shards,.int .i64 j.dim]) rfl (GNew_spec M j.shards j.dim _ s1 s2 hd1 hd2) ?_
   rintro _ _ ⟨q,rfl,rfl⟩
   refine Q.r ?_;(repeat (intro b1;refine Q.r ?_))
   refine Q.rd ?_;(repeat (intro b1;refine Q.rd ?_))
   refine N.tn ?_
   exact ⟨(b1,q),⟨rfl,rfl,rfl,trivial⟩,by exact Go.SX.Ent.go,trivial⟩
 rintro ⟨b5,q⟩ _
 refine Q.r ?_;(repeat (intro b1;refine Q.r ?_))
 refine S.cr rfl (rNew_spec a c bs M _ _ hs.rd hb') ?_
 rintro _ _ ⟨r,a1,M1,rfl,hl1,hs1,rfl⟩
 refine Q.r ?_;(repeat (intro b1;refine Q.r ?_))
 revert b1
 intro b7
 refine swp_jdg q (fun mt2 md2 ts2 hq2 => ?_)
 have ht2 : ts2 = [] := by
  have := hq2.tr
  exact List.map_eq_nil_iff.1 this
 subst ht2
 have hk0 : RK M1 a1 bs.length ⟨bs,0,true⟩ := ⟨hs1,Nat.le_refl _,hb⟩
 have hE := (rdF_le 1099511627776 ⟨bs,0,true⟩).1
 refine Q.dgo [false,false,false,false,true,false,false,true,false,false,false,false] [3,5,8,11] [] [0,1,2,4,3,5,6,7,8,9,10,11] ?_
 repeat (first | refine D.endA ?_ | refine Q.dp rfl rfl rfl ?_ | refine Q.dy rfl rfl rfl ?_ | refine D.end_ ?_ | refine Q.endH ?_ | (refine D.e rfl rfl rfl ?_;(first | refine S.gskip1 rfl ?_ | refine S.gskip rfl ?_ | refine S.y (Y.gskipU rfl) ?_);refine opsS_nil ?_;refine N.tn ?_))
 refine D.e rfl rfl rfl ?_
 refine S.c1 (A := rdS r a1 bs.length ⟨bs,0,true⟩) rfl (rdN_spec r a1 bs.length ⟨bs,0,true⟩ 1099511627776 M1 _ hk0) ?_
 rintro _ _ ⟨rfl,a2,c2,hk1,rfl⟩
 have eh : hdF bs = ((rdF 1099511627776 ⟨bs,0,true⟩).1,(rdF 1099511627776 (rdF 1099511627776 ⟨bs,0,true⟩).2).1,(rdF 1099511627776 (rdF 1099511627776 ⟨bs,0,true⟩).2).2) := rfl
 have hg1 : (rdF 1099511627776 ⟨bs,0,true⟩).2.good = true := rfl
 generalize rdF 1099511627776 ⟨bs,0,true⟩ = x1 at *
 obtain ⟨e,z1⟩ := x1
 dsimp only at *
 have hLe := (rdF_le 1099511627776 z1).1
 refine Q.r ?_;(repeat (intro b1;refine Q.r ?_))
 repeat (first | refine D.endA ?_ | refine Q.dp rfl rfl rfl ?_ | refine Q.dy rfl rfl rfl ?_ | refine D.end_ ?_ | refine Q.endH ?_ | (refine D.e rfl rfl rfl ?_;(first | refine S.gskip1 rfl ?_ | refine S.gskip rfl ?_ | refine S.y (Y.gskipU rfl) ?_);refine opsS_nil ?_;refine N.tn ?_))
 refine D.e rfl rfl rfl ?_
 refine S.c1 (A := rdS r a2 c2 z1) rfl (rdN_spec r a2 c2 z1 1099511627776 M1 _ hk1) ?_
 rintro _ _ ⟨rfl,a3,c3,hk2,rfl⟩
 have hg2 : (rdF 1099511627776 z1).2.good = true := hg1
 generalize rdF 1099511627776 z1 = x2 at *
 obtain ⟨l,z2⟩ := x2
 dsimp only at *
 refine Q.r ?_;(repeat (intro b1;refine Q.r ?_))
 refine Q.rd ?_;(repeat (intro b1;refine Q.rd ?_))
 refine Q.r ?_;(repeat (intro b1;refine Q.r ?_))
 revert b1
 intro b8
 refine S.y (Y.mf rfl rfl) ?_
 refine Q.r ?_;(repeat (intro b1;refine Q.r ?_))
 refine S.c1 (A := rdS r a3 c3 z2) rfl (rdN_spec r a3 c3 z2 1048576 M1 _ hk2) ?_
 rintro _ _ ⟨rfl,a4,c4,hk3,rfl⟩
 have hN := (rdF_le 1048576 z2).1
 have eD : dnU bs = dnF l (rdF 1048576 z2).1 ((rdF 1048576 z2).2,[]) := by unfold dnU;rw [eh]
 have hg3 : (rdF 1048576 z2).2.good = true := hg2
 generalize rdF 1048576 z2 = x3 at *
 obtain ⟨n,z3⟩ := x3
 dsimp only at *
 refine Q.r ?_;(repeat (intro b1;refine Q.r ?_))
 refine swp_cutB (σ := Option Addr × Nat) (fun _ => [(0,ptrG p),(1,.slice a bs.length c),(5,.pointer (some ⟨b5,0,none⟩)),(7,.pointer (some ⟨b7,0,none⟩)),(8,.pointer (some ⟨b8,0,none⟩)),(9,unF b7 b8 b5)])
  (fun x => rdS r x.1 x.2 (dnU bs).1 :: gdP b8 (dnU bs).1.good :: rcP b7 r :: fcP b5 q :: gP q (JUn j e l) mt2 md2 :: gD md2 (dnU bs).2 :: gT mt2 [] :: trsH [] :: gP p j mt md :: gT mt ts :: trsH ts :: gD md j.done :: roM M1 :: L) (fun x => RK M1 x.1 x.2 (dnU bs).1) ?_ ?_
 ·refine swp_loop (σ := Nat × RS × List (Int × Int) × Option Addr × Nat) (fun x => [(0,ptrG p),(1,.slice a bs.length c),(5,.pointer (some ⟨b5,0,none⟩)),(7,.pointer (some ⟨b7,0,none⟩)),(8,.pointer (some ⟨b8,0,none⟩)),(9,unF b7 b8 b5),(42,.int .u64 n),(43,.int .u64 x.1)])
   (fun x => rdS r x.2.2.2.1 x.2.2.2.2 x.2.1 :: gdP b8 x.2.1.good :: rcP b7 r :: fcP b5 q :: gP q (JUn j e l) mt2 md2 :: gD md2 x.2.2.1 :: gT mt2 [] :: trsH [] :: gP p j mt md :: gT mt ts :: trsH ts :: gD md j.done :: roM M1 :: L)
   (fun x => x.1 ≤ n ∧ RK M1 x.2.2.2.1 x.2.2.2.2 x.2.1 ∧ dnF l (n - x.1) (x.2.1,x.2.2.1) = dnU bs) (fun x => n - x.1) (0,z3,[],a4,c4) ⟨rfl,rfl,rfl,rfl,rfl,rfl,rfl,rfl,trivial⟩ (by dsimp only;rw [hg3];exact Go.SX.Ent.go) ⟨by omega,hk3,by rw [eD];rfl⟩ ?_
  rintro ⟨i,s,dn,a5,c5⟩ ⟨hi,hk,hD⟩
  dsimp only at hi hk hD ⊢
  by_cases hlt : i < n
  ·refine Q.r ?_;(repeat (intro b1;refine Q.r ?_))
   refine S.c1 (A := rdS r a5 c5 s) rfl (rdN_spec r a5 c5 s 18446744073709551615 M1 _ hk) ?_
   rintro _ _ ⟨rfl,a6,c6,hk4,rfl⟩
   have en : n - i = (n - (i + 1)) + 1 := by omega
   rw [en] at hD
   unfold dnF at hD
   have hg4 : (rdF 18446744073709551615 s).2.good = s.good := rfl
   generalize rdF 18446744073709551615 s = x4 at *
   obtain ⟨b,z4⟩ := x4
   dsimp only at *
   refine Q.r ?_;(repeat (intro b1;refine Q.r ?_))
   rw [← hg4]
   refine Q.dgo [false,false,false,true,true,false,false,false,false,false,false,false,false] [6,7] [] [0,1,2,3,4,5,6,7] ?_
   repeat (first | refine D.endA ?_ | refine Q.dp rfl rfl rfl ?_ | refine Q.dy rfl rfl rfl ?_ | refine D.end_ ?_ | refine Q.endH ?_ | (refine D.e rfl rfl rfl ?_;(first | refine S.gskip1 rfl ?_ | refine S.gskip rfl ?_ | refine S.y (Y.gskipU rfl) ?_);refine opsS_nil ?_;refine N.tn ?_))
   refine D.ea rfl rfl rfl ?_
   refine opsS_ent (L' := rdS r a6 c6 z4 :: gdP b8 z4.good :: rcP b7 r :: fcP b5 q :: gP q (JUn j e l) mt2 md2 :: roM M1 :: gD md2 dn :: gT mt2 [] :: trsH [] :: gP p j mt md :: gT mt ts :: trsH ts :: gD md j.done :: L) (by exact Go.SX.Ent.go) (S.crF (fs := []) (args := []) (cs := [.pointer (some ⟨b7,0,none⟩),.pointer (some ⟨b8,0,none⟩),.pointer (some ⟨b5,0,none⟩)]) rfl rfl (stN_spec b7 b8 b5 r q mt2 md2 a6 c6 z4 (JUn j e l) l M1 _ hk4 rfl) ?_)
   rintro _ _ ⟨rfl,a7,c7,hk5,rfl⟩
   generalize stF l z4 = x5 at *
   obtain ⟨st,z5⟩ := x5
   dsimp only at *
   refine opsS_nil ?_;refine N.tn ?_;refine D.back ?_
   repeat (first | refine D.endA ?_ | refine Q.dp rfl rfl rfl ?_ | refine Q.dy rfl rfl rfl ?_ | refine D.end_ ?_ | refine Q.endH ?_ | (refine D.e rfl rfl rfl ?_;(first | refine S.gskip1 rfl ?_ | refine S.gskip rfl ?_ | refine S.y (Y.gskipU rfl) ?_);refine opsS_nil ?_;refine N.tn ?_))
   refine D.e rfl rfl rfl ?_
   refine S.mu (g := U64) (q := (b : Int)) (r := U64) (u := (st : Int)) rfl rfl rfl ?_
   refine Q.r ?_;(repeat (intro b1;refine Q.r ?_))
   refine Q.rd ?_;(repeat (intro b1;refine Q.rd ?_))
   refine Q.r ?_;(repeat (intro b1;refine Q.r ?_))
   refine S.c1 (A := rdS r a7 c7 z5) rfl (rLeft_spec r a7 z5.bs.length c7 z5.bad _) ?_
   rintro _ _ ⟨rfl,rfl⟩
   by_cases h0 : z5.bs.length = 0
   ·rw [if_pos h0] at hD
    rw [← hD]
    refine Q.r ?_;(repeat (intro b1;refine Q.r ?_))
    exact ⟨(a7,c7),⟨rfl,rfl,rfl,rfl,rfl,rfl,trivial⟩,by exact Go.SX.Ent.go,hk5⟩
   ·rw [if_neg h0] at hD
    refine Q.r ?_;(repeat (intro b1;refine Q.r ?_))
    refine S.y (Y.add rfl rfl) ?_
    rw [wrap_u64 (by omega) (by omega)]
    refine Q.r ?_;(repeat (intro b1;refine Q.r ?_))
    exact ⟨(i + 1,z5,putL dn (b : Int) (st : Int),a7,c7),⟨rfl,rfl,rfl,rfl,rfl,rfl,rfl,congrArg some (by simp [List.filter_append]),trivial⟩,by exact Go.SX.Ent.go,⟨hlt,hk5,hD⟩,Nat.sub_succ_lt_self n i hlt⟩
  ·have hin : i = n := by omega
   subst hin
   rw [Nat.sub_self] at hD
   rw [← hD]
   refine Q.r ?_;(repeat (intro b1;refine Q.r ?_))
   exact ⟨(a5,c5),⟨rfl,rfl,rfl,rfl,rfl,rfl,trivial⟩,by exact Go.SX.Ent.go,hk⟩
 rintro ⟨a5,c5⟩ hk4
 dsimp only at hk4 ⊢
 refine Q.r ?_;(repeat (intro b1;refine Q.r ?_))
 refine S.c1 (A := rdS r a5 c5 (dnU bs).1) rfl (rdN_spec r a5 c5 (dnU bs).1 8 M1 _ hk4) ?_
 rintro _ _ ⟨rfl,a6,c6,hk6,rfl⟩
 have hN8 := (rdF_le 8 (dnU bs).1).1
 have eT : trU j.shards.toNat bs = trF j.shards.toNat l (rdF 8 (dnU bs).1).1 ((rdF 8 (dnU bs).1).2,[]) := by unfold trU;rw [eh]
 have hg6 : (rdF 8 (dnU bs).1).2.good = (dnU bs).1.good := rfl
 generalize rdF 8 (dnU bs).1 = x6 at *
 obtain ⟨m,z6⟩ := x6
 dsimp only at *
 rw [← hg6]
 refine Q.r ?_;(repeat (intro b1;refine Q.r ?_))
 refine swp_cutB (σ := Option Addr × Nat × (Nat → Option Obj) × List TB) (fun _ => [(0,ptrG p),(1,.slice a bs.length c),(5,.pointer (some ⟨b5,0,none⟩)),(7,.pointer (some ⟨b7,0,none⟩)),(8,.pointer (some ⟨b8,0,none⟩))])
  (fun x => rdS r x.1 x.2.1 (trU j.shards.toNat bs).1 :: gdP b8 (trU j.shards.toNat bs).1.good :: rcP b7 r :: fcP b5 q :: gP q (JUn j e l) mt2 md2 :: gD md2 (dnU bs).2 :: gT mt2 x.2.2.2 :: trsH x.2.2.2 :: gP p j mt md :: gT mt ts :: trsH ts :: gD md j.done :: roM x.2.2.1 :: L)
  (fun x => RK x.2.2.1 x.1 x.2.1 (trU j.shards.toNat bs).1 ∧ leM M1 x.2.2.1 ∧ x.2.2.2.map (fun u => (u.1,u.2.2.abs)) = (trU j.shards.toNat bs).2 ∧ ∀ u ∈ x.2.2.2,okT x.2.2.1 u.2.2) ?_ ?_
 ·refine swp_loop (σ := Nat × RS × Option Addr × Nat × (Nat → Option Obj) × List TB) (fun x => [(0,ptrG p),(1,.slice a bs.length c),(5,.pointer (some ⟨b5,0,none⟩)),(7,.pointer (some ⟨b7,0,none⟩)),(8,.pointer (some ⟨b8,0,none⟩)),(9,unF b7 b8 b5),(60,.int .u64 m),(61,.int .u64 x.1)])
   (fun x => rdS r x.2.2.1 x.2.2.2.1 x.2.1 :: gdP b8 x.2.1.good :: rcP b7 r :: fcP b5 q :: gP q (JUn j e l) mt2 md2 :: gD md2 (dnU bs).2 :: gT mt2 x.2.2.2.2.2 :: trsH x.2.2.2.2.2 :: gP p j mt md :: gT mt ts :: trsH ts :: gD md j.done :: roM x.2.2.2.2.1 :: L)
   (fun x => x.1 ≤ m ∧ RK x.2.2.2.2.1 x.2.2.1 x.2.2.2.1 x.2.1 ∧ leM M1 x.2.2.2.2.1 ∧ (∀ u ∈ x.2.2.2.2.2,okT x.2.2.2.2.1 u.2.2) ∧ keysOK x.2.2.2.2.2 ∧ trF j.shards.toNat l (m - x.1) (x.2.1,x.2.2.2.2.2.map (fun u => (u.1,u.2.2.abs))) = trU j.shards.toNat bs) (fun x => m - x.1) (0,z6,a6,c6,M1,[]) ⟨rfl,rfl,rfl,rfl,rfl,rfl,rfl,rfl,trivial⟩ (by exact Go.SX.Ent.go) ⟨by omega,hk6,leM.refl M1,fun _ h => (by cases h),(by simp [keysOK]),by rw [eT];rfl⟩ ?_
  rintro ⟨i,s,a7,c7,M2,us⟩ ⟨hi,hk,hl2,huo,hko,hD⟩
  dsimp only at hi hk hl2 huo hko hD ⊢
  by_cases hlt : i < m
  ·refine Q.r ?_;(repeat (intro b1;refine Q.r ?_))
   have en : m - i = (m - (i + 1)) + 1 := by omega
   rw [en] at hD
   unfold trF at hD
   dsimp only at hD
   refine Q.dgo [false,false,true,false,false,false,false,false,false,false,false,false,false] [1,3,6] [] [0,2,1,3,4,5,6,7] ?_
   repeat (first | refine D.endA ?_ | refine Q.dp rfl rfl rfl ?_ | refine Q.dy rfl rfl rfl ?_ | refine D.end_ ?_ | refine Q.endH ?_ | (refine D.e rfl rfl rfl ?_;(first | refine S.gskip1 rfl ?_ | refine S.gskip rfl ?_ | refine S.y (Y.gskipU rfl) ?_);refine opsS_nil ?_;refine N.tn ?_))
   refine D.e rfl rfl rfl ?_
   refine S.c1 (A := rdS r a7 c7 s) rfl (rdN_spec r a7 c7 s 18446744073709551615 M2 _ hk) ?_
   rintro _ _ ⟨rfl,a8,c8,hk8,rfl⟩
   have hg8 : (rdF 18446744073709551615 s).2.good = s.good := rfl
   generalize e8 : rdF 18446744073709551615 s = x8 at *
   obtain ⟨x,z8⟩ := x8
   dsimp only at *
   refine Q.r ?_;(repeat (intro b1;refine Q.r ?_))
   repeat (first | refine D.endA ?_ | refine Q.dp rfl rfl rfl ?_ | refine Q.dy rfl rfl rfl ?_ | refine D.end_ ?_ | refine Q.endH ?_ | (refine D.e rfl rfl rfl ?_;(first | refine S.gskip1 rfl ?_ | refine S.gskip rfl ?_ | refine S.y (Y.gskipU rfl) ?_);refine opsS_nil ?_;refine N.tn ?_))
   refine D.e rfl rfl rfl ?_
   refine S.c1 (A := rdS r a8 c8 z8) rfl (rdN_spec r a8 c8 z8 18446744073709551615 M2 _ hk8) ?_
   rintro _ _ ⟨rfl,a9,c9,hk9,rfl⟩
   have hg9 : (rdF 18446744073709551615 z8).2.good = s.good := hg8
   generalize e9 : rdF 18446744073709551615 z8 = x9 at *
   obtain ⟨y,z9⟩ := x9
   dsimp only at *
   refine Q.r ?_;(repeat (intro b1;refine Q.r ?_))
   refine Q.rd ?_;(repeat (intro b1;refine Q.rd ?_))
   refine Q.r ?_;(repeat (intro b1;refine Q.r ?_))
   revert b1
   intro bt
   rw [← hg9]
   refine opsS_ent (L' := rdS r a9 c9 z9 :: gdP b8 z9.good :: rcP b7 r :: fcP b5 q :: gP q (JUn j e l) mt2 md2 :: roM M2 :: pt bt (cl (⟨x,y,0,0,0,none,0,[],none,0,[],none,0,[],none,0,[]⟩ : TV).cells 95) :: gD md2 (dnU bs).2 :: gT mt2 us :: trsH us :: gP p j mt md :: gT mt ts :: trsH ts :: gD md j.done :: L) (by exact Go.SX.Ent.go) (S.crF (fs := []) (args := []) (cs := [.pointer (some ⟨b7,0,none⟩),.pointer (some ⟨b8,0,none⟩),.pointer (some ⟨b5,0,none⟩)]) rfl rfl (stN_spec b7 b8 b5 r q mt2 md2 a9 c9 z9 (JUn j e l) l M2 _ hk9 rfl) ?_)
   rintro _ _ ⟨rfl,a10,c10,hk10,rfl⟩
   generalize e10 : stF l z9 = x10 at *
   obtain ⟨st,z10⟩ := x10
   dsimp only at *
   refine Q.r ?_;(repeat (intro b1;refine Q.r ?_))
   refine S.c1 (A := rdS r a10 c10 z10) rfl (rdN_spec r a10 c10 z10 4 M2 _ hk10) ?_
   rintro _ _ ⟨rfl,a11,c11,hk11,rfl⟩
   have hg11 : (rdF 4 z10).2.good = z10.good := rfl
   have hn4 := (rdF_le 4 z10).1
   generalize e11 : rdF 4 z10 = x11 at *
   obtain ⟨np,z11⟩ := x11
   dsimp only at *
   rw [← hg11]
   refine Q.r ?_;(repeat (intro b1;refine Q.r ?_))
   generalize e12 : ptF j.shards.toNat np (z11,[]) = x12 at *
   obtain ⟨z12,ps⟩ := x12
   have hshn : ((j.shards.toNat : Nat) : Int) = j.shards := Int.toNat_of_nonneg (by omega)
   have hsw : IntKind.u64.wrap j.shards = ((j.shards.toNat : Nat) : Int) := by rw [wrap_u64 (by omega) (by omega),hshn]
   refine swp_cutB (σ := Option Addr × Nat × Option Addr × Nat) (fun _ => [(0,ptrG p),(1,.slice a bs.length c),(5,.pointer (some ⟨b5,0,none⟩)),(7,.pointer (some ⟨b7,0,none⟩)),(8,.pointer (some ⟨b8,0,none⟩)),(9,unF b7 b8 b5),(12,.pointer (some ⟨bt,0,none⟩)),(60,.int .u64 m),(61,.int .u64 i)])
    (fun w => rdS r w.1 w.2.1 z12 :: gdP b8 z12.good :: rcP b7 r :: fcP b5 q :: gP q (JUn j e l) mt2 md2 :: roM M2 :: oneT (bt,TVu x y st w.2.2.1 w.2.2.2 ps) :: slO 3 1 w.2.2.1 ps.length w.2.2.2 (ps.map I64) :: gD md2 (dnU bs).2 :: gT mt2 us :: trsH us :: gP p j mt md :: gT mt ts :: trsH ts :: gD md j.done :: L) (fun w => RK M2 w.1 w.2.1 z12 ∧ ps.length ≤ 4 ∧ ∀ v ∈ ps,0 ≤ v ∧ v ≤ j.shards) ?_ ?_
   ·refine swp_loop (σ := Nat × RS × List Int × Option Addr × Nat × Option Addr × Nat) (fun w => [(0,ptrG p),(1,.slice a bs.length c),(5,.pointer (some ⟨b5,0,none⟩)),(7,.pointer (some ⟨b7,0,none⟩)),(8,.pointer (some ⟨b8,0,none⟩)),(9,unF b7 b8 b5),(12,.pointer (some ⟨bt,0,none⟩)),(60,.int .u64 m),(61,.int .u64 i),(77,.int .u64 np),(78,.int .u64 w.1)])
     (fun w => rdS r w.2.2.2.1 w.2.2.2.2.1 w.2.1 :: gdP b8 w.2.1.good :: rcP b7 r :: fcP b5 q :: gP q (JUn j e l) mt2 md2 :: roM M2 :: oneT (bt,TVu x y st w.2.2.2.2.2.1 w.2.2.2.2.2.2 w.2.2.1) :: slO 3 1 w.2.2.2.2.2.1 w.2.2.1.length w.2.2.2.2.2.2 (w.2.2.1.map I64) :: gD md2 (dnU bs).2 :: gT mt2 us :: trsH us :: gP p j mt md :: gT mt ts :: trsH ts :: gD md j.done :: L)
     (fun w => w.1 ≤ np ∧ RK M2 w.2.2.2.1 w.2.2.2.2.1 w.2.1 ∧ w.2.2.1.length = w.1 ∧ (∀ v ∈ w.2.2.1,0 ≤ v ∧ v ≤ j.shards) ∧ ptF j.shards.toNat (np - w.1) (w.2.1,w.2.2.1) = (z12,ps)) (fun w => np - w.1) (0,z11,[],a11,c11,none,0) ⟨rfl,rfl,rfl,rfl,rfl,rfl,rfl,rfl,rfl,rfl,rfl,trivial⟩ (by exact Go.SX.Ent.go) ⟨by omega,hk11,rfl,fun _ h => (by cases h),e12⟩ ?_
    rintro ⟨k,z,qs,a13,c13,pa,pc⟩ ⟨hkn,hk13,hql,hqb,hF⟩
    dsimp only at hkn hk13 hql hqb hF ⊢
    by_cases hlt2 : k < np
    ·refine Q.r ?_;(repeat (intro b1;refine Q.r ?_))
     have en2 : np - k = (np - (k + 1)) + 1 := by omega
     rw [en2] at hF
     unfold ptF at hF
     refine Q.dgo [false,false,true,false,false,false,true,false,false,false,false,true,false,false,false] [12,14,15,19] [19] [0,1,2,3,4,5,6,7,8,9,10,11,12,13,14,15,16,17,18,19] ?_
     repeat (first | refine D.endA ?_ | refine Q.dp rfl rfl rfl ?_ | refine Q.dy rfl rfl rfl ?_ | refine D.end_ ?_ | refine Q.endH ?_ | (refine D.e rfl rfl rfl ?_;(first | refine S.gskip1 rfl ?_ | refine S.gskip rfl ?_ | refine S.y (Y.gskipU rfl) ?_);refine opsS_nil ?_;refine N.tn ?_))
     refine D.y rfl rfl rfl (by kernel_rfl) (Y.cvi rfl) ?_
     rw [hsw]
     repeat (first | refine D.endA ?_ | refine Q.dp rfl rfl rfl ?_ | refine Q.dy rfl rfl rfl ?_ | refine D.end_ ?_ | refine Q.endH ?_ | (refine D.e rfl rfl rfl ?_;(first | refine S.gskip1 rfl ?_ | refine S.gskip rfl ?_ | refine S.y (Y.gskipU rfl) ?_);refine opsS_nil ?_;refine N.tn ?_))
     refine D.e rfl rfl rfl ?_
     refine S.c1 (A := rdS r a13 c13 z) rfl (rdN_spec r a13 c13 z j.shards.toNat M2 _ hk13) ?_
     rintro _ _ ⟨rfl,a14,c14,hk14,rfl⟩
     have hg14 : (rdF j.shards.toNat z).2.good = z.good := rfl
     have hv4 := (rdF_le j.shards.toNat z).1
     generalize rdF j.shards.toNat z = x14 at *
     obtain ⟨v,z14⟩ := x14
     dsimp only at *
     rw [← hg14]
     refine Q.r ?_;(repeat (intro b1;refine Q.r ?_))
     repeat (first | refine D.endA ?_ | refine Q.dp rfl rfl rfl ?_ | refine Q.dy rfl rfl rfl ?_ | refine D.end_ ?_ | refine Q.endH ?_ | (refine D.e rfl rfl rfl ?_;(first | refine S.gskip1 rfl ?_ | refine S.gskip rfl ?_ | refine S.y (Y.gskipU rfl) ?_);refine opsS_nil ?_;refine N.tn ?_))
     refine D.y rfl rfl rfl (by kernel_rfl) (Y.cvi rfl) ?_
     rw [wrap_i64 (by omega) (by omega)]
     repeat (first | refine D.endA ?_ | refine Q.dp rfl rfl rfl ?_ | refine Q.dy rfl rfl rfl ?_ | refine D.end_ ?_ | refine Q.endH ?_ | (refine D.e rfl rfl rfl ?_;(first | refine S.gskip1 rfl ?_ | refine S.gskip rfl ?_ | refine S.y (Y.gskipU rfl) ?_);refine opsS_nil ?_;refine N.tn ?_))
     refine D.e rfl rfl rfl ?_
     refine Q.r ?_;(repeat (intro b1;refine Q.r ?_))
     repeat (first | refine D.endA ?_ | refine Q.dp rfl rfl rfl ?_ | refine Q.dy rfl rfl rfl ?_ | refine D.end_ ?_ | refine Q.endH ?_ | (refine D.e rfl rfl rfl ?_;(first | refine S.gskip1 rfl ?_ | refine S.gskip rfl ?_ | refine S.y (Y.gskipU rfl) ?_);refine opsS_nil ?_;refine N.tn ?_))
     refine D.e rfl rfl rfl ?_
     refine S.app rfl rfl (SrcS.sl RdC.row (by rfl) (by rfl)) (by rfl) (by omega) (by omega) (fun a7 c7 => ?_)
     refine Q.r ?_;(repeat (intro b1;refine Q.r ?_))
     repeat (first | refine D.endA ?_ | refine Q.dp rfl rfl rfl ?_ | refine Q.dy rfl rfl rfl ?_ | refine D.end_ ?_ | refine Q.endH ?_ | (refine D.e rfl rfl rfl ?_;(first | refine S.gskip1 rfl ?_ | refine S.gskip rfl ?_ | refine S.y (Y.gskipU rfl) ?_);refine opsS_nil ?_;refine N.tn ?_))
     refine Q.dc rfl rfl rfl rfl ?_
     refine Q.r ?_;(repeat (intro b1;refine Q.r ?_))
     repeat (first | refine D.endA ?_ | refine Q.dp rfl rfl rfl ?_ | refine Q.dy rfl rfl rfl ?_ | refine D.end_ ?_ | refine Q.endH ?_ | (refine D.e rfl rfl rfl ?_;(first | refine S.gskip1 rfl ?_ | refine S.gskip rfl ?_ | refine S.y (Y.gskipU rfl) ?_);refine opsS_nil ?_;refine N.tn ?_))
     refine Q.r ?_;(repeat (intro b1;refine Q.r ?_))
     refine S.y (Y.add rfl rfl) ?_
     rw [wrap_u64 (by omega) (by omega)]
     refine Q.r ?_;(repeat (intro b1;refine Q.r ?_))
     refine ⟨(k + 1,z14,qs ++ [(v : Int)],a14,c14,a7,c7),⟨rfl,rfl,rfl,rfl,rfl,rfl,rfl,rfl,rfl,rfl,congrArg some (by simp [List.filter_append]),trivial⟩,?_,⟨hlt2,hk14,by dsimp only;rw [len_snoc,hql],fun w hw => ?_,hF⟩,Nat.sub_succ_lt_self np k hlt2⟩
     ·dsimp only [oneT,TV.cells,TVu]
      rw [len_snoc,List.map_append,List.map_cons,List.map_nil]
      exact Go.SX.Ent.go
     ·rcases List.mem_append.1 hw with hw | hw
      ·exact hqb w hw
      ·rw [List.mem_singleton] at hw;subst hw;exact ⟨by omega,by omega⟩
    ·have hkk : k = np := by omega
     subst hkk
     rw [Nat.sub_self] at hF
     obtain ⟨rfl,rfl⟩ : z = z12 ∧ qs = ps := by
      have := hF
      simp only [ptF,Prod.mk.injEq] at this
      exact this
     refine Q.r ?_;(repeat (intro b1;refine Q.r ?_))
     exact ⟨(a13,c13,pa,pc),⟨rfl,rfl,rfl,rfl,rfl,rfl,rfl,rfl,rfl,trivial⟩,by exact Go.SX.Ent.go,hk13,by omega,hqb⟩
   rintro ⟨a13,c13,pa,pc⟩ ⟨hk13,hpl,hpb⟩
   dsimp only at hk13 hpl hpb ⊢
   refine swp_abs pa (fun M3 hl3 hs3 => ?_)
   refine swp_seq ?_
   refine swp_cutT (σ := Unit) (fun _ => [(0,ptrG p),(1,.slice a bs.length c),(5,.pointer (some ⟨b5,0,none⟩)),(7,.pointer (some ⟨b7,0,none⟩)),(8,.pointer (some ⟨b8,0,none⟩)),(9,unF b7 b8 b5),(12,.pointer (some ⟨bt,0,none⟩)),(60,.int .u64 m),(61,.int .u64 i)]) (fun _ => rdS r a13 c13 z12 :: gdP b8 (z12.good && headK ps) :: rcP b7 r :: fcP b5 q :: gP q (JUn j e l) mt2 md2 :: roM M3 :: oneT (bt,TVu x y st pa pc ps) :: gD md2 (dnU bs).2 :: gT mt2 us :: trsH us :: gP p j mt md :: gT mt ts :: trsH ts :: gD md j.done :: L) (fun _ => True) ?_ ?_
   ·obtain ⟨zb,zbad,zg⟩ := z12
    dsimp only
    cases zg with
    | false =>
     refine Q.r ?_;(repeat (intro b1;refine Q.r ?_))
     rw [Bool.false_and]
     exact ⟨(),⟨rfl,rfl,rfl,rfl,rfl,rfl,rfl,rfl,rfl,trivial⟩,by exact Go.SX.Ent.go,trivial⟩
    | true =>
     cases ps with
     | nil =>
      refine Q.r ?_;(repeat (intro b1;refine Q.r ?_))
      rw [show headK [] = false from rfl,Bool.and_false]
      exact ⟨(),⟨rfl,rfl,rfl,rfl,rfl,rfl,rfl,rfl,rfl,trivial⟩,by exact Go.SX.Ent.go,trivial⟩
     | cons v0 vs =>
      obtain ⟨bp,op,hpa,cp⟩ := SlM.cm1 (g := I64) (k := 0) hs3 rfl rfl
      subst hpa
      have hvl : (v0 :: vs).length = vs.length + 1 := rfl
      by_cases h0 : 0 < v0
      ·refine Q.r ?_;(repeat (intro b1;refine Q.r ?_))
       rw [headK_cons,decide_eq_true h0,Bool.and_true]
       exact ⟨(),⟨rfl,rfl,rfl,rfl,rfl,rfl,rfl,rfl,rfl,trivial⟩,by exact Go.SX.Ent.go,trivial⟩
      ·refine Q.r ?_;(repeat (intro b1;refine Q.r ?_))
       rw [headK_cons,decide_eq_false h0,Bool.and_false]
       exact ⟨(),⟨rfl,rfl,rfl,rfl,rfl,rfl,rfl,rfl,rfl,trivial⟩,by exact Go.SX.Ent.go,trivial⟩
   rintro _ _
   refine Q.r ?_;(repeat (intro b1;refine Q.r ?_))
   refine swp_cutB (σ := Unit) (fun _ => [(0,ptrG p),(1,.slice a bs.length c),(5,.pointer (some ⟨b5,0,none⟩)),(7,.pointer (some ⟨b7,0,none⟩)),(8,.pointer (some ⟨b8,0,none⟩)),(9,unF b7 b8 b5),(12,.pointer (some ⟨bt,0,none⟩)),(60,.int .u64 m),(61,.int .u64 i)]) (fun _ => rdS r a13 c13 z12 :: gdP b8 (z12.good && headK ps && riseK ps ps.length) :: rcP b7 r :: fcP b5 q :: gP q (JUn j e l) mt2 md2 :: roM M3 :: oneT (bt,TVu x y st pa pc ps) :: gD md2 (dnU bs).2 :: gT mt2 us :: trsH us :: gP p j mt md :: gT mt ts :: trsH ts :: gD md j.done :: L) (fun _ => True) ?_ ?_
   ·refine swp_loop (σ := Nat) (fun k => [(0,ptrG p),(1,.slice a bs.length c),(5,.pointer (some ⟨b5,0,none⟩)),(7,.pointer (some ⟨b7,0,none⟩)),(8,.pointer (some ⟨b8,0,none⟩)),(9,unF b7 b8 b5),(12,.pointer (some ⟨bt,0,none⟩)),(60,.int .u64 m),(61,.int .u64 i),(125,.int .i64 ps.length),(126,.int .i64 k)]) (fun k => rdS r a13 c13 z12 :: gdP b8 (z12.good && headK ps && riseK ps k) :: rcP b7 r :: fcP b5 q :: gP q (JUn j e l) mt2 md2 :: roM M3 :: oneT (bt,TVu x y st pa pc ps) :: gD md2 (dnU bs).2 :: gT mt2 us :: trsH us :: gP p j mt md :: gT mt ts :: trsH ts :: gD md j.done :: L) (fun k => k ≤ ps.length) (fun k => ps.length - k) 0 ⟨rfl,rfl,rfl,rfl,rfl,rfl,rfl,rfl,rfl,rfl,rfl,trivial⟩ (by rw [riseK_zero,Bool.and_true];exact Go.SX.Ent.go) (Nat.zero_le _) ?_
    intro k hk
    by_cases hlt2 : k < ps.length
    ·obtain ⟨w,hw⟩ := mem_get hlt2
     obtain ⟨bp,op,hpa,cp⟩ := SlM.cm1 (g := I64) hs3 hw rfl
     subst hpa
     have hS := riseK_succ ps k
     rw [getD_of hw] at hS
     generalize hG : (z12.good && headK ps && riseK ps k) = g
     have hG2 : (z12.good && headK ps && riseK ps (k + 1)) = (g && decide (k = 0 ∨ ps.getD (k - 1) 0 < w)) := by rw [hS,← Bool.and_assoc,hG]
     refine Q.r ?_;(repeat (intro b1;refine Q.r ?_))
     cases g with
     | false =>
      refine Q.dgo [false,true,false,false,false,true,true,false,false,false,false,false,false,false] [25] [25] [0,1,2,3,4,5,6,7,8,9,10,11,12,13,14,15,16,17,18,19,20,21,22,23,24,25] ?_
      repeat (first | refine D.endA ?_ | refine Q.dp rfl rfl rfl ?_ | refine Q.dy rfl rfl rfl ?_ | refine D.end_ ?_ | refine Q.endH ?_ | (refine D.e rfl rfl rfl ?_;(first | refine S.gskip1 rfl ?_ | refine S.gskip rfl ?_ | refine S.y (Y.gskipU rfl) ?_);refine opsS_nil ?_;refine N.tn ?_) | refine Q.dT rfl rfl rfl ?_ | refine Q.dF rfl rfl rfl ?_)
      refine Q.dc rfl rfl rfl rfl ?_
      refine Q.r ?_;(repeat (intro b1;refine Q.r ?_))
      repeat (first | refine D.endA ?_ | refine Q.dp rfl rfl rfl ?_ | refine Q.dy rfl rfl rfl ?_ | refine D.end_ ?_ | refine Q.endH ?_ | (refine D.e rfl rfl rfl ?_;(first | refine S.gskip1 rfl ?_ | refine S.gskip rfl ?_ | refine S.y (Y.gskipU rfl) ?_);refine opsS_nil ?_;refine N.tn ?_))
      refine Q.r ?_;(repeat (intro b1;refine Q.r ?_))
      exact ⟨k + 1,⟨rfl,rfl,rfl,rfl,rfl,rfl,rfl,rfl,rfl,rfl,rfl,trivial⟩,by rw [hG2,Bool.false_and];exact Go.SX.Ent.go,hlt2,Nat.sub_succ_lt_self ps.length k hlt2⟩
     | true =>
      by_cases hk0' : k = 0
      ·refine Q.dgo [false,true,false,false,false,true,true,false,false,false,false,false,false,false] [25] [25] [0,1,2,3,4,5,6,7,8,9,10,11,12,13,14,15,16,17,18,19,20,21,22,23,24,25] ?_
       repeat (first | refine D.endA ?_ | refine Q.dp rfl rfl rfl ?_ | refine Q.dy rfl rfl rfl ?_ | refine D.end_ ?_ | refine Q.endH ?_ | (refine D.e rfl rfl rfl ?_;(first | refine S.gskip1 rfl ?_ | refine S.gskip rfl ?_ | refine S.y (Y.gskipU rfl) ?_);refine opsS_nil ?_;refine N.tn ?_) | refine Q.dT rfl rfl rfl ?_ | refine Q.dF rfl rfl rfl ?_)
       refine Q.dc rfl rfl rfl rfl ?_
       refine Q.r ?_;(repeat (intro b1;refine Q.r ?_))
       repeat (first | refine D.endA ?_ | refine Q.dp rfl rfl rfl ?_ | refine Q.dy rfl rfl rfl ?_ | refine D.end_ ?_ | refine Q.endH ?_ | (refine D.e rfl rfl rfl ?_;(first | refine S.gskip1 rfl ?_ | refine S.gskip rfl ?_ | refine S.y (Y.gskipU rfl) ?_);refine opsS_nil ?_;refine N.tn ?_))
       refine Q.r ?_;(repeat (intro b1;refine Q.r ?_))
       exact ⟨k + 1,⟨rfl,rfl,rfl,rfl,rfl,rfl,rfl,rfl,rfl,rfl,rfl,trivial⟩,by rw [hG2,decide_eq_true (Or.inl hk0'),Bool.and_true];exact Go.SX.Ent.go,hlt2,Nat.sub_succ_lt_self ps.length k hlt2⟩
      ·obtain ⟨u,hu⟩ := mem_get (l := ps) (k := k - 1) (by omega)
       obtain ⟨bp2,op2,hpa2,cp2⟩ := SlM.cm1 (g := I64) hs3 hu rfl
       obtain ⟨rfl,rfl⟩ : bp2 = bp ∧ op2 = op := by
        simp only [Option.some.injEq,Addr.mk.injEq] at hpa2
        exact ⟨hpa2.1.symm,hpa2.2.1.symm⟩
       have hk1' : (k : Int) - 1 = ((k - 1 : Nat) : Int) := by omega
       have hk2' : k - 1 < ps.length := by omega
       have hw3 : decide (k = 0 ∨ ps.getD (k - 1) 0 < w) = decide (u < w) := by
        rw [getD_of hu,decide_eq_decide]
        exact ⟨fun h => h.elim (fun h => absurd h hk0') id,Or.inr⟩
       refine Q.dgo [false,true,false,false,false,true,true,false,false,false,false,false,false,false] [25] [25] [0,1,2,3,4,5,6,7,8,9,10,11,12,13,14,15,16,17,18,19,20,21,22,23,24,25] ?_
       repeat (first | refine D.endA ?_ | refine Q.dp rfl rfl rfl ?_ | refine Q.dy rfl rfl rfl ?_ | refine D.end_ ?_ | refine Q.endH ?_ | (refine D.e rfl rfl rfl ?_;(first | refine S.gskip1 rfl ?_ | refine S.gskip rfl ?_ | refine S.y (Y.gskipU rfl) ?_);refine opsS_nil ?_;refine N.tn ?_) | refine Q.dT rfl rfl rfl ?_ | refine Q.dF rfl rfl rfl ?_)
       refine D.y rfl rfl rfl (by kernel_rfl) (Y.guard rfl (Y.ia (k := k - 1) (m := ps.length) rfl rfl hk1' hk2')) ?_
       repeat (first | refine D.endA ?_ | refine Q.dp rfl rfl rfl ?_ | refine Q.dy rfl rfl rfl ?_ | refine D.end_ ?_ | refine Q.endH ?_ | (refine D.e rfl rfl rfl ?_;(first | refine S.gskip1 rfl ?_ | refine S.gskip rfl ?_ | refine S.y (Y.gskipU rfl) ?_);refine opsS_nil ?_;refine N.tn ?_) | refine Q.dT rfl rfl rfl ?_ | refine Q.dF rfl rfl rfl ?_)
       refine Q.dc rfl rfl rfl rfl ?_
       refine Q.r ?_;(repeat (intro b1;refine Q.r ?_))
       repeat (first | refine D.endA ?_ | refine Q.dp rfl rfl rfl ?_ | refine Q.dy rfl rfl rfl ?_ | refine D.end_ ?_ | refine Q.endH ?_ | (refine D.e rfl rfl rfl ?_;(first | refine S.gskip1 rfl ?_ | refine S.gskip rfl ?_ | refine S.y (Y.gskipU rfl) ?_);refine opsS_nil ?_;refine N.tn ?_))
       refine Q.r ?_;(repeat (intro b1;refine Q.r ?_))
       exact ⟨k + 1,⟨rfl,rfl,rfl,rfl,rfl,rfl,rfl,rfl,rfl,rfl,rfl,trivial⟩,by rw [hG2,hw3,Bool.true_and];exact Go.SX.Ent.go,hlt2,Nat.sub_succ_lt_self ps.length k hlt2⟩
    ·have hke : k = ps.length := by omega
     subst hke
     refine Q.r ?_;(repeat (intro b1;refine Q.r ?_))
     exact ⟨(),⟨rfl,rfl,rfl,rfl,rfl,rfl,rfl,rfl,rfl,trivial⟩,by exact Go.SX.Ent.go,trivial⟩
   rintro _ _
   have hT := triF_eq e8 e9 e10 e11 e12
   rw [hT] at hD
   dsimp only at hD
   refine Q.dgo [false,false,false,true,true,false,true,false,false,false,false,false,false,false] [10] [] [0,1,2,3,4,5,6,7,8,9,10] ?_
   repeat (first | refine D.endA ?_ | refine Q.dp rfl rfl rfl ?_ | refine Q.dy rfl rfl rfl ?_ | refine D.end_ ?_ | refine Q.endH ?_ | (refine D.e rfl rfl rfl ?_;(first | refine S.gskip1 rfl ?_ | refine S.gskip rfl ?_ | refine S.y (Y.gskipU rfl) ?_);refine opsS_nil ?_;refine N.tn ?_))
   refine D.e rfl rfl rfl ?_
   refine S.mu (g := U64) (q := (x : Int)) (r := ptT) (u := ((bt,TVu x y st pa pc ps) : Nat × TV)) rfl rfl rfl ?_
   refine Q.r ?_;(repeat (intro b1;refine Q.r ?_))
   refine Q.rd ?_;(repeat (intro b1;refine Q.rd ?_))
   refine Q.r ?_;(repeat (intro b1;refine Q.r ?_))
   refine S.y (Y.add rfl rfl) ?_
   rw [wrap_u64 (by omega) (by omega)]
   refine Q.r ?_;(repeat (intro b1;refine Q.r ?_))
   refine ⟨(i + 1,{ z12 with good := z12.good && headK ps && riseK ps ps.length },a13,c13,M3,putL us (x : Int) (bt,TVu x y st pa pc ps)),⟨rfl,rfl,rfl,rfl,rfl,rfl,rfl,congrArg some (by simp [List.filter_append]),trivial⟩,?_,⟨hlt,⟨hk13.sl.mono hl3,hk13.c,hk13.b⟩,hl2.trans hl3,fun w hw => ?_,putL_ok hko _ _,?_⟩,Nat.sub_succ_lt_self m i hlt⟩
   ·dsimp only
    refine Ent.trans (M := oneT (bt,TVu x y st pa pc ps) :: trsH us :: rdS r a13 c13 z12 :: gdP b8 (z12.good && headK ps && riseK ps ps.length) :: rcP b7 r :: fcP b5 q :: gP q (JUn j e l) mt2 md2 :: gD md2 (dnU bs).2 :: gT mt2 (putL us (x : Int) (bt,TVu x y st pa pc ps)) :: gP p j mt md :: gT mt ts :: trsH ts :: gD md j.done :: roM M3 :: L) (by exact Go.SX.Ent.go) ?_
    refine Ent.trans (trs_put hko (x : Int) _) ?_
    exact Go.SX.Ent.go
   ·dsimp only at hw ⊢
    have hw2 : w.2 = (bt,TVu x y st pa pc ps) ∨ w ∈ us := by
     rcases putL_memG hw with h | h
     ·exact .inr h
     ·exact .inl (by rw [h])
    rcases hw2 with e | hw
    ·rw [e]
     exact ⟨hs3,SlM.nil0,SlM.nil0,SlM.nil0,fun o ho => (by cases ho),(by show ps.length ≤ _;omega),Nat.zero_le _,Nat.zero_le _,Nat.zero_le _⟩
    ·exact (huo w hw).mono hl3
   ·dsimp only
    rw [putL_map (κ := Int) (α := Nat × TV) (fun u => u.2.abs) us (x : Int) (bt,TVu x y st pa pc ps)]
    exact hD
  ·have him : i = m := by omega
   subst him
   rw [Nat.sub_self] at hD
   rw [← hD]
   refine Q.r ?_;(repeat (intro b1;refine Q.r ?_))
   exact ⟨(a7,c7,M2,us),⟨rfl,rfl,rfl,rfl,rfl,trivial⟩,Ent.refl _,hk,hl2,rfl,huo⟩
 rintro ⟨a14,c14,M2,us⟩ ⟨hk14,hl14,hus,huo⟩
 dsimp only at hk14 hl14 hus huo ⊢
 have hG : unG j.shards j.dim bs = ⟨j.shards,j.dim,e,0,l,(trU j.shards.toNat bs).2,(dnU bs).2⟩ := by unfold unG;rw [eh]
 have hlM := hl1.trans hl14
 have hqG : GQ' M2 (unG j.shards j.dim bs) us := by rw [hG];exact ⟨s1,s2,hus,huo⟩
 have hshut : ∀ L',Ent (gP q (JUn j e l) mt2 md2 :: gT mt2 us :: trsH us :: gD md2 (dnU bs).2 :: L') (jdgH M2 q (unG j.shards j.dim bs) :: L') := fun L' => by
  have := jdg_shut (p := q) (mt := mt2) (md := md2) (L := L') hqG
  rw [hG] at this ⊢
  exact this
 obtain ⟨hpb,htl⟩ := unG_pb (dim := j.dim) s1 s2 bs
 have hlen := unG_len (sh := j.shards) (dim := j.dim) (bs := bs)
 refine Q.r ?_;(repeat (intro b1;refine Q.r ?_))
 refine S.c1 (A := rdS r a14 c14 (trU j.shards.toNat bs).1) rfl (rEnd_spec r a14 c14 (trU j.shards.toNat bs).1.bs (trU j.shards.toNat bs).1.bad _) ?_
 rintro _ _ ⟨rfl,rfl⟩
 by_cases hend : endF (trU j.shards.toNat bs).1.bs (trU j.shards.toNat bs).1.bad = 0
 ·have hdl := hlen hend
  rw [hend]
  cases hgd : (trU j.shards.toNat bs).1.good with
  | true =>
   refine Q.r ?_;(repeat (intro b1;refine Q.r ?_))
   refine opsS_ent (Ent.trans (M := gP q (JUn j e l) mt2 md2 :: gT mt2 us :: trsH us :: gD md2 (dnU bs).2 :: roM M2 :: fcP b5 q :: gP p j mt md :: gT mt ts :: trsH ts :: gD md j.done :: L) (by exact Go.SX.Ent.go) (hshut _)) ?_
   refine S.cg q rfl (GPack_specB M2 q (unG j.shards j.dim bs) _ hpb (by omega) (by omega)) ?_
   rintro _ _ ⟨ap,cp,M4,rfl,hl4,rfl⟩
   refine Q.r ?_;(repeat (intro b1;refine Q.r ?_))
   refine opsS_abs ap (fun M5 hl5 hs5 => ?_)
   have hlM5 := hlM.trans (hl4.trans hl5)
   refine S.c1 (A := roM M5) rfl (equalB_spec ap a cp c (packG (unG j.shards j.dim bs)) bs M5 _ hs5 (hs.mono hlM5) (by omega)) ?_
   rintro _ _ ⟨rfl,rfl⟩
   by_cases hpk : packG (unG j.shards j.dim bs) = bs
   ·rw [decide_eq_true hpk]
    have hok : unOK j.shards j.dim bs := ⟨hend,hgd,hpk⟩
    refine Q.r ?_;(repeat (intro b1;refine Q.r ?_))
    by_cases he0 : 0 < j.epoch
    ·have hfu := unE_full hok (.inl he0)
     refine Q.dgo [false,false,false,true,true,false,true] [] [] [0,1,2,3,4,5,6,7,8,9,10,11,12,13,14,15,16,17,18,19,20,21,22,23,24,25] ?_
     repeat (first | refine D.endA ?_ | refine Q.dy rfl rfl rfl ?_ | refine Q.dp rfl rfl rfl ?_ | refine D.end_ ?_ | refine Q.endH ?_ | (refine D.e rfl rfl rfl ?_;(first | refine S.gskip1 rfl ?_ | refine S.gskip rfl ?_ | refine S.y (Y.gskipU rfl) ?_);refine opsS_nil ?_;refine N.tn ?_) | refine Q.dT rfl rfl rfl ?_ | refine Q.dF rfl rfl rfl ?_)
     refine Q.r ?_;(repeat (intro b1;refine Q.r ?_))
     rw [hfu.1,hfu.2]
     exact N.r1 (RV.tmp rfl RV.nil) (Ent.trans (M := gP p j mt md :: gT mt ts :: trsH ts :: gD md j.done :: roM M5 :: L) (by exact Go.SX.Ent.go) (jdg_shut (hq.mono hlM5))) ⟨rfl,M5,hlM5,rfl⟩
    ·by_cases hl0 : 0 < j.last
     ·have hfu := unE_full hok (.inr (.inl hl0))
      refine Q.dgo [false,false,false,true,true,false,true] [] [] [0,1,2,3,4,5,6,7,8,9,10,11,12,13,14,15,16,17,18,19,20,21,22,23,24,25] ?_
      repeat (first | refine D.endA ?_ | refine Q.dy rfl rfl rfl ?_ | refine Q.dp rfl rfl rfl ?_ | refine D.end_ ?_ | refine Q.endH ?_ | (refine D.e rfl rfl rfl ?_;(first | refine S.gskip1 rfl ?_ | refine S.gskip rfl ?_ | refine S.y (Y.gskipU rfl) ?_);refine opsS_nil ?_;refine N.tn ?_) | refine Q.dT rfl rfl rfl ?_ | refine Q.dF rfl rfl rfl ?_)
      refine Q.r ?_;(repeat (intro b1;refine Q.r ?_))
      rw [hfu.1,hfu.2]
      exact N.r1 (RV.tmp rfl RV.nil) (Ent.trans (M := gP p j mt md :: gT mt ts :: trsH ts :: gD md j.done :: roM M5 :: L) (by exact Go.SX.Ent.go) (jdg_shut (hq.mono hlM5))) ⟨rfl,M5,hlM5,rfl⟩
     ·by_cases hz : 0 < j.done.length + j.tr.length
      ·have hfu := unE_full hok (.inr (.inr hz))
       refine Q.dgo [false,false,false,true,true,false,true] [] [] [0,1,2,3,4,5,6,7,8,9,10,11,12,13,14,15,16,17,18,19,20,21,22,23,24,25] ?_
       repeat (first | refine D.endA ?_ | refine Q.dy rfl rfl rfl ?_ | refine Q.dp rfl rfl rfl ?_ | refine D.end_ ?_ | refine Q.endH ?_ | (refine D.e rfl rfl rfl ?_;(first | refine S.gskip1 rfl ?_ | refine S.gskip rfl ?_ | refine S.y (Y.gskipU rfl) ?_);refine opsS_nil ?_;refine N.tn ?_) | refine Q.dT rfl rfl rfl ?_ | refine Q.dF rfl rfl rfl ?_)
       refine Q.r ?_;(repeat (intro b1;refine Q.r ?_))
       rw [hfu.1,hfu.2]
       exact N.r1 (RV.tmp rfl RV.nil) (Ent.trans (M := gP p j mt md :: gT mt ts :: trsH ts :: gD md j.done :: roM M5 :: L) (by exact Go.SX.Ent.go) (jdg_shut (hq.mono hlM5))) ⟨rfl,M5,hlM5,rfl⟩
      ·have hfu := unE_ok hok (fun h => h.elim he0 fun h => h.elim hl0 hz)
       refine Q.dgo [false,false,false,true,true,false,true] [] [] [0,1,2,3,4,5,6,7,8,9,10,11,12,13,14,15,16,17,18,19,20,21,22,23,24,25] ?_
       repeat (first | refine D.endA ?_ | refine Q.dy rfl rfl rfl ?_ | refine Q.dp rfl rfl rfl ?_ | refine D.end_ ?_ | refine Q.endH ?_ | (refine D.e rfl rfl rfl ?_;(first | refine S.gskip1 rfl ?_ | refine S.gskip rfl ?_ | refine S.y (Y.gskipU rfl) ?_);refine opsS_nil ?_;refine N.tn ?_) | refine Q.dT rfl rfl rfl ?_ | refine Q.dF rfl rfl rfl ?_)
       refine Q.r ?_;(repeat (intro b1;refine Q.r ?_))
       refine opsS_jdg q (fun mt3 md3 us3 hq3 => ?_)
       refine Q.r ?_;(repeat (intro b1;refine Q.r ?_))
       rw [hfu.1,hfu.2]
       exact N.r1 (RV.tmp rfl RV.nil) (Ent.trans (M := gP p (unG j.shards j.dim bs) mt3 md3 :: gT mt3 us3 :: trsH us3 :: gD md3 (unG j.shards j.dim bs).done :: roM M5 :: L) (by exact Go.SX.Ent.go) (jdg_shut (hq3.mono hl5))) ⟨rfl,M5,hlM5,rfl⟩
   ·rw [decide_eq_false hpk]
    have hno := unE_no (j := j) (bs := bs) (fun h => hpk h.2.2)
    refine Q.r ?_;(repeat (intro b1;refine Q.r ?_))
    rw [hno.1,hno.2]
    exact N.r1 (RV.tmp rfl RV.nil) (Ent.trans (M := gP p j mt md :: gT mt ts :: trsH ts :: gD md j.done :: roM M5 :: L) (by exact Go.SX.Ent.go) (jdg_shut (hq.mono hlM5))) ⟨rfl,M5,hlM5,rfl⟩
  | false =>
   have hno := unE_no (j := j) (bs := bs) (fun h => by have := h.2.1;rw [hgd] at this;cases this)
   refine Q.r ?_;(repeat (intro b1;refine Q.r ?_))
   rw [hno.1,hno.2]
   exact N.r1 (RV.tmp rfl RV.nil) (Ent.trans (M := gP p j mt md :: gT mt ts :: trsH ts :: gD md j.done :: roM M2 :: L) (by exact Go.SX.Ent.go) (jdg_shut (hq.mono hlM))) ⟨rfl,M2,hlM,rfl⟩
 ·have hno := unE_no (j := j) (bs := bs) (fun h => hend h.1)
  refine Q.r ?_;(repeat (intro b1;refine Q.r ?_))
  rw [hno.1,hno.2]
  exact N.r1 (RV.tmp rfl RV.nil) (Ent.trans (M := gP p j mt md :: gT mt ts :: trsH ts :: gD md j.done :: roM M2 :: L) (by exact Go.SX.Ent.go) (jdg_shut (hq.mono hlM))) ⟨rfl,M2,hlM,rfl⟩
end Go.Proofs.YtiampehfpgcogaaGreatDoor
namespace Go.Proofs.YtiampehfpgcogaaGreatDoor
open Go Go.SX
theorem rdF_ok {z : Int} {most : Nat} {g : Bool} {rest : List UInt8} (h0 : 0 ≤ z) (h1 : z ≤ most) (hm : z ≤ 18446744073709551615) : rdF most ⟨numI z ++ rest,0,g⟩ = (z.toNat,⟨rest,0,g⟩) := by
 unfold rdF
 dsimp only
 rw [numF_numI rest h0 hm h1]
theorem stF_ok {z : Int} {last : Nat} {rest : List UInt8} (h0 : 0 < z) (h1 : z ≤ last) (h2 : z ≤ 1099511627776) : stF last ⟨numI z ++ rest,0,true⟩ = (z.toNat,⟨rest,0,true⟩) := by
 unfold stF
 rw [rdF_ok (by omega) (by omega) (by omega)]
 have e1 : decide (0 < z.toNat) = true := decide_eq_true (by omega)
 have e2 : decide (z.toNat ≤ last) = true := decide_eq_true (by omega)
 simp only [e1,e2,Bool.and_true]
theorem numI_ne (z : Int) : (numI z).length ≠ 0 := by
 unfold numI
 split
 ·simp
 ·rw [numB]
  split <;> simp
theorem dnF_ok {last : Nat} (hl : last ≤ 1099511627776) {rest : List UInt8} (hr : rest.length ≠ 0) : ∀ (ds acc : List (Int × Int)),(∀ d ∈ ds,0 ≤ d.1 ∧ d.1 ≤ 18446744073709551615 ∧ 0 < d.2 ∧ d.2 ≤ last) → keysOK (acc ++ ds) →
  dnF last ds.length (⟨ds.flatMap packD ++ rest,0,true⟩,acc) = (⟨rest,0,true⟩,acc ++ ds)
 | [],acc,_,_ => by
  unfold dnF
  simp
 | d :: ds,acc,h,hk => by
  obtain ⟨a,b,c,e⟩ := h d List.mem_cons_self
  have e1 : (d :: ds).flatMap packD ++ rest = numI d.1 ++ (numI d.2 ++ (ds.flatMap packD ++ rest)) := by
   rw [List.flatMap_cons];unfold packD;simp only [List.append_assoc]
  have hne : (ds.flatMap packD ++ rest).length ≠ 0 := by rw [List.length_append];omega
  have hno : ∀ u ∈ acc,u.1 ≠ d.1 := by
   unfold keysOK at hk
   rw [List.map_append,List.nodup_append] at hk
   intro u hu
   exact hk.2.2 u.1 (List.mem_map_of_mem hu) d.1 (by simp)
  rw [e1,List.length_cons]
  unfold dnF
  dsimp only
  rw [rdF_ok a (by omega) b,stF_ok c e (by omega)]
  dsimp only
  rw [if_neg hne,Int.toNat_of_nonneg a,Int.toNat_of_nonneg (by omega),putL_none hno]
  have := dnF_ok hl hr ds (acc ++ [(d.1,d.2)]) (fun x hx => h x (List.mem_cons_of_mem _ hx)) (by rw [List.append_assoc];exact hk)
  rw [this,List.append_assoc]
  rfl
theorem ptF_ok {sh : Nat} {g : Bool} {rest : List UInt8} : ∀ (ps acc : List Int),(∀ q ∈ ps,0 ≤ q ∧ q ≤ sh ∧ q ≤ 18446744073709551615) → ptF sh ps.length (⟨ps.flatMap numI ++ rest,0,g⟩,acc) = (⟨rest,0,g⟩,acc ++ ps)
 | [],acc,_ => by
  unfold ptF
  simp
 | q :: ps,acc,h => by
  obtain ⟨a,b,c⟩ := h q List.mem_cons_self
  have e1 : (q :: ps).flatMap numI ++ rest = numI q ++ (ps.flatMap numI ++ rest) := by rw [List.flatMap_cons,List.append_assoc]
  rw [e1,List.length_cons]
  unfold ptF
  dsimp only
  rw [rdF_ok a b c]
  dsimp only
  rw [Int.toNat_of_nonneg a,ptF_ok ps (acc ++ [q]) fun x hx => h x (List.mem_cons_of_mem _ hx),List.append_assoc]
  rfl
structure TU (sh last : Nat) (t : TR) : Prop where
 x0 : 0 ≤ t.txn
 x1 : t.txn ≤ 18446744073709551615
 b0 : 0 ≤ t.batch
 b1 : t.batch ≤ 18446744073709551615
 s0 : 0 < t.stamp
 s1 : t.stamp ≤ last
 r : Rise t.parts
 pl : t.parts.length ≤ 4
 pn : t.parts ≠ []
 pb : ∀ q ∈ t.parts,1 ≤ q ∧ q ≤ sh
abbrev TR.bare (t : TR) : TR := ⟨t.txn,t.batch,t.stamp,0,0,t.parts,[],[],[]⟩
theorem rise_ok {ps : List Int} (h : Rise ps) : riseK ps ps.length = true := by
 unfold riseK
 refine decide_eq_true fun i hi => ?_
 by_cases h0 : i = 0
 ·exact .inl h0
 ·right
  obtain ⟨u,hu⟩ := mem_get (l := ps) (k := i - 1) (by omega)
  obtain ⟨w,hw⟩ := mem_get hi
  rw [getD_of hu,getD_of hw]
  obtain ⟨a,rfl⟩ := List.getElem?_eq_some_iff.1 hu
  obtain ⟨b,rfl⟩ := List.getElem?_eq_some_iff.1 hw
  exact List.pairwise_iff_getElem.1 h (i - 1) i a b (by omega)
theorem triF_ok {sh last : Nat} (hl : last ≤ 1099511627776) (hs : sh ≤ 4) {t : TR} (h : TU sh last t) (rest : List UInt8) : triF sh last ⟨packT t ++ rest,0,true⟩ = (⟨rest,0,true⟩,t.bare) := by
 have e1 : packT t ++ rest = numI t.txn ++ (numI t.batch ++ (numI t.stamp ++ (numI (t.parts.length : Int) ++ (t.parts.flatMap numI ++ rest)))) := by unfold packT;simp only [List.append_assoc]
 have hpl := h.pl
 have h0 := h.x0
 have h2 := h.b0
 have h4 := h.s0
 have h5 := h.s1
 have hP : ptF sh ((t.parts.length : Int)).toNat (⟨t.parts.flatMap numI ++ rest,0,true⟩,[]) = (⟨rest,0,true⟩,t.parts) := by
  rw [Int.toNat_natCast,ptF_ok t.parts [] fun q hq => ⟨by have := h.pb q hq;omega,(h.pb q hq).2,by have := h.pb q hq;omega⟩]
  rfl
 rw [e1,triF_eq (rdF_ok h.x0 (by have := h.x1;omega) h.x1) (rdF_ok h.b0 (by have := h.b1;omega) h.b1) (stF_ok h.s0 h.s1 (by omega)) (rdF_ok (Int.natCast_nonneg _) (by omega) (by omega)) hP]
 have hh : headK t.parts = true := by
  cases hp : t.parts with
  | nil => exact absurd hp h.pn
  | cons v vs =>
   rw [headK_cons]
   exact decide_eq_true (by have := (h.pb v (by rw [hp];exact List.mem_cons_self)).1;omega)
 rw [hh,rise_ok h.r,Int.toNat_of_nonneg h0,Int.toNat_of_nonneg h2,Int.toNat_of_nonneg (by omega)]
 rfl
theorem trF_ok {sh last : Nat} (hl : last ≤ 1099511627776) (hs : sh ≤ 4) {rest : List UInt8} : ∀ (ts : List TR) (acc : List (Int × TR)),(∀ t ∈ ts,TU sh last t) → (∀ u ∈ acc,∀ t ∈ ts,u.1 ≠ t.txn) → (ts.map TR.txn).Nodup →
  trF sh last ts.length (⟨ts.flatMap packT ++ rest,0,true⟩,acc) = (⟨rest,0,true⟩,acc ++ ts.map fun t => (t.txn,t.bare))
 | [],acc,_,_,_ => by
  unfold trF
  simp
 | t :: ts,acc,h,hd,hn => by
  have e1 : (t :: ts).flatMap packT ++ rest = packT t ++ (ts.flatMap packT ++ rest) := by rw [List.flatMap_cons,List.append_assoc]
  rw [List.map_cons,List.nodup_cons] at hn
  rw [e1,List.length_cons]
  unfold trF
  dsimp only
  rw [triF_ok hl hs (h t List.mem_cons_self)]
  dsimp only
  rw [putL_none fun u hu => hd u hu t List.mem_cons_self]
  rw [trF_ok hl hs ts (acc ++ [(t.txn,t.bare)]) (fun x hx => h x (List.mem_cons_of_mem _ hx)) (fun u hu x hx => by
   rcases List.mem_append.1 hu with hu | hu
   ·exact hd u hu x (List.mem_cons_of_mem _ hx)
   ·rw [List.mem_singleton] at hu
    subst hu
    intro e
    exact hn.1 (by rw [show t.txn = x.txn from e];exact List.mem_map_of_mem hx)) hn.2,List.append_assoc]
  rfl
end Go.Proofs.YtiampehfpgcogaaGreatDoor
namespace Go.Proofs.YtiampehfpgcogaaGreatDoor
open Go Go.SX
abbrev bareJ (j : JG) : JG := ⟨j.shards,j.dim,j.epoch,0,j.last,(comL j).map fun t => (t.txn,t.bare),dnL j⟩
theorem dnL_keys (j : JG) : (dnL j).map (·.1) = sortL (j.done.map (·.1)) := by
 unfold dnL
 rw [List.map_map]
 exact List.map_id' _
theorem dnL_ok {j : JG} (hk : keysOK j.done) : keysOK (dnL j) := by
 unfold keysOK
 rw [dnL_keys]
 exact (sortL_perm _).nodup_iff.2 hk
theorem dnL_lk {j : JG} (hk : keysOK j.done) {b : Int} (h : b ∈ sortL (j.done.map (·.1))) : lkL (dnL j) b = some ((lkL j.done b).getD 0) :=
 (lkL_iff (dnL_ok hk)).2 (List.mem_map_of_mem (f := fun b => (b,(lkL j.done b).getD 0)) h)
theorem dn_bare {j : JG} (hk : keysOK j.done) : dnL (bareJ j) = dnL j := by
 show (sortL ((dnL j).map (·.1))).map (fun b => (b,(lkL (dnL j) b).getD 0)) = dnL j
 rw [dnL_keys,sortL_eq (sortL_perm (j.done.map (·.1)))]
 unfold dnL
 refine List.map_congr_left fun b hb => ?_
 have := dnL_lk hk hb
 unfold dnL at this
 rw [this]
 rfl
theorem fm_map {f : Int → Option TR} : ∀ {l : List Int},(∀ x ∈ l,∃ t,f x = some t ∧ t.txn = x) → (l.filterMap f).map TR.txn = l
 | [],_ => rfl
 | x :: l,h => by
  obtain ⟨t,h1,h2⟩ := h x List.mem_cons_self
  rw [List.filterMap_cons,h1]
  dsimp only
  rw [List.map_cons,h2,fm_map fun y hy => h y (List.mem_cons_of_mem _ hy)]
theorem trsL_txns {j : JG} (h : PB j) : (trsL j).map TR.txn = sortL (j.tr.map (·.1)) := by
 unfold trsL
 refine fm_map fun x hx => ?_
 obtain ⟨t,ht⟩ := sort_lk hx h.kt
 exact ⟨t,ht,(h.lk ht).xx⟩
theorem comL_txns {j : JG} (h : PB j) : ((comL j).map TR.txn).Sublist (sortL (j.tr.map (·.1))) := by
 rw [← trsL_txns h]
 exact List.filter_sublist.map _
theorem comL_nodup {j : JG} (h : PB j) : ((comL j).map TR.txn).Nodup := (comL_txns h).nodup ((sortL_perm _).nodup_iff.2 h.kt)
theorem comL_sort {j : JG} (h : PB j) : sortL ((comL j).map TR.txn) = (comL j).map TR.txn := sorted_uniq (sortL_perm _) (sortL_sorted _) ((sortL_sorted _).sublist (comL_txns h))
theorem fm_of {f : Int → Option TR} : ∀ {l : List TR},(∀ t ∈ l,f t.txn = some t.bare) → (l.map TR.txn).filterMap f = l.map TR.bare
 | [],_ => rfl
 | t :: l,h => by
  rw [List.map_cons,List.filterMap_cons,h t List.mem_cons_self]
  dsimp only
  rw [fm_of fun y hy => h y (List.mem_cons_of_mem _ hy)]
  rfl
theorem com_bare {j : JG} (h : PB j) : comL (bareJ j) = (comL j).map TR.bare := by
 have hk : keysOK ((comL j).map fun t => (t.txn,t.bare)) := by
  unfold keysOK
  rw [List.map_map]
  exact comL_nodup h
 have e1 : trsL (bareJ j) = (comL j).map TR.bare := by
  show (sortL (((comL j).map fun t => (t.txn,t.bare)).map (·.1))).filterMap (fun x => lkL ((comL j).map fun t => (t.txn,t.bare)) x) = _
  rw [List.map_map]
  show (sortL ((comL j).map TR.txn)).filterMap _ = _
  rw [comL_sort h]
  exact fm_of fun t ht => (lkL_iff hk).2 (List.mem_map_of_mem (f := fun t : TR => (t.txn,t.bare)) ht)
 show (trsL (bareJ j)).filter com0 = _
 rw [e1]
 refine List.filter_eq_self.2 fun t ht => ?_
 obtain ⟨u,hu,rfl⟩ := List.mem_map.1 ht
 exact (List.mem_filter.1 hu).2
theorem pack_bare {j : JG} (h : PB j) : packG (bareJ j) = packG j := by
 unfold packG
 rw [dn_bare h.kd,com_bare h,List.length_map,List.flatMap_map]
 have e1 : packW (bareJ j) = packW j := by
  show numI j.epoch ++ numI j.last ++ numI ((dnL j).length : Int) = _
  have : (dnL j).length = j.done.length := by
   have := congrArg List.length (dnL_keys j)
   rw [List.length_map,sortL_len,List.length_map] at this
   exact this
  rw [this]
  rfl
 rw [e1]
 rfl
structure UO (j : JG) : Prop where
 pb : PB j
 s1 : 1 ≤ j.shards
 s2 : j.shards ≤ 4
 tl : (comL j).length ≤ 8
 dl : j.done.length ≤ 1048576
 ds : ∀ d ∈ j.done,0 ≤ d.1 ∧ 0 < d.2 ∧ d.2 ≤ j.last
 ts : ∀ t ∈ comL j,TU j.shards.toNat j.last.toNat t
theorem un_pack {j : JG} (h : UO j) : unG j.shards j.dim (packG j) = bareJ j ∧ unOK j.shards j.dim (packG j) := by
 have hb := h.pb
 have e0 := hb.e0
 have e1 := hb.e1
 have l0 := hb.l0
 have l1 := hb.l1
 have htl := h.tl
 have hdl := h.dl
 have hdn : (dnL j).length = j.done.length := by
  have := congrArg List.length (dnL_keys j)
  rw [List.length_map,sortL_len,List.length_map] at this
  exact this
 have eP : packG j = numI j.epoch ++ (numI j.last ++ (numI (j.done.length : Int) ++ ((dnL j).flatMap packD ++ (numI ((comL j).length : Int) ++ ((comL j).flatMap packT ++ []))))) := by
  unfold packG packW
  simp only [List.append_assoc,List.append_nil]
 obtain ⟨T,hT⟩ : ∃ T,T = (comL j).flatMap packT ++ [] := ⟨_,rfl⟩
 obtain ⟨R,hR⟩ : ∃ R,R = numI ((comL j).length : Int) ++ T := ⟨_,rfl⟩
 have hRn : R.length ≠ 0 := by rw [hR,List.length_append];have := numI_ne ((comL j).length : Int);omega
 rw [← hT,← hR] at eP
 have eH : hdF (packG j) = (j.epoch.toNat,j.last.toNat,⟨numI (j.done.length : Int) ++ ((dnL j).flatMap packD ++ R),0,true⟩) := by
  unfold hdF
  rw [eP,rdF_ok e0 (by omega) (by omega)]
  dsimp only
  rw [rdF_ok l0 (by omega) (by omega)]
 have eD : dnU (packG j) = (⟨R,0,true⟩,dnL j) := by
  unfold dnU
  rw [eH]
  dsimp only
  rw [rdF_ok (Int.natCast_nonneg _) (by omega) (by omega)]
  dsimp only
  rw [Int.toNat_natCast,← hdn]
  have := dnF_ok (last := j.last.toNat) (by omega) hRn (dnL j) [] (fun d hd => by
   obtain ⟨b,hbm,rfl⟩ := List.mem_map.1 hd
   obtain ⟨s,hs⟩ := dn_lk hbm hb.kd
   have hm := lk_memL hs
   have h1 := h.ds _ hm
   have h2 := hb.d _ hm
   dsimp only at h1 h2 ⊢
   rw [hs]
   exact ⟨h1.1,h2.1,h1.2.1,by show s ≤ _;omega⟩) (by rw [List.nil_append];exact dnL_ok hb.kd)
  rw [this]
  rfl
 have eT : trU j.shards.toNat (packG j) = (⟨[],0,true⟩,(comL j).map fun t => (t.txn,t.bare)) := by
  unfold trU
  rw [eH,eD]
  dsimp only
  rw [hR,rdF_ok (Int.natCast_nonneg _) (by omega) (by omega)]
  dsimp only
  have s2 := h.s2
  rw [Int.toNat_natCast,hT,trF_ok (by omega) (by omega) (comL j) [] h.ts (fun u hu => by cases hu) (comL_nodup hb)]
  rfl
 have eG : unG j.shards j.dim (packG j) = bareJ j := by
  unfold unG
  rw [eH,eD,eT]
  dsimp only
  rw [Int.toNat_of_nonneg e0,Int.toNat_of_nonneg l0]
 refine ⟨eG,?_,?_,?_⟩
 ·rw [eT]
  rfl
 ·rw [eT]
 ·rw [eG]
  exact pack_bare hb
end Go.Proofs.YtiampehfpgcogaaGreatDoor
namespace Go.Proofs.YtiampehfpgcogaaGreatDoor
open Go Go.SX
def UB (j : JG) : Prop := ∀ u ∈ j.tr,∀ v ∈ j.tr,u.2.stamp = 0 → v.2.stamp = 0 → u.2.batch = v.2.batch → u.1 = v.1
theorem UB.sub {j j' : JG} (h : UB j) (hs : ∀ u ∈ j'.tr,u ∈ j.tr) : UB j' := fun u hu v hv => h u (hs u hu) v (hs v hv)
theorem UB.zero : UB (JG0 3 2) := fun _ h => by cases h
end Go.Proofs.YtiampehfpgcogaaGreatDoor
namespace Go.Proofs.YtiampehfpgcogaaGreatDoor
open Go Go.SX
structure RT (j : JG) (x : Int) (t : TR) : Prop where
 n : t.parts ≠ []
 b : ∀ q ∈ t.parts,1 ≤ q ∧ q ≤ j.shards
 s : t.stamp ≤ j.last
 x : x < (j.epoch + 1) * 1048576
structure RV (j : JG) : Prop where
 tl : j.tr.length ≤ 8
 tr : ∀ u ∈ j.tr,RT j u.1 u.2
 dn : ∀ d ∈ j.done,d.2 ≤ j.last
theorem RV.zero (s d : Int) : RV (JG0 s d) := ⟨Nat.zero_le _,fun _ h => (by cases h),fun _ h => (by cases h)⟩
structure GN (j : JG) (n : NA) : Prop where
 c : n.kind = 17 → ∃ t,lkL j.tr n.txn = some t
 g : n.kind = 19 → j.tr.length < 8 ∧ n.parts ≠ [] ∧ (∀ q ∈ n.parts,1 ≤ q ∧ q ≤ j.shards) ∧ n.txn < (j.epoch + 1) * 1048576
theorem RT.up {j j' : JG} {x : Int} {t : TR} (h : RT j x t) (hs : j'.shards = j.shards) (hl : j.last ≤ j'.last) (he : j.epoch ≤ j'.epoch) : RT j' x t :=
 ⟨h.n,by rw [hs];exact h.b,by have := h.s;omega,by have := h.x;omega⟩
theorem putL_len_in {α : Type} {m : List (Int × α)} (hk : keysOK m) {x : Int} {a b : α} (h : lkL m x = some a) : (putL m x b).length = m.length := by
 rcases keyCase m hk x with ⟨p,c,q,rfl,hp,hq⟩ | hn
 ·rw [putL_mid hp hq];simp
 ·exact absurd rfl (hn _ ((lkL_iff hk).1 h))
theorem RV.app {j : JG} (h : RV j) (hw : WN j) {n : NA} (hn : GN j n) : RV (appG j n) := by
 by_cases hE : ¬ appGE j n = 0
 ·rw [appGno hE];exact h
 have hE : appGE j n = 0 := Classical.not_not.1 hE
 have hr := right_of_app hE
 by_cases h16 : n.kind = 16
 ·have hm : j.epoch < n.mark := by
   rw [appGE16 hr h16] at hE
   by_cases hm : n.mark ≤ j.epoch
   ·rw [if_pos hm] at hE;cases hE
   ·omega
  rw [appG16 hE h16]
  exact ⟨Nat.le_trans (List.length_filter_le _ _) h.tl,fun u hu => (h.tr u (List.mem_filter.1 hu).1).up rfl (Int.le_refl _) (by show j.epoch ≤ n.mark;omega),h.dn⟩
 by_cases h19 : n.kind = 19
 ·obtain ⟨a,b,c,d⟩ := hn.g h19
  rw [appG19 hE h19]
  refine ⟨?_,fun u hu => ?_,h.dn⟩
  ·have := putL_len j.tr n.txn (begT n)
   show (putL j.tr n.txn (begT n)).length ≤ 8
   omega
  ·have hq := fun u hu => (h.tr u hu).up (j' := { j with tr := putL j.tr n.txn (begT n),seq := if n.txn / 1048576 = j.epoch then max j.seq (n.txn % 1048576) else j.seq }) rfl (Int.le_refl _) (Int.le_refl _)
   rcases putL_memG hu with hu | rfl
   ·exact hq u hu
   ·exact ⟨b,c,hw.g.b.l0,d⟩
 by_cases h17 : n.kind = 17
 ·obtain ⟨t,ht⟩ := hn.c h17
  have hm := (lkL_iff hw.g.kt).1 ht
  have hT := h.tr _ hm
  rw [appG17 hE h17]
  have hl : j.last ≤ max j.last n.stamp := Int.le_max_left _ _
  refine ⟨?_,fun u hu => ?_,fun u hu => ?_⟩
  ·exact (putL_len_in hw.g.kt ht) ▸ h.tl
  ·rcases putL_memG hu with hu | rfl
   ·exact (h.tr u hu).up rfl hl (Int.le_refl _)
   ·rw [ht]
    exact ⟨hT.n,hT.b,Int.le_max_right _ _,hT.x⟩
  ·rcases putL_memG hu with hu | rfl
   ·exact Int.le_trans (h.dn u hu) hl
   ·exact Int.le_max_right _ _
 by_cases hww : n.kind = 20 ∨ n.kind = 21
 ·have hE2 := hE
  rw [appGEw hr hww] at hE2
  cases hz : lkL j.tr n.txn with
  | none => rw [hz] at hE2;cases hE2
  | some t =>
   rw [appGw hE hww hz]
   have hm := (lkL_iff hw.g.kt).1 hz
   have hT := h.tr _ hm
   have e1 : (saidT t n).stamp = t.stamp := by unfold saidT;split <;> rfl
   have e2 : (saidT t n).parts = t.parts := by unfold saidT;split <;> rfl
   refine ⟨(putL_len_in hw.g.kt hz) ▸ h.tl,fun u hu => ?_,h.dn⟩
   rcases putL_memG hu with hu | rfl
   ·exact (h.tr u hu).up rfl (Int.le_refl _) (Int.le_refl _)
   ·exact ⟨by rw [e2];exact hT.n,by rw [e2];exact hT.b,by rw [e1];exact hT.s,hT.x⟩
 ·by_cases he : n.kind = 18 ∨ n.kind = 22
  ·rw [appGe hE he]
   exact ⟨Nat.le_trans (List.length_filter_le _ _) h.tl,fun u hu => (h.tr u (List.mem_filter.1 hu).1).up rfl (Int.le_refl _) (Int.le_refl _),h.dn⟩
  ·unfold appGE at hE
   rw [if_neg (by rw [hr];decide),if_neg h16,if_neg h19,if_neg h17,if_neg (by omega)] at hE
   cases hE
theorem GN.of {j : JG} {n : NA} (h1 : n.kind ≠ 17) (h2 : n.kind ≠ 19) : GN j n := ⟨fun h => absurd h h1,fun h => absurd h h2⟩
theorem ask_zero {j : JG} {n : NA} (h : askE j n = 0) : n.ops ≠ [] ∧ j.tr.length < 8 ∧ j.seq < 1048575 := by
 unfold askE at h
 by_cases hc : checkV j.dim n.ops ≠ 0
 ·rw [if_pos hc] at h
  exact absurd h hc
 ·rw [if_neg hc] at h
  by_cases h2 : 8 ≤ j.tr.length ∨ 1048575 ≤ j.seq ∨ 1099511627776 ≤ j.last
  ·rw [if_pos h2] at h;cases h
  ·refine ⟨fun e => hc ?_,by omega,by omega⟩
   unfold checkV
   split
   ·decide
   ·rw [if_pos (by rw [e];rfl)];decide
theorem plan_gn {j : JG} (hw : WN j) (s1 : 1 ≤ j.shards) (fr : Int) (n : NA) : (∀ r ∈ (planG j fr n).rec_,GN j r) ∧ (∀ r ∈ (planG j fr n).notes,GN j r) ∧ ∀ r ∈ (planG j fr n).inst,GN j r := by
 have n0 : ∀ r ∈ ([] : List NA),GN j r := fun _ h => by cases h
 have m1 : ∀ x : NA,GN j x → ∀ r ∈ [x],GN j r := fun x hx r hr => by rw [List.mem_singleton.1 hr];exact hx
 unfold planG
 split
 ·exact ⟨n0,n0,n0⟩
 split
 ·unfold askG
  split
  ·exact ⟨n0,n0,n0⟩
  ·split
   ·exact ⟨n0,n0,n0⟩
   split
   ·exact ⟨n0,n0,n0⟩
   ·rename_i hz
    obtain ⟨a,b,c⟩ := ask_zero (Classical.not_not.1 hz)
    refine ⟨n0,m1 _ ⟨fun h => ?_,fun _ => ⟨b,partsG_ne a,(partsG_ok s1 n.ops).2,?_⟩⟩,n0⟩
    ·exact absurd (show (19 : Int) = 17 from h) (by decide)
    ·show j.epoch * 1048576 + j.seq + 1 < _
     omega
 split
 ·unfold voteG
  split
  ·exact ⟨n0,n0,n0⟩
  ·rename_i t ht
   split
   ·exact ⟨n0,n0,n0⟩
   split
   ·exact ⟨n0,m1 _ (GN.of (by show (22 : Int) ≠ 17;decide) (by show (22 : Int) ≠ 19;decide)),n0⟩
   split
   ·exact ⟨n0,n0,n0⟩
   split
   ·exact ⟨n0,m1 _ (GN.of (by show (20 : Int) ≠ 17;decide) (by show (20 : Int) ≠ 19;decide)),n0⟩
   ·refine ⟨m1 _ ⟨fun _ => ⟨t,?_⟩,fun h => absurd (show (17 : Int) = 19 from h) (by decide)⟩,n0,m1 _ (GN.of (by show (22 : Int) ≠ 17;decide) (by show (22 : Int) ≠ 19;decide))⟩
    show lkL j.tr t.txn = some t
    rw [(hw.g.lk ht).xx]
    exact ht
 split
 ·unfold ackG
  split
  ·exact ⟨n0,n0,n0⟩
  ·split
   ·exact ⟨n0,n0,n0⟩
   split
   ·exact ⟨n0,m1 _ (GN.of (by show (21 : Int) ≠ 17;decide) (by show (21 : Int) ≠ 19;decide)),n0⟩
   ·exact ⟨m1 _ (GN.of (by show (18 : Int) ≠ 17;decide) (by show (18 : Int) ≠ 19;decide)),n0,n0⟩
 split
 ·unfold probeG
  split
  ·exact ⟨n0,n0,n0⟩
  ·split <;> exact ⟨n0,n0,n0⟩
 ·exact ⟨n0,n0,n0⟩
theorem planRN (j : JG) (fr : Int) (n : NA) : (planG j fr n).rec_ = [] ∨ (planG j fr n).notes = [] := by
 unfold planG
 split
 ·exact .inl rfl
 split
 ·unfold askG
  split
  ·exact .inl rfl
  ·split
   ·exact .inl rfl
   split <;> exact .inl rfl
 split
 ·unfold voteG
  split
  ·exact .inl rfl
  ·split
   ·exact .inl rfl
   split
   ·exact .inl rfl
   split
   ·exact .inl rfl
   split
   ·exact .inl rfl
   ·exact .inr rfl
 split
 ·unfold ackG
  split
  ·exact .inl rfl
  ·split
   ·exact .inl rfl
   split
   ·exact .inl rfl
   ·exact .inr rfl
 split
 ·unfold probeG
  split
  ·exact .inl rfl
  ·split <;> exact .inl rfl
 ·exact .inl rfl
theorem RV.app1 {j : JG} (h : RV j) (hw : WN j) {l : List NA} (hl : l.length ≤ 1) (hg : ∀ r ∈ l,GN j r) : RV (appL j l) := by
 cases l with
 | nil => exact h
 | cons r l =>
  cases l with
  | nil =>
   have := h.app hw (hg r List.mem_cons_self)
   show RV (appG j r)
   exact this
  | cons x l =>
   rw [List.length_cons,List.length_cons] at hl
   omega
theorem RV.appL {l : List NA} : ∀ {j : JG},RV j → WN j → (∀ r ∈ l,NumA r ∧ r.kind ≠ 17 ∧ r.kind ≠ 19) → RV (appL j l) := by
 induction l with
 | nil => exact fun h _ _ => h
 | cons r l ih => exact fun h hw hl => ih (h.app hw (GN.of (hl r List.mem_cons_self).2.1 (hl r List.mem_cons_self).2.2)) (hw.app (hl r List.mem_cons_self).1) fun x hx => hl x (List.mem_cons_of_mem _ hx)
theorem RV.step {j : JG} (h : RV j) (hw : WN j) (s1 : 1 ≤ j.shards) (s2 : j.shards ≤ 4) {n : NA} (u : NumA n) (d fr : Int) (w : Bool) (hd : d % 11 ≠ 8) : RV (stepG j d fr n w) := by
 obtain ⟨g1,g2,g3⟩ := plan_gn hw s1 fr n
 obtain ⟨o1,o2,o3⟩ := plan_ones j fr n
 unfold stepG stepL
 rw [if_neg hd]
 split
 ·refine h.appL hw fun r hr => ⟨((quit_ok hw).1 r hr).1,?_⟩
  obtain ⟨t,_,rfl⟩ := List.mem_map.1 hr
  exact ⟨by show (22 : Int) ≠ 17;decide,by show (22 : Int) ≠ 19;decide⟩
 split
 ·exact h.app1 hw (Nat.le_refl _) fun r hr => by
   rw [List.mem_singleton.1 hr]
   exact GN.of (by show (16 : Int) ≠ 17;decide) (by show (16 : Int) ≠ 19;decide)
 split
 ·exact h.app1 hw o3 g3
 ·rcases planRN j fr n with e | e
  ·rw [e,List.nil_append]
   exact h.app1 hw o2 g2
  ·rw [e,List.append_nil]
   exact h.app1 hw o1 g1
end Go.Proofs.YtiampehfpgcogaaGreatDoor
namespace Go.Proofs.YtiampehfpgcogaaGreatDoor
open Go Go.SX
theorem RV.uo {j : JG} {k : Nat} (h : LS j k) (hv : RV j) : UO j := by
 have hw := h.w
 have hs := h.s
 refine ⟨hw.pb,by omega,by omega,?_,by have := h.d;omega,fun d hd => ⟨(hw.d d hd).1,hw.g.dp d hd,hv.dn d hd⟩,fun t ht => ?_⟩
 ·have h1 : (comL j).length ≤ (trsL j).length := List.length_filter_le _ _
  have h2 := (trsL_perm hw.g.kt).length_eq
  rw [List.length_map] at h2
  have := hv.tl
  omega
 ·have hm := List.mem_filter.1 ht
  have hl := trs_mem hw hm.1
  have hW := hw.g.lk hl
  have hN := hw.lk hl
  have hR := hv.tr _ ((lkL_iff hw.g.kt).1 hl)
  have h0 : 0 < t.stamp := by simpa [com0] using hm.2
  have hl0 := hw.g.b.l0
  have hsn : ((j.shards.toNat : Nat) : Int) = j.shards := Int.toNat_of_nonneg (by omega)
  have hln : ((j.last.toNat : Nat) : Int) = j.last := Int.toNat_of_nonneg hl0
  exact ⟨hW.x0,hN.x1,hN.b0,hN.b1,h0,by rw [hln];exact hR.s,hW.r,hW.pl,hR.n,fun q hq => by rw [hsn];exact hR.b q hq⟩
theorem appG_ep {j : JG} {n : NA} (h : n.kind ≠ 16) : (appG j n).epoch = j.epoch := by
 unfold appG
 split
 ·rfl
 split
 ·rfl
 split
 ·rfl
 split
 ·split <;> rfl
 ·rfl
theorem appL_ep {l : List NA} : ∀ {j : JG},(∀ r ∈ l,r.kind ≠ 16) → (appL j l).epoch = j.epoch := by
 induction l with
 | nil => exact fun _ => rfl
 | cons r l ih => exact fun h => (ih fun x hx => h x (List.mem_cons_of_mem _ hx)).trans (appG_ep (h r List.mem_cons_self))
theorem plan_k16 (j : JG) (fr : Int) (n : NA) : (∀ r ∈ (planG j fr n).rec_,r.kind ≠ 16) ∧ (∀ r ∈ (planG j fr n).notes,r.kind ≠ 16) ∧ ∀ r ∈ (planG j fr n).inst,r.kind ≠ 16 := by
 have n0 : ∀ r ∈ ([] : List NA),r.kind ≠ 16 := fun _ h => by cases h
 have m1 : ∀ x : NA,x.kind ≠ 16 → ∀ r ∈ [x],r.kind ≠ 16 := fun x hx r hr => by rw [List.mem_singleton.1 hr];exact hx
 unfold planG
 split
 ·exact ⟨n0,n0,n0⟩
 split
 ·unfold askG
  split
  ·exact ⟨n0,n0,n0⟩
  ·split
   ·exact ⟨n0,n0,n0⟩
   split
   ·exact ⟨n0,n0,n0⟩
   ·exact ⟨n0,m1 _ (by show (19 : Int) ≠ 16;decide),n0⟩
 split
 ·unfold voteG
  split
  ·exact ⟨n0,n0,n0⟩
  ·split
   ·exact ⟨n0,n0,n0⟩
   split
   ·exact ⟨n0,m1 _ (by show (22 : Int) ≠ 16;decide),n0⟩
   split
   ·exact ⟨n0,n0,n0⟩
   split
   ·exact ⟨n0,m1 _ (by show (20 : Int) ≠ 16;decide),n0⟩
   ·exact ⟨m1 _ (by show (17 : Int) ≠ 16;decide),n0,m1 _ (by show (22 : Int) ≠ 16;decide)⟩
 split
 ·unfold ackG
  split
  ·exact ⟨n0,n0,n0⟩
  ·split
   ·exact ⟨n0,n0,n0⟩
   split
   ·exact ⟨n0,m1 _ (by show (21 : Int) ≠ 16;decide),n0⟩
   ·exact ⟨m1 _ (by show (18 : Int) ≠ 16;decide),n0,n0⟩
 split
 ·unfold probeG
  split
  ·exact ⟨n0,n0,n0⟩
  ·split <;> exact ⟨n0,n0,n0⟩
 ·exact ⟨n0,n0,n0⟩
theorem step_ep {j : JG} (hw : WN j) {n : NA} (d fr : Int) (w : Bool) (hd : d % 11 ≠ 8) : j.epoch ≤ (stepG j d fr n w).epoch ∧ (stepG j d fr n w).epoch ≤ j.epoch + 1 := by
 obtain ⟨g1,g2,g3⟩ := plan_k16 j fr n
 unfold stepG stepL
 rw [if_neg hd]
 split
 ·rw [appL_ep fun r hr => by
   obtain ⟨t,_,rfl⟩ := List.mem_map.1 hr
   show (22 : Int) ≠ 16;decide]
  omega
 split
 ·show j.epoch ≤ (appG j (epochN (j.epoch + 1))).epoch ∧ (appG j (epochN (j.epoch + 1))).epoch ≤ j.epoch + 1
  by_cases hE : ¬ appGE j (epochN (j.epoch + 1)) = 0
  ·rw [appGno hE];omega
  ·rw [appG16 (Classical.not_not.1 hE) rfl]
   show j.epoch ≤ j.epoch + 1 ∧ j.epoch + 1 ≤ j.epoch + 1
   omega
 split
 ·rw [appL_ep g3];omega
 ·rw [appL_ep fun r hr => (List.mem_append.1 hr).elim (g1 r) (g2 r)];omega
end Go.Proofs.YtiampehfpgcogaaGreatDoor
namespace Go.Proofs.YtiampehfpgcogaaGreatDoor
open Go Go.SX
theorem dnL_mem {j : JG} (hk : keysOK j.done) {u : Int × Int} (h : u ∈ dnL j) : u ∈ j.done := by
 obtain ⟨b,hb,rfl⟩ := List.mem_map.1 h
 obtain ⟨s,hs⟩ := dn_lk hb hk
 rw [hs]
 exact lk_memL hs
theorem UO.wn {j : JG} (h : UO j) (d1 : 1 ≤ j.dim) (d2 : j.dim ≤ 8) : WN (bareJ j) := by
 have hb := h.pb
 have s2 := h.s2
 have e0 := hb.e0
 have l0 := hb.l0
 have l1 := hb.l1
 have hk : keysOK ((comL j).map fun t => (t.txn,t.bare)) := by
  unfold keysOK
  rw [List.map_map]
  exact comL_nodup hb
 refine ⟨⟨⟨e0,hb.e1,Int.le_refl _,(show (0 : Int) < 1048576 by decide),l0,l1,d1,d2⟩,hk,dnL_ok hb.kd,fun u hu => ?_,fun u hu => (h.ds u (dnL_mem hb.kd hu)).2.1⟩,fun u hu => ?_,fun u hu => ?_⟩
 ·obtain ⟨t,ht,rfl⟩ := List.mem_map.1 hu
  have hT := h.ts t ht
  have hs := hT.s0
  exact ⟨rfl,hT.x0,by dsimp only;omega,hT.r,hT.pl,fun q hq => by have := hT.pb q hq;omega,List.Pairwise.nil,fun _ h => (by cases h),List.Pairwise.nil,fun _ h => (by cases h),Nat.zero_le _⟩
 ·obtain ⟨t,ht,rfl⟩ := List.mem_map.1 hu
  have hT := h.ts t ht
  have hs := hT.s1
  exact ⟨hT.x1,hT.b0,hT.b1,by dsimp only;omega,Int.le_refl _,(show (0 : Int) ≤ 1099511627776 by decide),Int.le_refl _,(show (0 : Int) < 16 by decide),fun _ h => (by cases h)⟩
 ·have hm := dnL_mem hb.kd hu
  have h1 := h.ds u hm
  have h2 := hb.d u hm
  omega
end Go.Proofs.YtiampehfpgcogaaGreatDoor
namespace Go.Proofs.YtiampehfpgcogaaGreatDoor
open Go Go.SX
attribute [local irreducible] swp opsS thenS blockS retS CallsS St Ent YieldS anyS drawS
abbrev BV (b : Bool) : Value := .bool b
def SE (e : Int) (ss : List (Int × Bool)) : Prop := ∀ u ∈ ss,u.1 < (e + 1) * 1048576
theorem SE.up {e e' : Int} {ss : List (Int × Bool)} (h : SE e ss) (hl : e ≤ e') : SE e' ss := fun u hu => by have := h u hu;omega
theorem SE.put {e x : Int} {ss : List (Int × Bool)} (h : SE e ss) (hx : x < (e + 1) * 1048576) : SE e (putL ss x true) := fun u hu => by
 rcases putL_memG hu with hu | rfl
 ·exact h u hu
 ·exact hx
theorem trial_txn {j : JG} (hw : WN j) (hv : RV j) : ∀ t ∈ trialsG j,t.txn < (j.epoch + 1) * 1048576 := fun t ht => by
 rw [trialsL] at ht
 obtain ⟨u,hu,rfl⟩ := List.mem_map.1 ht
 exact (hv.tr _ ((lkL_iff hw.g.kt).1 (trs_mem hw hu))).x
theorem packG_le {j : JG} (hw : WN j) (htl : j.tr.length ≤ 100000) (hdl : j.done.length ≤ 100000) : (packG j).length ≤ 40 + j.done.length * 20 + j.tr.length * 80 := by
 have e1 := hw.g.b.e1
 have l1 := hw.g.b.l1
 have hdnl : (dnL j).length = j.done.length := by unfold dnL;rw [List.length_map,sortL_len,List.length_map]
 have h1 := numI_len (z := j.epoch) (by omega)
 have h2 := numI_len (z := j.last) (by omega)
 have h3 := numI_len (z := (j.done.length : Int)) (by omega)
 have hcl : (comL j).length ≤ j.tr.length := by
  unfold comL
  refine Nat.le_trans (List.length_filter_le _ _) ?_
  rw [(trsL_perm hw.g.kt).length_eq,List.length_map];exact Nat.le_refl _
 have h4 := numI_len (z := ((comL j).length : Int)) (by omega)
 have h5 : ((dnL j).flatMap packD).length ≤ (dnL j).length * 20 := flat_le fun d hd => by
  obtain ⟨b,hb,rfl⟩ := List.mem_map.1 hd
  obtain ⟨s,hs⟩ := dn_lk hb hw.g.kd
  have hm := hw.d _ (lk_memL hs)
  refine packD_len hm.2.1 ?_
  dsimp only
  rw [hs]
  show s ≤ _
  have := hm.2.2
  dsimp only at this
  omega
 have h6 : ((comL j).flatMap packT).length ≤ (comL j).length * 80 := flat_le fun t ht => packT_len hw (trs_mem hw (List.mem_filter.1 ht).1)
 unfold packG packW
 simp only [List.length_append]
 omega
theorem com_len {j : JG} (hw : WN j) : (comL j).length = (j.tr.filter fun u => !decide (u.2.stamp = 0)).length := by
 unfold comL
 rw [((trsL_perm hw.g.kt).filter com0).length_eq,List.filter_map,List.length_map]
 congr 1
 refine List.filter_congr fun u hu => ?_
 have := (hw.g.tx u hu).st
 show decide (0 < u.2.stamp) = !decide (u.2.stamp = 0)
 by_cases h : u.2.stamp = 0
 ·simp [h]
 ·have h1 : 0 < u.2.stamp := by omega
  simp [h,h1]
theorem ask_notes {j : JG} {fr : Int} {n : NA} (hk : n.kind = 1) : (planG j fr n).notes = [] ∨ ∃ x,(planG j fr n).notes = [x] ∧ x.txn = j.epoch * 1048576 + j.seq + 1 := by
 unfold planG
 split
 ·exact .inl rfl
 unfold askG
 split
 ·exact .inl rfl
 split
 ·exact .inl rfl
 split
 ·exact .inl rfl
 ·exact .inr ⟨_,rfl,rfl⟩
theorem ep_num {m : Int} (e0 : 0 ≤ m) (e1 : m ≤ 1000) : NumA (epochN m) := by
 have z : (0 : Int) ≤ 18446744073709551615 := by decide
 exact NumA.of (show (0 : Int) ≤ 16 by decide) (show (16 : Int) ≤ 255 by decide) (Int.le_refl _) z (Int.le_refl _) z (Int.le_refl _) z (Int.le_refl _) z (show (0 : Int) ≤ 9223372036854775807 by decide) (show 0 ≤ m by omega) (show m ≤ _ by omega) rfl rfl rfl rfl rfl
theorem ep_right {m : Int} (e0 : 0 ≤ m) (e1 : m ≤ 1000) : rightN (epochN m) = true := by
 have hm : ¬ (1099511627776 < max (max 0 0) m) := by omega
 unfold rightN boundN NA.bits epochN NA.zero bareV
 dsimp only
 simp only [hm]
 by_cases h0 : 0 < m <;> simp [h0,List.zipIdx,fldN,partsV] <;> decide
set_option maxHeartbeats 8000000 in
theorem JudgeReigns_spec (a : Option Addr) (c : Nat) (xs : List GO) (ao : Option Addr) (co : Nat) (ops : List OV) (M : Nat → Option Obj) (h : SlM M a xs.length 19 (xs.flatMap GO.cells)) (hx : ∀ o ∈ xs,GOK M o) (hn : xs.length ≤ 9223372036854775807)
  (ho : SlM M ao ops.length 2 (ops.flatMap OV.cells) ∧ okR M ops) (hoc : ∀ o ∈ ops,o.vec.length ≤ o.c) (hol : ops.length ≤ 9223372036854775807) (hT : TabM M) :
  CallsS Tryz.prog 6 [.slice a xs.length c,.slice ao ops.length co] [roM M] (fun r _ => r = .bool true) := by
 refine CallsS.of_body Tryz.func6 rfl rfl rfl ?_
 refine Q.r ?_;(repeat (intro b1;refine Q.r ?_))
 refine S.cmG rfl (Gawake_spec M _ hT) ?_
 rintro _ _ ⟨M1,rfl,hl1,rfl⟩
 refine Q.r ?_;(repeat (intro b1;refine Q.r ?_))
 refine S.cr rfl (GNew_spec M1 3 2 _ (by decide) (by decide) (by decide) (by decide)) ?_
 rintro _ _ ⟨p,rfl,rfl⟩
 refine Q.r ?_;(repeat (intro b1;refine Q.r ?_))
 revert b1
 intro x
 refine S.mkm U64 BV (fun my => ?_)
 refine Q.r ?_;(repeat (intro b1;refine Q.r ?_))
 refine swp_cutB (σ := JG × List (Int × Bool) × (Nat → Option Obj)) (fun s => [(1,.slice ao ops.length co),(5,ptrG p),(8,.map (some my))])
  (fun s => mpO U64 BV my s.2.1 :: jdgH s.2.2 p s.1 :: roM s.2.2 :: []) (fun s => LS s.1 xs.length ∧ RV s.1 ∧ s.1.epoch ≤ 40 ∧ SE s.1.epoch s.2.1 ∧ leM M s.2.2) ?_ ?_
 ·refine swp_loop (σ := Nat × JG × List (Int × Bool) × (Nat → Option Obj)) (fun s => [(1,.slice ao ops.length co),(5,ptrG p),(7,.pointer (some ⟨x,0,none⟩)),(8,.map (some my)),(28,.slice a xs.length c),(29,.int .i64 xs.length),(30,.int .i64 s.1)])
   (fun s => mpO U64 BV my s.2.2.1 :: jdgH s.2.2.2 p s.2.1 :: rgH s.2.2.2 x s.2.1 :: roM s.2.2.2 :: []) (fun s => s.1 ≤ xs.length ∧ LS s.2.1 s.1 ∧ RV s.2.1 ∧ s.2.1.epoch ≤ (min s.1 40 : Nat) ∧ SE s.2.1.epoch s.2.2.1 ∧ leM M s.2.2.2) (fun s => xs.length - s.1) (0,JG0 3 2,[],M1) ⟨rfl,rfl,rfl,rfl,rfl,rfl,rfl,trivial⟩ (Ent.trans (M := pt x (cl [.int .i64 3,.int .i64 2,.int .u64 0,.int .u64 0,.int .u64 0,.slice none 0 0,.slice none 0 0] 33) :: mpO U64 BV my [] :: jdgH M1 p (JG0 3 2) :: roM M1 :: []) (by exact Go.SX.Ent.go) (Ent.trans (rg_new M1) (by exact Go.SX.Ent.go))) ⟨Nat.zero_le _,LS.zero,RV.zero _ _,by simp,fun _ h => (by cases h),hl1⟩ ?_
  rintro ⟨k,j,ss,M2⟩ ⟨hk,hls,hrv,hep,hse,hl2⟩
  dsimp only at hk hls hrv hep hse hl2 ⊢
  by_cases hlt : k < xs.length
  ·obtain ⟨o,hq⟩ := mem_get hlt
   have hm := List.mem_of_getElem? hq
   obtain ⟨b,oo,hia,cr⟩ := SlM.cm (g := GO.cells) (fun _ => rfl) (h.mono hl2) hq rfl
   have hgo := hx o hm
   have hbb := hls.b
   have hss := hls.s
   have hdd := hgo.dd
   rw [hia]
   refine Q.r ?_;(repeat (intro b1;refine Q.r ?_))
   refine S.y (Y.rem rfl rfl (by decide)) ?_
   rw [Int.tmod_eq_emod_of_nonneg hdd.1]
   by_cases h8 : o.d % 11 = 8
   ·refine Q.r ?_;(repeat (intro b1;refine Q.r ?_))
    rw [← hia]
    exact ⟨(k + 1,j,ss,M2),⟨rfl,rfl,rfl,rfl,rfl,rfl,rfl,trivial⟩,by exact Go.SX.Ent.go,⟨hlt,hls.skip,hrv,by dsimp only;omega,hse,hl2⟩,Nat.sub_succ_lt_self xs.length k hlt⟩
   have hfin : ∃ j2 : JG,j2 = (if k < 40 then stepG j o.d o.fr o.n.abs.few o.w else j) ∧ LS j2 (k + 1) ∧ RV j2 ∧ j2.epoch ≤ (min (k + 1) 40 : Nat) ∧ SE j2.epoch ss := by
    by_cases h40 : k < 40
    ·rw [if_pos h40]
     have he := step_ep hls.w o.fr o.w (n := o.n.abs.few) (d := o.d) h8
     exact ⟨_,rfl,hls.step h40 (few_num hgo.uu) _ _ _,hrv.step hls.w (by omega) (by omega) (few_num hgo.uu) _ _ _ h8,by omega,hse.up he.1⟩
    ·rw [if_neg h40]
     exact ⟨_,rfl,hls.skip,hrv,by omega,hse⟩
   obtain ⟨j2,ej2,hls2,hrv2,hep2,hse2⟩ := hfin
   by_cases h40 : k < 40
   ·rw [if_pos h40] at ej2
    refine Q.r ?_;(repeat (intro b1;refine Q.r ?_))
    refine S.c3 (A := jdgH M2 p j) (B := rgH M2 x j) (C := roM M2) (args := [ptrG p,.pointer (some ⟨x,0,none⟩),.agg o.cells.toArray]) rfl (Lstep_spec o p x j M2 _ hls.w (by omega) (by omega) (by omega) (by omega) (hgo.mono hl2) (hT.mono hl2)) ?_
    rintro _ _ ⟨M3,rfl,hl3,rfl⟩
    rw [← ej2]
    refine Q.r ?_;(repeat (intro b1;refine Q.r ?_))
    refine S.cg p rfl (GTrials_spec M3 p j2 _ hls2.w.g (by have := hls2.b;omega)) ?_
    rintro _ _ ⟨a1,c1,us,M4,rfl,hl4,huo,hus,rfl⟩
    refine Q.r ?_;(repeat (intro b1;refine Q.r ?_))
    refine swp_abs a1 (fun M5 hl5 hs5 => ?_)
    refine swp_gm p hl5 ?_
    refine swp_rgm x (hl4.trans hl5) ?_
    have hul : us.length ≤ 80 := by rw [map_len hus,trials_len hls2.w.g.kt];exact hls2.b.1
    have hxt := trial_txn hls2.w hrv2
    rw [← hus] at hxt
    refine swp_loop (σ := Nat × List (Int × Bool)) (fun s => [(1,.slice ao ops.length co),(5,ptrG p),(7,.pointer (some ⟨x,0,none⟩)),(8,.map (some my)),(28,.slice (some ⟨b,oo,none⟩) xs.length c),(29,.int .i64 xs.length),(30,.int .i64 k),(49,.slice a1 us.length c1),(50,.int .i64 us.length),(51,.int .i64 s.1)])
     (fun s => mpO U64 BV my s.2 :: jdgH M5 p j2 :: rgH M5 x j2 :: roM M5 :: []) (fun s => s.1 ≤ us.length ∧ SE j2.epoch s.2) (fun s => us.length - s.1) (0,ss) ⟨rfl,rfl,rfl,rfl,rfl,rfl,rfl,rfl,rfl,rfl,trivial⟩ (by exact Go.SX.Ent.go) ⟨Nat.zero_le _,hse2⟩ ?_
    rintro ⟨i,s2⟩ ⟨hi,hs2⟩
    dsimp only at hi hs2 ⊢
    by_cases hit : i < us.length
    ·obtain ⟨t,hti⟩ := mem_get hit
     obtain ⟨b2,oo2,hia2,cr2⟩ := SlM.cm (g := TV.c8) (fun _ => rfl) hs5 hti rfl
     have htx := hxt t.abs (List.mem_map_of_mem (f := TV.abs) (List.mem_of_getElem? hti))
     rw [hia2]
     refine Q.r ?_;(repeat (intro b1;refine Q.r ?_))
     refine S.mu (g := U64) (r := BV) (q := t.txn) (u := true) rfl rfl rfl ?_
     refine Q.r ?_;(repeat (intro b1;refine Q.r ?_))
     rw [← hia2]
     exact ⟨(i + 1,putL s2 t.txn true),⟨rfl,rfl,rfl,rfl,rfl,rfl,rfl,rfl,rfl,rfl,trivial⟩,by exact Go.SX.Ent.go,⟨hit,hs2.put htx⟩,Nat.sub_succ_lt_self us.length i hit⟩
    ·refine Q.r ?_;(repeat (intro b1;refine Q.r ?_))
     rw [← hia]
     exact ⟨(k + 1,j2,s2,M5),⟨rfl,rfl,rfl,rfl,rfl,rfl,rfl,trivial⟩,by exact Go.SX.Ent.go,⟨hlt,hls2,hrv2,hep2,hs2,hl2.trans (hl3.trans (hl4.trans hl5))⟩,Nat.sub_succ_lt_self xs.length k hlt⟩
   ·rw [if_neg h40] at ej2
    rw [← ej2]
    refine Q.r ?_;(repeat (intro b1;refine Q.r ?_))
    refine S.cg p rfl (GTrials_spec M2 p j2 _ hls2.w.g (by have := hls2.b;omega)) ?_
    rintro _ _ ⟨a1,c1,us,M4,rfl,hl4,huo,hus,rfl⟩
    refine Q.r ?_;(repeat (intro b1;refine Q.r ?_))
    refine swp_abs a1 (fun M5 hl5 hs5 => ?_)
    refine swp_gm p hl5 ?_
    refine swp_rgm x (hl4.trans hl5) ?_
    have hul : us.length ≤ 80 := by rw [map_len hus,trials_len hls2.w.g.kt];exact hls2.b.1
    have hxt := trial_txn hls2.w hrv2
    rw [← hus] at hxt
    refine swp_loop (σ := Nat × List (Int × Bool)) (fun s => [(1,.slice ao ops.length co),(5,ptrG p),(7,.pointer (some ⟨x,0,none⟩)),(8,.map (some my)),(28,.slice (some ⟨b,oo,none⟩) xs.length c),(29,.int .i64 xs.length),(30,.int .i64 k),(49,.slice a1 us.length c1),(50,.int .i64 us.length),(51,.int .i64 s.1)])
     (fun s => mpO U64 BV my s.2 :: jdgH M5 p j2 :: rgH M5 x j2 :: roM M5 :: []) (fun s => s.1 ≤ us.length ∧ SE j2.epoch s.2) (fun s => us.length - s.1) (0,ss) ⟨rfl,rfl,rfl,rfl,rfl,rfl,rfl,rfl,rfl,rfl,trivial⟩ (by exact Go.SX.Ent.go) ⟨Nat.zero_le _,hse2⟩ ?_
    rintro ⟨i,s2⟩ ⟨hi,hs2⟩
    dsimp only at hi hs2 ⊢
    by_cases hit : i < us.length
    ·obtain ⟨t,hti⟩ := mem_get hit
     obtain ⟨b2,oo2,hia2,cr2⟩ := SlM.cm (g := TV.c8) (fun _ => rfl) hs5 hti rfl
     have htx := hxt t.abs (List.mem_map_of_mem (f := TV.abs) (List.mem_of_getElem? hti))
     rw [hia2]
     refine Q.r ?_;(repeat (intro b1;refine Q.r ?_))
     refine S.mu (g := U64) (r := BV) (q := t.txn) (u := true) rfl rfl rfl ?_
     refine Q.r ?_;(repeat (intro b1;refine Q.r ?_))
     rw [← hia2]
     exact ⟨(i + 1,putL s2 t.txn true),⟨rfl,rfl,rfl,rfl,rfl,rfl,rfl,rfl,rfl,rfl,trivial⟩,by exact Go.SX.Ent.go,⟨hit,hs2.put htx⟩,Nat.sub_succ_lt_self us.length i hit⟩
    ·refine Q.r ?_;(repeat (intro b1;refine Q.r ?_))
     rw [← hia]
     exact ⟨(k + 1,j2,s2,M5),⟨rfl,rfl,rfl,rfl,rfl,rfl,rfl,trivial⟩,by exact Go.SX.Ent.go,⟨hlt,hls2,hrv2,hep2,hs2,hl2.trans (hl4.trans hl5)⟩,Nat.sub_succ_lt_self xs.length k hlt⟩
  ·have hke : k = xs.length := by omega
   subst hke
   refine Q.r ?_;(repeat (intro b1;refine Q.r ?_))
   exact ⟨(j,ss,M2),⟨rfl,rfl,rfl,trivial⟩,by exact Go.SX.Ent.go,hls,hrv,by dsimp only;omega,hse,hl2⟩
 rintro ⟨j,ss,M2⟩ ⟨hls,hrv,hep,hse,hl2⟩
 dsimp only at hls hrv hep hse hl2 ⊢
 have hbb := hls.b
 have hw := hls.w
 refine Q.r ?_;(repeat (intro b1;refine Q.r ?_))
 refine S.cg p rfl (GPack_spec M2 p j _ hw (by omega) (by omega)) ?_
 rintro _ _ ⟨ap,cp,M3,rfl,hl3,rfl⟩
 refine Q.r ?_;(repeat (intro b1;refine Q.r ?_))
 refine opsS_abs ap (fun M4 hl4 hs4 => ?_)
 refine opsS_gm p hl4 ?_
 refine S.cgn p rfl (GEpoch_spec M4 p j _) ?_
 rintro _ _ ⟨rfl,rfl⟩
 refine Q.r ?_;(repeat (intro b1;refine Q.r ?_))
 have he0 := hw.g.b.e0
 have hT4 : TabM M4 := hT.mono (hl2.trans (hl3.trans hl4))
 have hn1 := ep_num (m := j.epoch) he0 (by omega)
 have hn2 := ep_num (m := j.epoch + 1) (by omega) (by omega)
 have hE1 : appGE j (epochN j.epoch) = 1 := by rw [appGE16 (ep_right he0 (by omega)) rfl,if_pos (Int.le_refl _)]
 have hA1 : appG j (epochN j.epoch) = j := appGno (by rw [hE1];decide)
 have hE2 : appGE j (epochN (j.epoch + 1)) = 0 := by rw [appGE16 (ep_right (by omega) (by omega)) rfl,if_neg (by show ¬ j.epoch + 1 ≤ j.epoch;omega)]
 refine S.cg p (args := [ptrG p,(epochN j.epoch).nv.val]) rfl (GApply_spec (epochN j.epoch).nv M4 p j _ hw.g (okN.nv _) (OkN.of (OkA.bare (Nat.zero_le _) rfl rfl rfl)) hT4 hn1.nv (show (0 : Int) < _ by decide)) ?_
 rintro _ _ ⟨M5,rfl,hl5,rfl⟩
 rw [show (epochN j.epoch).nv.abs = epochN j.epoch from rfl,hE1,hA1]
 refine Q.r ?_;(repeat (intro b1;refine Q.r ?_))
 refine S.cgn p rfl (GEpoch_spec M5 p j _) ?_
 rintro _ _ ⟨rfl,rfl⟩
 refine Q.r ?_;(repeat (intro b1;refine Q.r ?_))
 refine S.y (Y.add rfl rfl) ?_
 rw [wrap_u64 (by omega) (by omega)]
 refine Q.r ?_;(repeat (intro b1;refine Q.r ?_))
 have hT5 := hT4.mono hl5
 refine S.cg p (args := [ptrG p,(epochN (j.epoch + 1)).nv.val]) rfl (GApply_spec (epochN (j.epoch + 1)).nv M5 p j _ hw.g (okN.nv _) (OkN.of (OkA.bare (Nat.zero_le _) rfl rfl rfl)) hT5 hn2.nv (show (0 : Int) < _ by decide)) ?_
 rintro _ _ ⟨M6,rfl,hl6,rfl⟩
 rw [show (epochN (j.epoch + 1)).nv.abs = epochN (j.epoch + 1) from rfl,hE2]
 have hw6 : WN (appG j (epochN (j.epoch + 1))) := hw.app hn2
 have hv6 : RV (appG j (epochN (j.epoch + 1))) := hrv.app hw (GN.of (by show (16 : Int) ≠ 17;decide) (by show (16 : Int) ≠ 19;decide))
 have hA6 := appG16 hE2 rfl
 generalize appG j (epochN (j.epoch + 1)) = j6 at hw6 hv6 hA6 ⊢
 refine Q.r ?_;(repeat (intro b1;refine Q.r ?_))
 have hl6t : j6.tr.length ≤ 8 := hv6.tl
 have hst6 : ∀ t ∈ trialsG j6,¬ t.stamp = 0 := fun t ht h0 => by
  rw [trialsL] at ht
  obtain ⟨u,hu,rfl⟩ := List.mem_map.1 ht
  have hm := (lkL_iff hw6.g.kt).1 (trs_mem hw6 hu)
  rw [hA6] at hm
  have := (List.mem_filter.1 hm).2
  have h0' : u.stamp = 0 := h0
  simp [h0'] at this
 refine S.cg p rfl (GTrials_spec M6 p j6 _ hw6.g (by omega)) ?_
 rintro _ _ ⟨a1,c1,us,M7,rfl,hl7,huo,hus,rfl⟩
 have hul : us.length = j6.tr.length := by rw [map_len hus,trials_len hw6.g.kt]
 rw [← hus] at hst6
 refine Q.r ?_;(repeat (intro b1;refine Q.r ?_))
 refine swp_abs a1 (fun M8 hl8 hs8 => ?_)
 refine swp_gm p hl8 ?_
 refine swp_cutB (σ := Unit) (fun _ => [(1,.slice ao ops.length co),(5,ptrG p),(8,.map (some my)),(13,.slice ap (packG j).length cp)])
  (fun _ => mpO U64 BV my ss :: jdgH M8 p j6 :: roM M8 :: []) (fun _ => True) ?_ ?_
 ·refine swp_loop (σ := Nat) (fun i => [(1,.slice ao ops.length co),(5,ptrG p),(8,.map (some my)),(13,.slice ap (packG j).length cp),(78,.slice a1 us.length c1),(79,.int .i64 us.length),(80,.int .i64 i)])
   (fun _ => mpO U64 BV my ss :: jdgH M8 p j6 :: roM M8 :: []) (fun i => i ≤ us.length) (fun i => us.length - i) 0 ⟨rfl,rfl,rfl,rfl,rfl,rfl,rfl,trivial⟩ (by exact Go.SX.Ent.go) (Nat.zero_le _) ?_
  intro i hi
  by_cases hit : i < us.length
  ·obtain ⟨t,hti⟩ := mem_get hit
   obtain ⟨b2,oo2,hia2,cr2⟩ := SlM.cm (g := TV.c8) (fun _ => rfl) hs8 hti rfl
   have hts : ¬ t.stamp = 0 := hst6 t.abs (List.mem_map_of_mem (f := TV.abs) (List.mem_of_getElem? hti))
   rw [hia2]
   refine Q.r ?_;(repeat (intro b1;refine Q.r ?_))
   rw [← hia2]
   exact ⟨i + 1,⟨rfl,rfl,rfl,rfl,rfl,rfl,rfl,trivial⟩,by exact Go.SX.Ent.go,hit,Nat.sub_succ_lt_self us.length i hit⟩
  ·refine Q.r ?_;(repeat (intro b1;refine Q.r ?_))
   exact ⟨(),⟨rfl,rfl,rfl,rfl,trivial⟩,by exact Go.SX.Ent.go,trivial⟩
 rintro _ _
 refine Q.r ?_;(repeat (intro b1;refine Q.r ?_))
 refine S.cr rfl (GNew_spec M8 3 2 _ (by decide) (by decide) (by decide) (by decide)) ?_
 rintro _ _ ⟨q,rfl,rfl⟩
 have hup := un_pack (RV.uo hls hrv)
 have hpl : (packG j).length ≤ 100000 := by have := packG_le hw (by omega) (by omega);omega
 have hun := unE_ok (j := JG0 3 2) (bs := packG j) (by rw [← hls.s,← hls.dm];exact hup.2) (by simp)
 have huJ : unJ (JG0 3 2) (packG j) = bareJ j := by rw [hun.2,← hup.1,hls.s,hls.dm]
 have hl48 := hl5.trans (hl6.trans (hl7.trans hl8))
 refine Q.r ?_;(repeat (intro b1;refine Q.r ?_))
 refine S.cg q rfl (GUnpack_spec M8 q (JG0 3 2) ap cp (packG j) _ (hs4.mono hl48) (by decide) (by decide) hpl (Nat.zero_le _) (Nat.zero_le _)) ?_
 rintro _ _ ⟨rfl,M9,hl9,rfl⟩
 rw [hun.1,huJ]
 have hWb : WN (bareJ j) := (RV.uo hls hrv).wn (by rw [hls.dm];decide) (by rw [hls.dm];decide)
 have hbl : (bareJ j).tr.length = j6.tr.length := by
  rw [hA6]
  show ((comL j).map _).length = (j.tr.filter fun u => !decide (u.2.stamp = 0)).length
  rw [List.length_map,com_len hw]
 have hl6' : (bareJ j).last = j6.last := by rw [hA6]
 have hep6 : j6.epoch = j.epoch + 1 := by rw [hA6]
 have hsq6 : 0 ≤ j6.seq := hw6.g.b.s0
 refine Q.r ?_;(repeat (intro b1;refine Q.r ?_))
 refine S.cg q rfl (GTrials_spec M9 q (bareJ j) _ hWb.g (by omega)) ?_
 rintro _ _ ⟨a2,c2,us2,M10,rfl,hl10,huo2,hus2,rfl⟩
 have hul2 : us2.length = j6.tr.length := by rw [map_len hus2,trials_len hWb.g.kt,hbl]
 clear hbl
 refine Q.r ?_;(repeat (intro b1;refine Q.r ?_))
 refine opsS_gm p (hl9.trans hl10) ?_
 refine S.cg p rfl (GTrials_spec M10 p j6 _ hw6.g (by omega)) ?_
 rintro _ _ ⟨a3,c3,us3,M11,rfl,hl11,huo3,hus3,rfl⟩
 have hul3 : us3.length = us2.length := by rw [map_len hus3,trials_len hw6.g.kt,hul2]
 refine Q.r ?_;(repeat (intro b1;refine Q.r ?_))
 refine opsS_gm q hl11 ?_
 refine S.cgn q rfl (GLast_spec M11 q (bareJ j) _) ?_
 rintro _ _ ⟨rfl,rfl⟩
 refine Q.r ?_;(repeat (intro b1;refine Q.r ?_))
 refine S.cgn p rfl (GLast_spec M11 p j6 _) ?_
 rintro _ _ ⟨rfl,rfl⟩
 rw [hl6']
 refine Q.r ?_;(repeat (intro b1;refine Q.r ?_))
 have hM11 := hl2.trans (hl3.trans (hl4.trans (hl48.trans (hl9.trans (hl10.trans hl11)))))
 have hT11 := hT.mono hM11
 have hn0 : okN M11 ⟨1,0,1125899906842624,0,0,0,0,0,0,0,0,0,none,0,[],ao,co,ops,none,0,[],none,0,[]⟩ := ⟨SlM.nil0,⟨ho.1.mono hM11,fun o hm => (ho.2 o hm).mono hM11⟩,SlM.nil0,SlM.nil0,fun o ho => by cases ho⟩
 have hc0 : CapN ⟨1,0,1125899906842624,0,0,0,0,0,0,0,0,0,none,0,[],ao,co,ops,none,0,[],none,0,[]⟩ := ⟨Nat.le_refl _,hoc,Nat.le_refl _,fun o ho => (by cases ho),Nat.zero_le _,hol,Nat.zero_le _,Nat.zero_le _⟩
 refine S.cmG (args := [NV.val ⟨1,0,1125899906842624,0,0,0,0,0,0,0,0,0,none,0,[],ao,co,ops,none,0,[],none,0,[]⟩]) rfl (NFew_spec ⟨1,0,1125899906842624,0,0,0,0,0,0,0,0,0,none,0,[],ao,co,ops,none,0,[],none,0,[]⟩ M11 _ hn0 hc0) ?_
 rintro _ _ ⟨n1,M12,rfl,hl12,hok1,hc1,hoc1,he1,rfl⟩
 have hN1 := few_OkN he1
 have hk1 : n1.kind = 1 := congrArg NA.kind he1
 refine opsS_gm p hl12 ?_
 refine Q.r ?_;(repeat (intro b1;refine Q.r ?_))
 refine S.cg p (args := [ptrG p,.int .i64 5,n1.val]) rfl (GPlan_spec n1 M12 p j6 5 _ hw6.g.b hok1 hN1 (hT11.mono hl12) (show 0 ≤ n1.kind ∧ n1.kind ≤ 255 by omega)) ?_
 rintro _ _ ⟨q1,d1,rs,q2,d2,ns,q3,d3,ms,q4,d4,is,q5,d5,es,M13,rfl,hl13,⟨o1,o2,o3,o4,o5⟩,⟨e1,e2,e3,e4,e5⟩,rfl⟩
 rcases ask_notes (j := j6) (fr := 5) (n := n1.abs) hk1 with hz | ⟨z,hz,hzt⟩
 ·rw [hz] at e2
  have hn0 : ns.length = 0 := map_len e2
  refine Q.r ?_;(repeat (intro b1;refine Q.r ?_))
  exact N.r1 (RV.tmp rfl RV.nil) (Ent.refl _) rfl
 ·rw [hz] at e2
  obtain ⟨m,rfl,rfl⟩ := map_one e2
  have hmt : m.txn = j6.epoch * 1048576 + j6.seq + 1 := hzt
  have hlk : lkL ss m.txn = none := lkL_none fun u hu => by have := hse u hu;omega
  obtain ⟨b,oo,hia,cr⟩ := SlM.cm (g := NV.cells) (k := 0) (x := m) (fun _ => rfl) o2.1 rfl rfl
  rw [hia]
  refine Q.r ?_;(repeat (intro b1;refine Q.r ?_))
  refine S.y (Y.lk false rfl rfl (fun w => Tryz.zeroValue4 w)) ?_
  rw [hlk]
  dsimp only
  refine Q.r ?_;(repeat (intro b1;refine Q.r ?_))
  exact N.r1 (RV.tmp rfl RV.nil) (Ent.refl _) rfl
end Go.Proofs.YtiampehfpgcogaaGreatDoor
