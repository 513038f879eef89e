/- The judge: its transactions, rising. The judge: Trials. The judge: Quit. The law's script, as a function of what the judge is. The ref's judge: Apply. The ref's judge: what it plans for an ask. The ref's judge: what it plans. The law's plans; its notes applied to both. The judge: Epoch. No condition. -/
import Derived.Test.YtiampehfpgcogaaGreatDoorPk07
set_option linter.unusedVariables false
set_option linter.unusedSimpArgs false
set_option linter.unusedSectionVars false
namespace Go.Proofs.YtiampehfpgcogaaGreatDoor
open Go Go.SX
attribute [local irreducible] swp opsS thenS blockS retS CallsS St Ent YieldS anyS drawS
attribute [local irreducible] opsI
theorem KeysG_spec {α : Type} (rr : α → Value) (bm b : Nat) (m : List (Int × α)) (A : List HP) : SeqS Tryz.prog 116 [.pointer (some ⟨bm,0,none⟩)] U64 m.length (fun ks => ks.Perm (m.map (·.1)))
  (pt bm (cl [.map (some b)] 78) :: mpO U64 rr b m :: A) (mpO U64 rr b m :: A) := by
 intro l J hJ
 refine CallsS.of_body Tryz.func116 rfl rfl rfl ?_
 refine Q.r ?_;(repeat (intro b1;refine Q.r ?_))
 refine S.rg rfl (fun r => ?_)
 refine Q.r ?_;(repeat (intro b1;refine Q.r ?_))
 refine swp_loop (σ := List Nat) (fun vis => [(0,.func (.yield l) #[] #[]),(5,.pointer (some ⟨r,0,none⟩))])
  (fun vis => J (vis.filterMap fun i => (m[i]?).map (·.1)) :: itO U64 rr b r m vis :: A) (fun vis => vis.Nodup ∧ ∀ i ∈ vis,i < m.length) (fun vis => m.length - vis.length) [] ⟨rfl,rfl,trivial⟩ (by simp only [List.filterMap_nil];exact Go.SX.Ent.go) ⟨by simp,by simp⟩ ?_
 rintro vis ⟨hv1,hv2⟩
 refine Q.r ?_;(repeat (intro b1;refine Q.r ?_))
 refine S.nx rfl (fun hend => ?_) (fun i p hp hi => ?_)
 ·refine Q.r ?_;(repeat (intro b1;refine Q.r ?_))
  exact N.n0 RV.nil (Ent.cons itO_map) ⟨_,vis_map _ hv1 hv2 hend,rfl⟩
 ·have hil : i < m.length := (List.getElem?_eq_some_iff.1 hp).1
  obtain ⟨hm1,hm2,hm3⟩ := vis_more hv1 hv2 hil hi
  have hvl : (vis.filterMap fun i => (m[i]?).map (·.1)).length ≤ vis.length := List.length_filterMap_le _ _
  have happ : ((vis ++ [i]).filterMap fun i => (m[i]?).map (·.1)) = (vis.filterMap fun i => (m[i]?).map (·.1)) ++ [p.1] := by
   rw [List.filterMap_append];simp [hp]
  refine Q.r ?_;(repeat (intro b1;refine Q.r ?_))
  refine S.y (Y.en rfl hp) ?_
  refine S.y (Y.ext rfl rfl) ?_
  refine S.y (Y.as rfl) ?_
  refine opsS_nil ?_
  refine N.tn ?_
  refine swp_seq ?_
  refine swp_regionI ?_
  refine opsI_one (fun _ h => by cases h) rfl ?_
  refine Q.r ?_;(repeat (intro b1;refine Q.r ?_))
  refine opsI_one (fun _ h => by cases h) rfl ?_
  refine Q.r ?_;(repeat (intro b1;refine Q.r ?_))
  refine opsI_yield rfl rfl ((hJ _ p.1 (by omega)).frame (R := _)) ?_
  refine opsI_one (fun _ h => by cases h) rfl ?_
  refine Q.r ?_;(repeat (intro b1;refine Q.r ?_))
  refine opsI_nil ?_
  refine Q.r ?_;(repeat (intro b1;refine Q.r ?_))
  refine ⟨vis ++ [i],⟨rfl,rfl,trivial⟩,?_,⟨hm1,hm2⟩,by simp;omega⟩
  rw [happ]
  exact Go.SX.Ent.go
theorem MapKeysG_spec (mo : Option Nat) (L : List HP) : CallsS Tryz.prog 86 [.map mo] L
  (fun v L' => ∃ bm,v = .func (.func 116) #[] [.pointer (some ⟨bm,0,none⟩)].toArray ∧ L' = pt bm (cl [.map mo] 78) :: L) := by
 refine CallsS.of_body Tryz.func86 rfl rfl rfl ?_
 refine Q.r ?_;(repeat (intro b1;refine Q.r ?_))
 refine S.y (Y.mf rfl rfl) ?_
 refine Q.r ?_;(repeat (intro b1;refine Q.r ?_))
 exact N.r1 (RV.tmp rfl RV.nil) (Ent.refl _) ⟨_,rfl,rfl⟩
theorem Gtxns_spec (M : Nat → Option Obj) (p : Nat) (j : JG) (L : List HP) (hn : j.tr.length ≤ 1000000) :
  CallsS Tryz.prog 32 [ptrG p] (jdgH M p j :: L) (fun r L' => ∃ a c,r = .slice a j.tr.length c ∧ L' = slO 29 1 a j.tr.length c ((sortL (j.tr.map (·.1))).map U64) :: jdgH M p j :: L) := by
 refine calls_jdg fun mt md ts hq => ?_
 have hlen : j.tr.length = ts.length := by rw [← hq.tr,List.length_map]
 have hkeys : j.tr.map (·.1) = ts.map (·.1) := by rw [← hq.tr,List.map_map];rfl
 rw [hlen,hkeys]
 rw [hlen] at hn
 refine CallsS.of_body Tryz.func32 rfl rfl rfl ?_
 refine Q.r ?_;(repeat (intro b1;refine Q.r ?_))
 refine S.cr rfl (MapKeysG_spec (some mt) _) ?_
 rintro _ _ ⟨bm,rfl,rfl⟩
 refine Q.r ?_;(repeat (intro b1;refine Q.r ?_))
 refine opsS_ent (L' := pt bm (cl [.map (some mt)] 78) :: gT mt ts :: gP p j mt md :: trsH ts :: gD md j.done :: L) (by exact Go.SX.Ent.go) ?_
 have hs := KeysG_spec ptT bm mt ts (gP p j mt md :: trsH ts :: gD md j.done :: L)
 refine S.cr rfl (Sorted_spec _ _ (ts.map (·.1)) _ _ (by rw [List.length_map];omega) (by rw [List.length_map];exact hs)) ?_
 rintro _ _ ⟨a,c,rfl,rfl⟩
 refine Q.r ?_;(repeat (intro b1;refine Q.r ?_))
 rw [List.length_map]
 refine N.r1 (RV.tmp rfl RV.nil) (Ent.cons ?_) ⟨a,c,rfl,rfl⟩
 exact Ent.trans (M := gP p j mt md :: gT mt ts :: trsH ts :: gD md j.done :: L) (by exact Go.SX.Ent.go) (jdg_shut hq)
end Go.Proofs.YtiampehfpgcogaaGreatDoor
namespace Go.Proofs.YtiampehfpgcogaaGreatDoor
open Go Go.SX
attribute [local irreducible] swp opsS thenS blockS retS CallsS St Ent YieldS anyS drawS
abbrev TV.c8 (t : TV) : List Value := [.int .u64 t.txn,.int .u64 t.batch,.int .u64 t.stamp,.int .u64 t.after,.int .i64 t.who,.slice t.pa t.parts.length t.pc,.slice t.ya t.yes.length t.yc,.slice t.ka t.acked.length t.kc]
def bareT (t : TR) : TR := { t with ops := [] }
def trialsG (j : JG) : List TR := (sortL (j.tr.map (·.1))).filterMap fun x => (lkL j.tr x).map bareT
theorem sort_lk {j : JG} {x : Int} (h : x ∈ sortL (j.tr.map (·.1))) (hk : keysOK j.tr) : ∃ t,lkL j.tr x = some t := by
 have h1 : x ∈ j.tr.map (·.1) := (sortL_perm _).mem_iff.1 h
 obtain ⟨u,hu,rfl⟩ := List.mem_map.1 h1
 exact ⟨u.2,(lkL_iff hk).2 hu⟩
set_option maxHeartbeats 4000000 in
theorem GTrials_spec (M : Nat → Option Obj) (p : Nat) (j : JG) (L : List HP) (hw : WG j) (hn : j.tr.length ≤ 1000000) :
  CallsS Tryz.prog 11 [ptrG p] (jdgH M p j :: roM M :: L)
   (fun r L' => ∃ (a : Option Addr) (c : Nat) (us : List TV) (M' : Nat → Option Obj),r = .slice a us.length c ∧ leM M M' ∧ (∀ t ∈ us,okT M' t) ∧ us.map TV.abs = trialsG j ∧ L' = slO 46 8 a us.length c (us.flatMap TV.c8) :: jdgH M' p j :: roM M' :: L) := by
 refine CallsS.of_body Tryz.func11 rfl rfl rfl ?_
 refine Q.r ?_;(repeat (intro b1;refine Q.r ?_))
 refine S.cgn p rfl (Gtxns_spec M p j _ hn) ?_
 rintro _ _ ⟨a,c,rfl,rfl⟩
 have hsl : (sortL (j.tr.map (·.1))).length = j.tr.length := by rw [(sortL_perm _).length_eq,List.length_map]
 refine Q.r ?_;(repeat (intro b1;refine Q.r ?_))
 refine swp_abs a (fun M1 hl1 hs1 => ?_)
 refine swp_gm p hl1 ?_
 refine swp_loop (σ := Nat × Option Addr × Nat × List TV × (Nat → Option Obj)) (fun s => [(0,ptrG p),(10,.slice a j.tr.length c),(11,.int .i64 j.tr.length),(3,.slice s.2.1 s.2.2.2.1.length s.2.2.1),(12,.int .i64 s.1)])
  (fun s => slO 46 8 s.2.1 s.2.2.2.1.length s.2.2.1 (s.2.2.2.1.flatMap TV.c8) :: jdgH s.2.2.2.2 p j :: roM s.2.2.2.2 :: L)
  (fun s => s.1 ≤ j.tr.length ∧ leM M1 s.2.2.2.2 ∧ (∀ t ∈ s.2.2.2.1,okT s.2.2.2.2 t) ∧ s.2.2.2.1.map TV.abs = ((sortL (j.tr.map (·.1))).take s.1).filterMap (fun x => (lkL j.tr x).map bareT)) (fun s => j.tr.length - s.1) (0,none,0,[],M1) ⟨rfl,rfl,rfl,rfl,rfl,trivial⟩ (Ent.trans slO_nil (by exact Go.SX.Ent.go)) ⟨Nat.zero_le _,leM.refl M1,fun _ h => (by cases h),rfl⟩ ?_
 rintro ⟨i,a3,c3,us,M2⟩ ⟨hi,hl2,huo,hus⟩
 dsimp only at hi hl2 huo hus ⊢
 by_cases hlt : i < j.tr.length
 ·obtain ⟨x,hx⟩ := mem_get (l := sortL (j.tr.map (·.1))) (k := i) (by omega)
  obtain ⟨t,ht⟩ := sort_lk (List.mem_of_getElem? hx) hw.kt
  obtain ⟨ba,oa,haa,cr⟩ := SlM.cm1 (g := U64) (hs1.mono hl2) hx hsl.symm
  rw [haa]
  refine swp_jdg p (fun mt md ts hq => ?_)
  have hlk := lk_tr hq.tr x
  rw [ht] at hlk
  refine Q.rn ?_;(repeat (intro b1;refine Q.rn ?_))
  refine S.y (Y.lk false rfl rfl (fun w => Tryz.zeroValue96 w)) ?_
  cases hz : lkL (α := Nat × TV) ts x with
  | none => rw [hz] at hlk;cases hlk
  | some u =>
   rw [hz] at hlk
   obtain ⟨k,hkk⟩ := lk_idx hz
   have hok := hq.ok _ (List.mem_of_getElem? hkk)
   dsimp only
   refine Q.rn ?_;(repeat (intro b1;refine Q.rn ?_))
   refine opsS_trs hkk ?_
   refine Q.rn ?_;(repeat (intro b1;refine Q.rn ?_))
   refine Q.dgo [true] [2,5,8,10,12,14] [10] [0,1,3,4,6,7,2,9,5,8,10,11,12,13,14] ?_
   refine Q.rd ?_;(repeat (intro b1;refine Q.rd ?_))
   refine D.e rfl rfl rfl ?_
   refine S.cr rfl (CloneP_spec u.2.pa u.2.pc u.2.parts _ hok.p.rd hok.pl) ?_
   rintro _ _ ⟨pa,pc,rfl,rfl⟩
   refine Q.r ?_;(repeat (intro b1;refine Q.r ?_))
   refine Q.rd ?_;(repeat (intro b1;refine Q.rd ?_))
   refine D.e rfl rfl rfl ?_
   refine S.cr rfl (CloneP_spec u.2.ya u.2.yc u.2.yes _ hok.y.rd hok.yl) ?_
   rintro _ _ ⟨ya,yc,rfl,rfl⟩
   refine Q.r ?_;(repeat (intro b1;refine Q.r ?_))
   refine Q.rd ?_;(repeat (intro b1;refine Q.rd ?_))
   refine D.e rfl rfl rfl ?_
   refine S.cr rfl (CloneP_spec u.2.ka u.2.kc u.2.acked _ hok.k.rd hok.kl) ?_
   rintro _ _ ⟨ka,kc,rfl,rfl⟩
   refine Q.r ?_;(repeat (intro b1;refine Q.r ?_))
   refine Q.rd ?_;(repeat (intro b1;refine Q.rd ?_))
   refine Q.dc rfl rfl rfl rfl ?_
   refine Q.r ?_;(repeat (intro b1;refine Q.r ?_))
   refine Q.rd ?_;(repeat (intro b1;refine Q.rd ?_))
   refine Q.r ?_;(repeat (intro b1;refine Q.r ?_))
   have htu : t = u.2.abs := Option.some.inj hlk
   have hul : us.length ≤ i := by
    have h1 := congrArg List.length hus
    rw [List.length_map] at h1
    have h2 := List.length_filterMap_le (fun x => (lkL j.tr x).map bareT) ((sortL (j.tr.map (·.1))).take i)
    rw [List.length_take] at h2
    omega
   refine opsS_abs pa (fun M3 hl3 hs3 => ?_)
   refine opsS_abs ya (fun M4 hl4 hs4 => ?_)
   refine opsS_abs ka (fun M5 hl5 hs5 => ?_)
   refine S.app rfl rfl (SrcS.sl RdC.row (by rfl) (by rfl)) (by rfl) (by omega) (by omega) (fun a7 c7 => ?_)
   refine Q.rn ?_;(repeat (intro b1;refine Q.rn ?_))
   refine ⟨(i + 1,a7,c7,us ++ [⟨u.2.txn,u.2.batch,u.2.stamp,u.2.after,u.2.who,pa,pc,u.2.parts,ya,yc,u.2.yes,ka,kc,u.2.acked,none,0,[]⟩],M5),⟨rfl,rfl,rfl,congrArg some (by simp),rfl,trivial⟩,?_,⟨by dsimp only;omega,hl2.trans (hl3.trans (hl4.trans hl5)),fun w hw' => ?_,?_⟩,by dsimp only;omega⟩
   ·dsimp only
    rw [len_snoc,flat_snoc]
    have hq5 := hq.mono (hl3.trans (hl4.trans hl5))
    refine Ent.trans (M := slO 46 8 a7 (us.length + 1) c7 (us.flatMap TV.c8 ++ TV.c8 ⟨u.2.txn,u.2.batch,u.2.stamp,u.2.after,u.2.who,pa,pc,u.2.parts,ya,yc,u.2.yes,ka,kc,u.2.acked,none,0,[]⟩) :: gP p j mt md :: gT mt ts :: oneT u :: trsH (ts.eraseIdx k) :: gD md j.done :: roM M5 :: L) (by exact Go.SX.Ent.go) (Ent.cons (jdg_shut1 hkk hq5))
   ·rcases List.mem_append.1 hw' with h | h
    ·exact (huo w h).mono (hl3.trans (hl4.trans hl5))
    ·rw [List.mem_singleton] at h;subst h
     exact ⟨hs3.mono (hl4.trans hl5),hs4.mono hl5,hs5,SlM.nil0,fun o ho => (by cases ho),hok.pl,hok.yl,hok.kl,Nat.zero_le _⟩
   ·dsimp only
    rw [List.map_append,hus,take_snoc hx,List.filterMap_append,List.filterMap_cons,ht,htu]
    rfl
 ·have hie : i = (sortL (j.tr.map (·.1))).length := by omega
  rw [hie,List.take_length] at hus
  refine Q.rn ?_;(repeat (intro b1;refine Q.rn ?_))
  exact N.r1 (RV.tmp rfl RV.nil) (Ent.refl _) ⟨a3,c3,us,M2,rfl,hl1.trans hl2,huo,hus,rfl⟩
def quitL (j : JG) (xs : List Int) : List TR := (xs.filterMap fun x => lkL j.tr x).filter fun t => decide (t.stamp = 0)
def quitG (j : JG) : PG := ⟨[],(quitL j (sortL (j.tr.map (·.1)))).map fun t => goneN t.txn,(quitL j (sortL (j.tr.map (·.1)))).flatMap fun t => toldM t 0 12,[],[]⟩
theorem quitL_snoc {j : JG} {xs : List Int} {i : Nat} {x : Int} {t : TR} (hx : xs[i]? = some x) (ht : lkL j.tr x = some t) : quitL j (xs.take (i + 1)) = quitL j (xs.take i) ++ (if t.stamp = 0 then [t] else []) := by
 unfold quitL
 rw [take_snoc hx,List.filterMap_append,List.filterMap_cons,ht,List.filter_append]
 by_cases h : t.stamp = 0 <;> simp [h]
theorem mails_one (xs : List (Int × NA)) : (xs.flatMap mailC).all (·.oneCell') = true := by
 rw [List.all_eq_true]
 intro v hv
 obtain ⟨o,_,ho⟩ := List.mem_flatMap.1 hv
 simp only [mailC,List.mem_cons,List.mem_nil_iff,or_false] at ho
 rcases ho with rfl | rfl | rfl | rfl | rfl | rfl | rfl | rfl | rfl | rfl | rfl | rfl | rfl | rfl | rfl | rfl | rfl <;> rfl
set_option maxHeartbeats 4000000 in
theorem GQuit_spec (M : Nat → Option Obj) (p : Nat) (j : JG) (L : List HP) (hw : WG j) (hn : j.tr.length ≤ 100000) :
  CallsS Tryz.prog 12 [ptrG p] (jdgH M p j :: roM M :: L) (planGR0 M p j (quitG j) L) := by
 refine CallsS.of_body Tryz.func12 rfl rfl rfl ?_
 refine Q.r ?_;(repeat (intro b1;refine Q.r ?_))
 refine S.cgn p rfl (Gtxns_spec M p j _ (by omega)) ?_
 rintro _ _ ⟨a,c,rfl,rfl⟩
 have hsl : (sortL (j.tr.map (·.1))).length = j.tr.length := by rw [(sortL_perm _).length_eq,List.length_map]
 refine Q.r ?_;(repeat (intro b1;refine Q.r ?_))
 rename_i b2
 revert b1
 intro b3
 refine swp_abs a (fun M1 hl1 hs1 => ?_)
 refine swp_gm p hl1 ?_
 refine swp_loop (σ := Nat × (Option Addr × Nat × List NA) × (Option Addr × Nat × List (Int × NA))) (fun s => [(0,ptrG p),(2,.pointer (some ⟨b2,0,none⟩)),(3,.pointer (some ⟨b3,0,none⟩)),(11,.slice a j.tr.length c),(12,.int .i64 j.tr.length),(13,.int .i64 s.1)])
  (fun s => pt b3 (cl [.slice none 0 0,.slice s.2.1.1 s.2.1.2.2.length s.2.1.2.1,.slice s.2.2.1 s.2.2.2.2.length s.2.2.2.1,.slice none 0 0,.slice none 0 0] 50) :: pt b2 (cl [.slice none 0 0,.slice none 0 0,.slice none 0 0,.slice none 0 0,.slice none 0 0] 50) :: slO 52 16 s.2.1.1 s.2.1.2.2.length s.2.1.2.1 (s.2.1.2.2.flatMap fun n => n.nv.cells) :: slO 54 17 s.2.2.1 s.2.2.2.2.length s.2.2.2.1 (s.2.2.2.2.flatMap mailC) :: jdgH M1 p j :: roM M1 :: L)
  (fun s => s.1 ≤ j.tr.length ∧ s.2.1.2.2 = (quitL j ((sortL (j.tr.map (·.1))).take s.1)).map (fun t => goneN t.txn) ∧ s.2.2.2.2 = (quitL j ((sortL (j.tr.map (·.1))).take s.1)).flatMap (fun t => toldM t 0 12) ∧ s.2.1.2.2.length ≤ s.1 ∧ s.2.2.2.2.length ≤ s.1 * 1000001) (fun s => j.tr.length - s.1) (0,(none,0,[]),(none,0,[])) ⟨rfl,rfl,rfl,rfl,rfl,rfl,trivial⟩ (Ent.trans slO_nil (Ent.trans slO_nil (by exact Go.SX.Ent.go))) ⟨Nat.zero_le _,rfl,rfl,Nat.le_refl _,Nat.le_refl _⟩ ?_
 rintro ⟨i,⟨a2,c2,ns⟩,⟨a3,c3,ms⟩⟩ ⟨hi,hns,hms,hnl,hml⟩
 dsimp only at hi hns hms hnl hml ⊢
 by_cases hlt : i < j.tr.length
 ·obtain ⟨x,hx⟩ := mem_get (l := sortL (j.tr.map (·.1))) (k := i) (by omega)
  obtain ⟨t,ht⟩ := sort_lk (List.mem_of_getElem? hx) hw.kt
  obtain ⟨ba,oa,haa,cr⟩ := SlM.cm1 (g := U64) hs1 hx hsl.symm
  rw [haa]
  refine swp_jdg p (fun mt md ts hq => ?_)
  have hlk := lk_tr hq.tr x
  rw [ht] at hlk
  refine Q.rn ?_;(repeat (intro b1;refine Q.rn ?_))
  refine S.y (Y.lk false rfl rfl (fun w => Tryz.zeroValue96 w)) ?_
  cases hz : lkL (α := Nat × TV) ts x with
  | none => rw [hz] at hlk;cases hlk
  | some u =>
   rw [hz] at hlk
   obtain ⟨k,hkk⟩ := lk_idx hz
   have hok := hq.ok _ (List.mem_of_getElem? hkk)
   have htu : t = u.2.abs := Option.some.inj hlk
   have hpl : u.2.parts.length ≤ 1000000 := hok.pl
   dsimp only
   refine Q.rn ?_;(repeat (intro b1;refine Q.rn ?_))
   refine opsS_trs hkk ?_
   by_cases hs : u.2.stamp = 0
   ·refine Q.rn ?_;(repeat (intro b1;refine Q.rn ?_))
    refine Q.dgo [false,false,false,false,false,true] [3,4,6] [6] [0,1,2,3,4,5,6] ?_
    refine Q.rd ?_;(repeat (intro b1;refine Q.rd ?_))
    refine D.e rfl rfl rfl ?_
    refine S.c1 (A := oneT u) rfl (Ggone_spec u _) ?_
    rintro _ _ ⟨bn,rfl,rfl⟩
    refine Q.r ?_;(repeat (intro b1;refine Q.r ?_))
    refine Q.rd ?_;(repeat (intro b1;refine Q.rd ?_))
    refine D.e rfl rfl rfl ?_
    refine S.app rfl rfl (SrcS.rd (RdS.own (.inr ⟨bn,rfl⟩) rfl) (by rfl)) (by rfl) (by omega) (by omega) (fun a7 c7 => ?_)
    refine Q.r ?_;(repeat (intro b1;refine Q.r ?_))
    refine Q.rd ?_;(repeat (intro b1;refine Q.rd ?_))
    refine Q.dc rfl rfl rfl rfl ?_
    refine Q.r ?_;(repeat (intro b1;refine Q.r ?_))
    refine Q.rd ?_;(repeat (intro b1;refine Q.rd ?_))
    refine Q.r ?_;(repeat (intro b1;refine Q.r ?_))
    refine Q.dgo [true] [3,4,6] [6] [0,1,2,3,4,5,6] ?_
    refine Q.rd ?_;(repeat (intro b1;refine Q.rd ?_))
    refine D.e rfl rfl rfl ?_
    refine S.c2 (A := oneT u) (B := roM M1) rfl (Gtold_spec u 0 12 M1 _ hok) ?_
    rintro _ _ ⟨a9,c9,rfl,rfl⟩
    refine Q.r ?_;(repeat (intro b1;refine Q.r ?_))
    refine Q.rd ?_;(repeat (intro b1;refine Q.rd ?_))
    refine D.e rfl rfl rfl ?_
    refine opsS_addr a9 (fun h9 => ?_)
    refine S.app rfl rfl (SrcS.rd (RdS.own h9 (by rw [flat_len (sz := 17) (fun _ => rfl),toldM_len])) (mails_one _)) (by rfl) (by omega) (by omega) (fun a8 c8 => ?_)
    refine Q.r ?_;(repeat (intro b1;refine Q.r ?_))
    refine Q.rd ?_;(repeat (intro b1;refine Q.rd ?_))
    refine Q.dc rfl rfl rfl rfl ?_
    refine Q.r ?_;(repeat (intro b1;refine Q.r ?_))
    refine Q.rd ?_;(repeat (intro b1;refine Q.rd ?_))
    refine Q.r ?_;(repeat (intro b1;refine Q.r ?_))
    have hts : t.stamp = 0 := by rw [htu];exact hs
    have hqs := quitL_snoc (j := j) hx ht
    rw [if_pos hts] at hqs
    refine ⟨(i + 1,(a7,c7,ns ++ [goneN u.2.txn]),(a8,c8,ms ++ toldM u.2.abs 0 12)),⟨rfl,rfl,rfl,rfl,rfl,rfl,trivial⟩,?_,⟨by dsimp only;omega,?_,?_,?_,?_⟩,by dsimp only;omega⟩
    ·dsimp only
     rw [len_snoc,List.length_append,toldM_len]
     simp only [List.flatMap_append,List.flatMap_cons,List.flatMap_nil,List.append_nil]
     exact Ent.trans (gclose1 (p := p) (mt := mt) (md := md) hkk hq) (by exact Go.SX.Ent.go)
    ·dsimp only
     rw [hqs,List.map_append,hns,htu];rfl
    ·dsimp only
     rw [hqs,List.flatMap_append,hms,htu];simp
    ·dsimp only
     rw [len_snoc];omega
    ·dsimp only
     rw [List.length_append,toldM_len]
     show ms.length + (u.2.parts.length + 1) ≤ _
     omega
   ·have hts : ¬ t.stamp = 0 := by rw [htu];exact hs
    have hqs := quitL_snoc (j := j) hx ht
    rw [if_neg hts,List.append_nil] at hqs
    refine Q.rn ?_;(repeat (intro b1;refine Q.rn ?_))
    refine ⟨(i + 1,(a2,c2,ns),(a3,c3,ms)),⟨rfl,rfl,rfl,rfl,rfl,rfl,trivial⟩,?_,⟨?_,?_,?_,?_,?_⟩,?_⟩
    ·dsimp only
     exact Ent.trans (gclose1 (p := p) (mt := mt) (md := md) hkk hq) (by exact Go.SX.Ent.go)
    ·dsimp only
     omega
    ·dsimp only
     rw [hqs];exact hns
    ·dsimp only
     rw [hqs];exact hms
    ·dsimp only
     omega
    ·exact Nat.le_trans hml (Nat.mul_le_mul_right 1000001 (Nat.le_succ i))
    ·show j.tr.length - (i + 1) < j.tr.length - i
     omega
 ·have hie : i = (sortL (j.tr.map (·.1))).length := by omega
  rw [hie,List.take_length] at hns hms
  refine Q.rn ?_;(repeat (intro b1;refine Q.rn ?_))
  refine N.r1 (by apply RV.cellN;rfl;exact RdC.row;rfl;exact RV.nil) ?_ ⟨none,0,[],a2,c2,ns.map NA.nv,a3,c3,ms.map (fun m => (m.1,m.2.nv)),none,0,[],none,0,[],M1,by simp,hl1,⟨fun _ h => (by cases h),fun w h => ?_,fun w h => ?_,fun _ h => (by cases h),fun _ h => (by cases h)⟩,⟨rfl,?_,?_,rfl,rfl⟩,rfl⟩
  ·have f1 : (ns.map NA.nv).flatMap NV.cells = ns.flatMap (fun n => n.nv.cells) := List.flatMap_map ..
   have f2 : (ms.map (fun m => (m.1,m.2.nv))).flatMap mcells = ms.flatMap mailC := List.flatMap_map ..
   rw [f1,f2,List.length_map,List.length_map]
   show Ent _ (slO 52 16 none 0 0 [] :: slO 52 16 a2 ns.length c2 (ns.flatMap fun n => n.nv.cells) :: slO 54 17 a3 ms.length c3 (ms.flatMap mailC) :: slO 52 16 none 0 0 [] :: slO 54 17 none 0 0 [] :: jdgH M1 p j :: roM M1 :: L)
   exact Go.SX.Ent.go
  ·obtain ⟨q,_,rfl⟩ := List.mem_map.1 h
   exact okN.nv _
  ·obtain ⟨q,_,rfl⟩ := List.mem_map.1 h
   exact okN.nv _
  ·rw [hns,List.map_map,List.map_map];rfl
  ·have hm1 : ∀ m ∈ ms,(fun m : Int × NA => (m.1,m.2.nv.abs)) m = id m := fun m hm => by
    rw [hms] at hm
    obtain ⟨t,_,ht⟩ := List.mem_flatMap.1 hm
    unfold toldM at ht
    rcases List.mem_append.1 ht with h | h
    ·obtain ⟨q,_,rfl⟩ := List.mem_map.1 h;rfl
    ·rw [List.mem_singleton.1 h];rfl
   rw [List.map_map]
   exact ((List.map_congr_left hm1).trans (List.map_id _)).trans hms
end Go.Proofs.YtiampehfpgcogaaGreatDoor
namespace Go.Proofs.YtiampehfpgcogaaGreatDoor
open Go Go.SX
structure OkA (r : NA) : Prop where
 p : r.parts.length ≤ 1000000
 o : r.ops.length ≤ 1000000
 ov : ∀ o ∈ r.ops,o.2.length ≤ 1000000
 v : r.vec.length ≤ 1000000
 h : r.hits.length ≤ 1000000
 hv : ∀ h ∈ r.hits,h.2.2.length ≤ 1000000
theorem OkN.of {n : NV} (h : OkA n.abs) : OkN n :=
 ⟨h.p,by have := h.o;rwa [List.length_map] at this,fun o ho => h.ov o.abs (List.mem_map_of_mem (f := OV.abs) ho),h.v,by have := h.h;rwa [List.length_map] at this,fun o ho => h.hv o.abs (List.mem_map_of_mem (f := HV.abs) ho)⟩
theorem OkA.bare {r : NA} (hp : r.parts.length ≤ 1000000) (ho : r.ops = []) (hv : r.vec = []) (hh : r.hits = []) : OkA r :=
 ⟨hp,(by rw [ho];exact Nat.zero_le _),fun o h => (by rw [ho] at h;cases h),(by rw [hv];exact Nat.zero_le _),(by rw [hh];exact Nat.zero_le _),fun o h => (by rw [hh] at h;cases h)⟩
theorem NumA.of {r : NA} (k0 : 0 ≤ r.kind) (k1 : r.kind ≤ 255) (t0 : 0 ≤ r.txn) (t1 : r.txn ≤ 18446744073709551615) (b0 : 0 ≤ r.batch) (b1 : r.batch ≤ 18446744073709551615) (s0 : 0 ≤ r.stamp) (s1 : r.stamp ≤ 18446744073709551615) (a0 : 0 ≤ r.after) (a1 : r.after ≤ 18446744073709551615) (w : r.who ≤ 9223372036854775807)
  (m0 : 0 ≤ r.mark) (m1 : r.mark ≤ 18446744073709551615) (h2 : r.query = 0) (h3 : r.id = 0) (h4 : r.k = 0) (h5 : r.ef = 0) (h6 : r.code = 0) : NumA r :=
 ⟨⟨k0,k1⟩,⟨t0,t1⟩,⟨b0,b1⟩,⟨s0,s1⟩,⟨a0,a1⟩,⟨m0,m1⟩,by rw [h2];decide,by rw [h3];decide,by rw [h4];decide,by rw [h5];decide,by rw [h6];decide,w⟩
theorem NumA.nv {n : NV} (h : NumA n.abs) : NumN n := ⟨h.kind,h.txn.1,h.stamp.1,h.mark.1,h.after.1⟩
structure NT (x : Int) (t : TR) : Prop where
 x1 : x ≤ 18446744073709551615
 b0 : 0 ≤ t.batch
 b1 : t.batch ≤ 18446744073709551615
 s1 : t.stamp ≤ 1099511627776
 a0 : 0 ≤ t.after
 a1 : t.after ≤ 1099511627776
 w0 : 0 ≤ t.who
 w1 : t.who < 16
 ov : ∀ o ∈ t.ops,o.2.length ≤ 64
structure WN (j : JG) : Prop where
 g : WG j
 t : ∀ u ∈ j.tr,NT u.1 u.2
 d : ∀ u ∈ j.done,0 ≤ u.1 ∧ u.1 ≤ 18446744073709551615 ∧ u.2 ≤ 1099511627776
theorem WN.lk {j : JG} (h : WN j) {x : Int} {t : TR} (ht : lkL j.tr x = some t) : NT x t := h.t _ ((lkL_iff h.g.kt).1 ht)
theorem bare_len {v : List Int} (h : bareV v = true) : v.length ≤ 64 := by have := bare_le h;omega
theorem right_more {n : NA} (h : rightN n = true) : n.after ≤ 1099511627776 ∧ 0 ≤ n.who ∧ n.who < 16 ∧ (∀ o ∈ n.ops,o.2.length ≤ 64) ∧ 0 ≤ n.code ∧ n.code ≤ 13 := by
 unfold rightN boundN at h
 simp only [Bool.and_eq_true,Bool.not_eq_true',Bool.or_eq_false_iff,decide_eq_false_iff_not] at h
 refine ⟨by omega,by omega,by omega,fun o ho => ?_,by omega,by omega⟩
 have h1 := h.2.1.2
 have := List.any_eq_false.1 h1 o ho
 unfold badOp at this
 simp only [Bool.or_eq_true,decide_eq_true_eq,Bool.not_eq_true',not_or,Bool.not_eq_false] at this
 exact bare_len this.2
theorem WN.app {j : JG} (h : WN j) {n : NA} (u : NumA n) : WN (appG j n) := by
 have hG := h.g.app u.txn.1 u.stamp.1 u.mark.1
 by_cases hE : ¬ appGE j n = 0
 ·rw [appGno hE];exact h
 have hE : appGE j n = 0 := Classical.not_not.1 hE
 have hr := right_of_app hE
 have hm := right_max hr
 have hq := right_more hr
 refine ⟨hG,?_,?_⟩
 ·by_cases h16 : n.kind = 16
  ·rw [appG16 hE h16];exact fun v hv => h.t v (List.mem_filter.1 hv).1
  by_cases h19 : n.kind = 19
  ·rw [appG19 hE h19]
   intro v hv
   rcases putL_memG hv with hv | rfl
   ·exact h.t v hv
   ·exact ⟨u.txn.2,u.batch.1,u.batch.2,(show (0 : Int) ≤ 1099511627776 by decide),u.after.1,hq.1,hq.2.1,hq.2.2.1,hq.2.2.2.1⟩
  by_cases h17 : n.kind = 17
  ·rw [appG17 hE h17]
   intro v hv
   rcases putL_memG hv with hv | rfl
   ·exact h.t v hv
   ·cases hz : lkL j.tr n.txn with
    | some t =>
     have ht := h.lk hz
     exact ⟨ht.x1,ht.b0,ht.b1,hm.1,ht.a0,ht.a1,ht.w0,ht.w1,ht.ov⟩
    | none => exact ⟨u.txn.2,u.batch.1,u.batch.2,hm.1,Int.le_refl _,(show (0 : Int) ≤ 1099511627776 by decide),Int.le_refl _,(show (0 : Int) < 16 by decide),fun _ h => (by cases h)⟩
  by_cases hw : n.kind = 20 ∨ n.kind = 21
  ·have hE2 := hE
   rw [appGEw hr hw] at hE2
   cases hz : lkL j.tr n.txn with
   | none => rw [hz] at hE2;cases hE2
   | some t =>
    have ht := h.lk hz
    rw [appGw hE hw hz]
    intro v hv
    rcases putL_memG hv with hv | rfl
    ·exact h.t v hv
    ·unfold saidT
     split <;> exact ⟨ht.x1,ht.b0,ht.b1,ht.s1,ht.a0,ht.a1,ht.w0,ht.w1,ht.ov⟩
  ·by_cases he : n.kind = 18 ∨ n.kind = 22
   ·rw [appGe hE he];exact fun v hv => h.t v (List.mem_filter.1 hv).1
   ·unfold appGE at hE
    rw [if_neg (by rw [hr];decide),if_neg h16,if_neg h19,if_neg h17,if_neg (by omega)] at hE
    cases hE
 ·by_cases h16 : n.kind = 16
  ·rw [appG16 hE h16];exact h.d
  by_cases h19 : n.kind = 19
  ·rw [appG19 hE h19];exact h.d
  by_cases h17 : n.kind = 17
  ·rw [appG17 hE h17]
   intro v hv
   rcases putL_memG hv with hv | rfl
   ·exact h.d v hv
   ·cases hz : lkL j.tr n.txn with
    | some t =>
     have ht := h.lk hz
     exact ⟨ht.b0,ht.b1,hm.1⟩
    | none => exact ⟨u.batch.1,u.batch.2,hm.1⟩
  by_cases hw : n.kind = 20 ∨ n.kind = 21
  ·have hE2 := hE
   rw [appGEw hr hw] at hE2
   cases hz : lkL j.tr n.txn with
   | none => rw [hz] at hE2;cases hE2
   | some t => rw [appGw hE hw hz];exact h.d
  ·by_cases he : n.kind = 18 ∨ n.kind = 22
   ·rw [appGe hE he];exact h.d
   ·unfold appGE at hE
    rw [if_neg (by rw [hr];decide),if_neg h16,if_neg h19,if_neg h17,if_neg (by omega)] at hE
    cases hE
theorem app_tl {j : JG} {n : NA} : (appG j n).tr.length ≤ j.tr.length + 1 ∧ (appG j n).done.length ≤ j.done.length + 1 ∧ (appG j n).shards = j.shards ∧ (appG j n).dim = j.dim := by
 unfold appG
 split
 ·exact ⟨Nat.le_succ _,Nat.le_succ _,rfl,rfl⟩
 split
 ·exact ⟨Nat.le_succ_of_le (List.length_filter_le _ _),Nat.le_succ _,rfl,rfl⟩
 split
 ·exact ⟨putL_len _ _ _,Nat.le_succ _,rfl,rfl⟩
 split
 ·exact ⟨putL_len _ _ _,putL_len _ _ _,rfl,rfl⟩
 split
 ·split
  ·exact ⟨putL_len _ _ _,Nat.le_succ _,rfl,rfl⟩
  ·exact ⟨Nat.le_succ _,Nat.le_succ _,rfl,rfl⟩
 ·exact ⟨Nat.le_succ_of_le (delL_len _ _),Nat.le_succ _,rfl,rfl⟩
structure PN (pl : PG) : Prop where
 r : ∀ r ∈ pl.rec_,NumA r ∧ OkA r
 n : ∀ r ∈ pl.notes,NumA r ∧ OkA r
 i : ∀ r ∈ pl.inst,NumA r ∧ OkA r
 m : ∀ m ∈ pl.mail,OkA m.2
 e : ∀ m ∈ pl.els,OkA m.2
theorem PN.none : PN PG.none := ⟨fun _ h => (by cases h),fun _ h => (by cases h),fun _ h => (by cases h),fun _ h => (by cases h),fun _ h => (by cases h)⟩
theorem told_ok (t : TR) (s c : Int) : ∀ m ∈ toldM t s c,OkA m.2 := by
 intro m hm
 unfold toldM at hm
 rcases List.mem_append.1 hm with h | h
 ·obtain ⟨q,_,rfl⟩ := List.mem_map.1 h;exact OkA.bare (Nat.zero_le _) rfl rfl rfl
 ·rw [List.mem_singleton] at h;subst h;exact OkA.bare (Nat.zero_le _) rfl rfl rfl
theorem gone_ok {x : Int} (h0 : 0 ≤ x) (h1 : x ≤ 18446744073709551615) : NumA (goneN x) ∧ OkA (goneN x) :=
 ⟨NumA.of (show (0 : Int) ≤ 22 by decide) (show (22 : Int) ≤ 255 by decide) h0 h1 (Int.le_refl _) (show (0 : Int) ≤ 18446744073709551615 by decide) (Int.le_refl _) (show (0 : Int) ≤ 18446744073709551615 by decide) (Int.le_refl _) (show (0 : Int) ≤ 18446744073709551615 by decide) (show (0 : Int) ≤ 9223372036854775807 by decide) (Int.le_refl _) (show (0 : Int) ≤ 18446744073709551615 by decide) rfl rfl rfl rfl rfl,OkA.bare (Nat.zero_le _) rfl rfl rfl⟩
theorem prep_ok {s : Int} {t : TR} {q : Int} (hp : t.parts.length ≤ 1000000) (ho : t.ops.length ≤ 1000000) (hv : ∀ o ∈ t.ops,o.2.length ≤ 1000000) : OkA (prepM s t q).2 :=
 ⟨hp,Nat.le_trans (List.length_filter_le _ _) ho,fun o h => hv o (List.mem_filter.1 h).1,Nat.zero_le _,Nat.zero_le _,fun _ h => (by cases h)⟩
theorem plan_ok {j : JG} (h : WN j) (s1 : 1 ≤ j.shards) (s2 : j.shards ≤ 4) {n : NA} (u : NumA n) (fr : Int) : PN (planG j fr n) := by
 have z : (0 : Int) ≤ 18446744073709551615 := by decide
 unfold planG
 split
 ·exact PN.none
 rename_i hcond
 have hr : rightN n = true := by
  cases hr : rightN n with
  | true => rfl
  | false => exact absurd (.inl hr) hcond
 have hf : 0 ≤ fr ∧ fr < 16 := by omega
 have hq := right_more hr
 have hb := h.g.b
 have e0 := hb.e0
 have e1 := hb.e1
 have q0 := hb.s0
 have q1 := hb.s1
 have l0 := hb.l0
 have l1 := hb.l1
 have hol := (right_opsG hr).2
 split
 ·unfold askG
  split
  ·exact ⟨fun _ h => (by cases h),fun _ h => (by cases h),fun _ h => (by cases h),fun m hm => (by rw [List.mem_singleton.1 hm];exact OkA.bare (Nat.zero_le _) rfl rfl rfl),fun _ h => (by cases h)⟩
  ·split
   ·exact PN.none
   split
   ·exact ⟨fun _ h => (by cases h),fun _ h => (by cases h),fun _ h => (by cases h),fun m hm => (by rw [List.mem_singleton.1 hm];exact OkA.bare (Nat.zero_le _) rfl rfl rfl),fun _ h => (by cases h)⟩
   ·have hpo := partsG_ok s1 n.ops
    have hpl : (partsG j.shards n.ops).length ≤ 1000000 := by have := rise_len hpo.1 hpo.2 (by omega);omega
    have hov : ∀ o ∈ n.ops,o.2.length ≤ 1000000 := fun o ho => Nat.le_trans (hq.2.2.2.1 o ho) (by decide)
    refine ⟨fun _ h => (by cases h),fun r hr' => ?_,fun _ h => (by cases h),fun m hm => ?_,fun _ h => (by cases h)⟩
    ·rw [List.mem_singleton.1 hr']
     refine ⟨NumA.of (show (0 : Int) ≤ 19 by decide) (show (19 : Int) ≤ 255 by decide) ?_ ?_ u.batch.1 u.batch.2 (Int.le_refl _) z l0 (show j.last ≤ 18446744073709551615 by omega) (show fr ≤ 9223372036854775807 by omega) (Int.le_refl _) z rfl rfl rfl rfl rfl,⟨hpl,(show n.ops.length ≤ 1000000 by omega),hov,Nat.zero_le _,Nat.zero_le _,fun _ h => (by cases h)⟩⟩
     ·show 0 ≤ j.epoch * 1048576 + j.seq + 1;omega
     ·show j.epoch * 1048576 + j.seq + 1 ≤ _;omega
    ·obtain ⟨q,_,rfl⟩ := List.mem_map.1 hm
     exact prep_ok hpl (show n.ops.length ≤ 1000000 by omega) hov
 split
 ·unfold voteG
  split
  ·exact PN.none
  ·rename_i t ht
   have hT := h.lk ht
   have hW := h.g.lk ht
   have hx := hW.xx
   have hx0 := hW.x0
   have hx1 := hT.x1
   have hpl := hW.pl
   have hg := gone_ok (x := t.txn) (by omega) (by omega)
   split
   ·exact PN.none
   split
   ·exact ⟨fun _ h => (by cases h),fun r hr' => (by rw [List.mem_singleton.1 hr'];exact hg),fun _ h => (by cases h),told_ok _ _ _,fun _ h => (by cases h)⟩
   split
   ·exact PN.none
   split
   ·refine ⟨fun _ h => (by cases h),fun r hr' => ?_,fun _ h => (by cases h),fun _ h => (by cases h),fun _ h => (by cases h)⟩
    rw [List.mem_singleton.1 hr']
    exact ⟨NumA.of (show (0 : Int) ≤ 20 by decide) (show (20 : Int) ≤ 255 by decide) u.txn.1 u.txn.2 (Int.le_refl _) z (Int.le_refl _) z (Int.le_refl _) z (show fr ≤ 9223372036854775807 by omega) (Int.le_refl _) z rfl rfl rfl rfl rfl,OkA.bare (Nat.zero_le _) rfl rfl rfl⟩
   ·refine ⟨fun r hr' => ?_,fun _ h => (by cases h),fun r hr' => (by rw [List.mem_singleton.1 hr'];exact hg),told_ok _ _ _,told_ok _ _ _⟩
    rw [List.mem_singleton.1 hr']
    exact ⟨NumA.of (show (0 : Int) ≤ 17 by decide) (show (17 : Int) ≤ 255 by decide) (show 0 ≤ t.txn by omega) (show t.txn ≤ _ by omega) hT.b0 hT.b1 (show 0 ≤ j.last + 1 by omega) (show j.last + 1 ≤ _ by omega) (Int.le_refl _) z (show (0 : Int) ≤ 9223372036854775807 by decide) (Int.le_refl _) z rfl rfl rfl rfl rfl,OkA.bare (show t.parts.length ≤ 1000000 by omega) rfl rfl rfl⟩
 split
 ·unfold ackG
  split
  ·exact PN.none
  ·split
   ·exact PN.none
   split
   ·refine ⟨fun _ h => (by cases h),fun r hr' => ?_,fun _ h => (by cases h),fun _ h => (by cases h),fun _ h => (by cases h)⟩
    rw [List.mem_singleton.1 hr']
    exact ⟨NumA.of (show (0 : Int) ≤ 21 by decide) (show (21 : Int) ≤ 255 by decide) u.txn.1 u.txn.2 (Int.le_refl _) z (Int.le_refl _) z (Int.le_refl _) z (show fr ≤ 9223372036854775807 by omega) (Int.le_refl _) z rfl rfl rfl rfl rfl,OkA.bare (Nat.zero_le _) rfl rfl rfl⟩
   ·refine ⟨fun r hr' => ?_,fun _ h => (by cases h),fun _ h => (by cases h),fun _ h => (by cases h),fun _ h => (by cases h)⟩
    rw [List.mem_singleton.1 hr']
    exact ⟨NumA.of (show (0 : Int) ≤ 18 by decide) (show (18 : Int) ≤ 255 by decide) u.txn.1 u.txn.2 (Int.le_refl _) z (Int.le_refl _) z (Int.le_refl _) z (show (0 : Int) ≤ 9223372036854775807 by decide) (Int.le_refl _) z rfl rfl rfl rfl rfl,OkA.bare (Nat.zero_le _) rfl rfl rfl⟩
 split
 ·unfold probeG
  split
  ·exact ⟨fun _ h => (by cases h),fun _ h => (by cases h),fun _ h => (by cases h),fun m hm => (by rw [List.mem_singleton.1 hm];exact OkA.bare (Nat.zero_le _) rfl rfl rfl),fun _ h => (by cases h)⟩
  ·split
   ·exact PN.none
   ·exact ⟨fun _ h => (by cases h),fun _ h => (by cases h),fun _ h => (by cases h),fun m hm => (by rw [List.mem_singleton.1 hm];exact OkA.bare (Nat.zero_le _) rfl rfl rfl),fun _ h => (by cases h)⟩
 ·exact PN.none
theorem plan_ones (j : JG) (fr : Int) (n : NA) : (planG j fr n).rec_.length ≤ 1 ∧ (planG j fr n).notes.length ≤ 1 ∧ (planG j fr n).inst.length ≤ 1 := by
 have o1 : ∀ x : NA,[x].length ≤ 1 := fun _ => Nat.le_refl _
 have o0 : ([] : List NA).length ≤ 1 := Nat.zero_le _
 unfold planG
 split
 ·exact ⟨o0,o0,o0⟩
 split
 ·unfold askG
  split
  ·exact ⟨o0,o0,o0⟩
  ·split
   ·exact ⟨o0,o0,o0⟩
   split
   ·exact ⟨o0,o0,o0⟩
   ·exact ⟨o0,o1 _,o0⟩
 split
 ·unfold voteG
  split
  ·exact ⟨o0,o0,o0⟩
  ·split
   ·exact ⟨o0,o0,o0⟩
   split
   ·exact ⟨o0,o1 _,o0⟩
   split
   ·exact ⟨o0,o0,o0⟩
   split
   ·exact ⟨o0,o1 _,o0⟩
   ·exact ⟨o1 _,o0,o1 _⟩
 split
 ·unfold ackG
  split
  ·exact ⟨o0,o0,o0⟩
  ·split
   ·exact ⟨o0,o0,o0⟩
   split
   ·exact ⟨o0,o1 _,o0⟩
   ·exact ⟨o1 _,o0,o0⟩
 split
 ·unfold probeG
  split
  ·exact ⟨o0,o0,o0⟩
  ·split <;> exact ⟨o0,o0,o0⟩
 ·exact ⟨o0,o0,o0⟩
theorem quit_ok {j : JG} (h : WN j) : (∀ r ∈ (quitG j).notes,NumA r ∧ OkA r) ∧ (quitG j).notes.length ≤ j.tr.length ∧ ∀ m ∈ (quitG j).mail,OkA m.2 := by
 refine ⟨fun r hr => ?_,?_,fun m hm => ?_⟩
 ·obtain ⟨t,ht,rfl⟩ := List.mem_map.1 hr
  obtain ⟨x,_,hx⟩ := List.mem_filterMap.1 (List.mem_filter.1 ht).1
  have hT := h.lk hx
  have hW := h.g.lk hx
  have hx := hW.xx
  have hx0 := hW.x0
  have hx1 := hT.x1
  exact gone_ok (by omega) (by omega)
 ·show ((quitL j _).map _).length ≤ _
  rw [List.length_map]
  unfold quitL
  refine Nat.le_trans (List.length_filter_le _ _) (Nat.le_trans (List.length_filterMap_le _ _) ?_)
  rw [sortL_len,List.length_map]
  exact Nat.le_refl _
 ·obtain ⟨t,_,ht⟩ := List.mem_flatMap.1 hm
  exact told_ok _ _ _ m ht
def appL (j : JG) (l : List NA) : JG := l.foldl appG j
abbrev epochN (m : Int) : NA := { NA.zero with kind := 16,mark := m }
def stepL (j : JG) (d fr : Int) (n : NA) (w : Bool) : List NA :=
 if d % 11 = 8 then [n]
 else if d % 11 = 9 then (quitG j).notes
 else if d % 11 = 10 then [epochN (j.epoch + 1)]
 else if w = false ∧ 0 < (planG j fr n).rec_.length then (planG j fr n).inst
 else (planG j fr n).rec_ ++ (planG j fr n).notes
def stepG (j : JG) (d fr : Int) (n : NA) (w : Bool) : JG := appL j (stepL j d fr n w)
theorem appL_ok {l : List NA} : ∀ {j : JG},WN j → (∀ r ∈ l,NumA r) → WN (appL j l) ∧ (appL j l).tr.length ≤ j.tr.length + l.length ∧ (appL j l).done.length ≤ j.done.length + l.length ∧ (appL j l).shards = j.shards ∧ (appL j l).dim = j.dim := by
 induction l with
 | nil => exact fun h _ => ⟨h,Nat.le_refl _,Nat.le_refl _,rfl,rfl⟩
 | cons r l ih =>
  intro j h hl
  have h1 := h.app (hl r List.mem_cons_self)
  obtain ⟨i1,i2,i3,i4,i5⟩ := ih h1 fun x hx => hl x (List.mem_cons_of_mem _ hx)
  obtain ⟨a1,a2,a3,a4⟩ := app_tl (j := j) (n := r)
  refine ⟨i1,?_,?_,i4.trans a3,i5.trans a4⟩
  ·rw [List.length_cons];show (appL (appG j r) l).tr.length ≤ _;omega
  ·rw [List.length_cons];show (appL (appG j r) l).done.length ≤ _;omega
end Go.Proofs.YtiampehfpgcogaaGreatDoor
namespace Go.Proofs.YtiampehfpgcogaaGreatDoor
open Go Go.SX
attribute [local irreducible] swp opsS thenS blockS retS CallsS St Ent YieldS anyS drawS
def appRG (n : NA) (M : Nat → Option Obj) (p : Nat) (j : JG) (L : List HP) (r : Value) (L' : List HP) : Prop := ∃ M' : Nat → Option Obj,r = .int .i64 (appGE j n) ∧ leM M M' ∧ L' = rgH M' p (appG j n) :: roM M' :: L
theorem gE_lo {j : JG} {n : NA} (hr : rightN n = true) (h : n.kind < 16) : appGE j n = 4 := by
 unfold appGE
 rw [if_neg (by rw [hr];decide),if_neg (by omega),if_neg (by omega),if_neg (by omega),if_neg (by omega)]
theorem gE_no {j : JG} {n : NA} (h : appGE j n ≠ 0) : appG j n = j := appGno h
abbrev begV (n : NV) : TV := ⟨n.txn,n.batch,0,n.after,n.who,n.pa,n.pc,n.parts,none,0,[],none,0,[],n.oa,n.oc,n.ops⟩
abbrev comV (n : NV) : TV := ⟨n.txn,n.batch,0,0,0,n.pa,n.pc,n.parts,none,0,[],none,0,[],none,0,[]⟩
theorem insT_mem {ts : List TV} {t u : TV} : u ∈ insT ts t ↔ u = t ∨ u ∈ ts := by
 unfold insT
 rw [List.mem_append,List.mem_cons]
 conv => rhs;rw [← List.takeWhile_append_dropWhile (p := fun u : TV => decide (u.txn < t.txn)) (l := ts),List.mem_append]
 constructor
 ·rintro (h | h | h)
  ·exact .inr (.inl h)
  ·exact .inl h
  ·exact .inr (.inr h)
 ·rintro (h | h | h)
  ·exact .inr (.inl h)
  ·exact .inl h
  ·exact .inr (.inr h)
theorem insT_len {ts : List TV} {t : TV} : (insT ts t).length = ts.length + 1 := by
 unfold insT
 have := congrArg List.length (List.takeWhile_append_dropWhile (p := fun u : TV => decide (u.txn < t.txn)) (l := ts))
 rw [List.length_append] at this
 rw [List.length_append,List.length_cons]
 omega
theorem flat_set {α : Type} {g : α → List Value} {sz : Nat} (hg : ∀ x,(g x).length = sz) : ∀ (l : List α) (k i : Nat) (x y : α) (w : Value),l[k]? = some x → i < sz → (g x).set i w = g y → (l.flatMap g).set (k * sz + i) w = (l.set k y).flatMap g
 | [],k,i,x,y,w,h,_,_ => by simp at h
 | a :: l,0,i,x,y,w,h,hi,e => by
  simp only [List.getElem?_cons_zero,Option.some.injEq] at h
  subst h
  rw [List.flatMap_cons,List.set_cons_zero,List.flatMap_cons,Nat.zero_mul,Nat.zero_add,List.set_append_left _ _ (by rw [hg];exact hi),e]
 | a :: l,k + 1,i,x,y,w,h,hi,e => by
  simp only [List.getElem?_cons_succ] at h
  rw [List.flatMap_cons,List.set_cons_succ,List.flatMap_cons,List.set_append_right _ _ (by rw [hg,Nat.add_mul];omega),hg,show (k + 1) * sz + i - sz = k * sz + i by rw [Nat.add_mul];omega,flat_set hg l k i x y w h hi e]
theorem set_ok {M1 M2 : Nat → Option Obj} {ts : List TV} {k : Nat} {t : TV} (h : ∀ u ∈ ts,okT M1 u ∧ okC u) (hl : leM M1 M2) (ht : okT M2 t ∧ okC t) : ∀ u ∈ ts.set k t,okT M2 u ∧ okC u := fun u hu => by
 rcases List.mem_or_eq_of_mem_set hu with hu | rfl
 ·exact ⟨(h u hu).1.mono hl,(h u hu).2⟩
 ·exact ht
theorem putL_put {α : Type} {m : List (Int × α)} (h : keysOK m) (x : Int) (a b : α) : putL (putL m x a) x b = putL m x b := by
 rcases keyCase m h x with ⟨p,c,q,rfl,hp,hq⟩ | hn
 ·rw [putL_mid hp hq,putL_mid hp hq,putL_mid hp hq]
 ·rw [putL_none hn,putL_none hn]
  have := putL_mid (q := []) (a := a) (c := b) hn (fun _ h => by cases h)
  exact this
theorem sub_len {a b : List Int} (hr : Rise a) (h : ∀ q ∈ a,q ∈ b) : a.length ≤ b.length := nodup_le (rise_nodup hr) h
theorem WT.ks_len {x : Int} {t : TR} (h : WT x t) : t.acked.length ≤ 4 := Nat.le_trans (sub_len h.kr h.ks) h.pl
theorem WT.ys_len {x : Int} {t : TR} (h : WT x t) : t.yes.length ≤ 4 := Nat.le_trans (sub_len h.yr h.ys) h.pl
theorem quo20 {a : Int} (h : 0 ≤ a ∧ a ≤ 18446744073709551615) : IntKind.u64.wrap (a.tdiv 1048576) = a / 1048576 := by
 rw [Int.tdiv_eq_ediv_of_nonneg h.1]
 exact wrap_u64 (by omega) (by omega)
theorem rem20 {a : Int} (h : 0 ≤ a) : a.tmod 1048576 = a % 1048576 := Int.tmod_eq_emod_of_nonneg h
set_option maxHeartbeats 8000000 in
theorem RgApp_spec (n : NV) (p : Nat) (j : JG) (M : Nat → Option Obj) (L : List HP) (hw : WN j) (htl : j.tr.length ≤ 100000) (hdl : j.done.length ≤ 100000) (hn : okN M n) (hN : OkN n) (u : NumA n.abs) :
  CallsS Tryz.prog 26 [.pointer (some ⟨p,0,none⟩),n.val] (rgH M p j :: roM M :: L) (appRG n.abs M p j L) := by
 have hG := hw.g
 have hno1 := hN.o
 have hnp1 := hN.p
 have hk0 : 0 ≤ n.kind ∧ n.kind ≤ 255 := u.kind
 have htx : 0 ≤ n.txn ∧ n.txn ≤ 18446744073709551615 := u.txn
 refine CallsS.of_body Tryz.func26 rfl rfl rfl ?_
 refine Q.r ?_;(repeat (intro b1;refine Q.r ?_))
 revert b1
 intro b0
 refine S.cr rfl (Right12_spec n _ hn.rd hN u) ?_
 rintro _ _ ⟨rfl,rfl⟩
 cases hr : rightN n.abs with
 | false =>
  have hE : appGE j n.abs = 4 := by unfold appGE;rw [if_pos hr]
  refine Q.r ?_;(repeat (intro b1;refine Q.r ?_))
  refine N.r1 (RV.tmp rfl RV.nil) ?_ ⟨M,by rw [hE],leM.refl M,by rw [gE_no (by rw [hE];decide)]⟩
  exact Go.SX.Ent.go
 | true =>
 by_cases hlo : n.kind < 16
 ·have hE : appGE j n.abs = 4 := gE_lo hr hlo
  refine Q.r ?_;(repeat (intro b1;refine Q.r ?_))
  refine N.r1 (RV.tmp rfl RV.nil) ?_ ⟨M,by rw [hE],leM.refl M,by rw [gE_no (by rw [hE];decide)]⟩
  exact Go.SX.Ent.go
 refine Q.r ?_;(repeat (intro b1;refine Q.r ?_))
 refine opsS_rg p (fun ta tc ts da dc ds hq => ?_)
 have hts : ts.length ≤ 100000 := by rw [hq.len];exact htl
 have hds : ds.length ≤ 100000 := by rw [hq.dlen];exact hdl
 have hst : ∀ v ∈ ts,0 ≤ v.stamp := fun v hv => (hG.lk (hq.has hG.kt hv)).st
 have hcl : ∀ {L L0 : List HP} [Pick (rgP p j ta tc ts da dc ds) L L0],Ent L (rgH M p j :: L0) := rgclose (dc := dc) hq
 refine S.c2 rfl (RgFind_spec p j ta tc ts da dc ds n.txn M _ hq.tS (by omega)) ?_
 rintro _ _ ⟨z,rfl,hz,rfl⟩
 by_cases h16 : n.kind = 16
 ·have hE := appGE16 hr h16 (j := j)
  refine Q.r ?_;(repeat (intro b1;refine Q.r ?_))
  refine D.start [] [] [0,1,2,3,4,5,6] _ [] rfl (by kernel_rfl) rfl (by kernel_rfl) NoPanic.no (Ent.refl _) ?_
  refine Q.rd ?_;(repeat (intro b1;refine Q.rd ?_))
  by_cases hm : n.mark ≤ j.epoch
  ·rw [if_pos (show n.abs.mark ≤ j.epoch from hm)] at hE
   refine Q.r ?_;(repeat (intro b1;refine Q.r ?_))
   refine N.r1 (RV.tmp rfl RV.nil) (Ent.trans hcl ?_) ⟨M,by rw [hE],leM.refl M,by rw [gE_no (by rw [hE];decide)]⟩
   exact Go.SX.Ent.go
  ·rw [if_neg (show ¬ n.abs.mark ≤ j.epoch from hm)] at hE
   refine Q.r ?_;(repeat (intro b1;refine Q.r ?_))
   refine swp_cutB (σ := Option Addr × Nat × List TV) (fun s => [(0,.pointer (some ⟨p,0,none⟩)),(6,.slice s.1 s.2.2.length s.2.1)])
    (fun s => slT s.1 s.2.1 s.2.2 :: rgP p { j with epoch := n.mark,seq := 0 } ta tc ts da dc ds :: roM M :: L) (fun s => s.2.2 = ts.filter fun u => !decide (u.abs.stamp = 0)) ?_ ?_
   ·refine swp_loop (σ := Nat × Option Addr × Nat × List TV) (fun s => [(0,.pointer (some ⟨p,0,none⟩)),(48,.slice ta ts.length tc),(49,.int .i64 ts.length),(6,.slice s.2.1 s.2.2.2.length s.2.2.1),(50,.int .i64 s.1)])
     (fun s => slT s.2.1 s.2.2.1 s.2.2.2 :: rgP p { j with epoch := n.mark,seq := 0 } ta tc ts da dc ds :: roM M :: L) (fun s => s.1 ≤ ts.length ∧ s.2.2.2 = (ts.take s.1).filter fun u => !decide (u.abs.stamp = 0)) (fun s => ts.length - s.1) (0,none,0,[]) ⟨rfl,rfl,rfl,rfl,rfl,trivial⟩ (Ent.trans (slO_nil (t := 121) (sz := 9)) (by exact Go.SX.Ent.go)) ⟨Nat.zero_le _,rfl⟩ ?_
    rintro ⟨k,a3,c3,us⟩ ⟨hk,hus⟩
    dsimp only at hk hus ⊢
    have hul : us.length ≤ 100000 := by
     rw [hus];exact Nat.le_trans (List.length_filter_le _ _) (by rw [List.length_take];omega)
    by_cases hlt : k < ts.length
    ·obtain ⟨d,hd⟩ := mem_get hlt
     obtain ⟨b,oo,hia,cr⟩ := SlM.cm (g := TV.cells) (fun _ => rfl) hq.tS hd rfl
     have hd0 := hst d (List.mem_of_getElem? hd)
     rw [hia]
     have hnext : (ts.take (k + 1)).filter (fun u => !decide (u.abs.stamp = 0)) = us ++ if d.stamp = 0 then [] else [d] := by
      rw [take_snoc hd,List.filter_append,← hus,List.filter_cons,List.filter_nil]
      by_cases hm : d.stamp = 0
      ·rw [if_neg (by simpa using hm),if_pos hm]
      ·rw [if_pos (by simpa using hm),if_neg hm]
     by_cases hs : d.stamp = 0
     ·rw [if_pos hs,List.append_nil] at hnext
      refine Q.r ?_;(repeat (intro b1;refine Q.r ?_))
      rw [← hia]
      refine ⟨(k + 1,a3,c3,us),⟨rfl,rfl,rfl,rfl,rfl,trivial⟩,by exact Go.SX.Ent.go,⟨by dsimp only;omega,hnext.symm⟩,by dsimp only;omega⟩
     ·rw [if_neg hs] at hnext
      refine Q.r ?_;(repeat (intro b1;refine Q.r ?_))
      refine S.app rfl rfl (SrcS.sl RdC.row (by rfl) (by rfl)) (by rfl) (by omega) (by omega) (fun a7 c7 => ?_)
      refine Q.r ?_;(repeat (intro b1;refine Q.r ?_))
      rw [← hia]
      refine ⟨(k + 1,a7,c7,us ++ [d]),⟨rfl,rfl,rfl,congrArg some (by simp),rfl,trivial⟩,?_,⟨by dsimp only;omega,hnext.symm⟩,by dsimp only;omega⟩
      dsimp only [slT]
      rw [len_snoc,flat_snoc]
      exact Go.SX.Ent.go
    ·have hke : k = ts.length := by omega
     subst hke
     rw [List.take_length] at hus
     refine Q.r ?_;(repeat (intro b1;refine Q.r ?_))
     exact ⟨(a3,c3,us),⟨rfl,rfl,trivial⟩,by exact Go.SX.Ent.go,hus⟩
   rintro ⟨a3,c3,us⟩ hus
   dsimp only at hus ⊢
   refine swp_cap a3 (fun hcap => ?_)
   refine swp_abs a3 (fun M1 hl1 hs1 => ?_)
   refine Q.r ?_;(repeat (intro b1;refine Q.r ?_))
   have hfk := fil_keyT hq.tp hq.sT (fun t => !decide (t.stamp = 0))
   refine N.r1 (RV.tmp rfl RV.nil) ?_ ⟨M1,by rw [hE],hl1,rfl⟩
   rw [appG16 hE h16]
   refine Ent.trans (M := rgP p { j with epoch := n.mark,seq := 0,tr := j.tr.filter fun u => !decide (u.2.stamp = 0) } a3 c3 us da dc ds :: roM M1 :: L) (by exact Go.SX.Ent.go) (rg_shut ?_)
   subst hus
   exact hq.of hl1 rfl hfk.1 hfk.2 (fun t ht => ⟨(hq.ok t (List.mem_filter.1 ht).1).mono hl1,hq.oc t (List.mem_filter.1 ht).1⟩) hs1 hcap rfl
 by_cases h19 : n.kind = 19
 ·have hE := appGE19 hr h19 (j := j)
  rcases hz with ⟨k,v,rfl,hk,hv⟩ | ⟨rfl,hno⟩
  ·have hlk := hq.has hG.kt (List.mem_of_getElem? hk)
   rw [hv] at hlk
   rw [show lkL j.tr n.abs.txn = _ from hlk,Option.isSome_some,if_pos rfl] at hE
   refine Q.r ?_;(repeat (intro b1;refine Q.r ?_))
   refine N.r1 (RV.tmp rfl RV.nil) (Ent.trans hcl ?_) ⟨M,by rw [hE],leM.refl M,by rw [gE_no (by rw [hE];decide)]⟩
   exact Go.SX.Ent.go
  ·have hlk := hq.no hno
   rw [show lkL j.tr n.abs.txn = _ from hlk,Option.isSome_none,if_neg (by decide)] at hE
   refine Q.r ?_;(repeat (intro b1;refine Q.r ?_))
   refine S.c2 (A := rgP p j ta tc ts da dc ds) (B := roM M) (args := [.pointer (some ⟨p,0,none⟩),(begV n).val]) rfl (Rinsert_spec p j ta tc ts da dc ds (begV n) M _ hq.tS hq.tc (by omega)) ?_
   rintro _ _ ⟨a3,c3,rfl,rfl⟩
   refine opsS_cap a3 (fun hcap => ?_)
   refine opsS_abs a3 (fun M1 hl1 hs1 => ?_)
   refine Q.r ?_;(repeat (intro b1;refine Q.r ?_))
   refine D.start [] [] [0,1,2,3,4,5,6,7] _ [] rfl (by kernel_rfl) rfl (by kernel_rfl) NoPanic.no (Ent.refl _) ?_
   refine Q.rd ?_;(repeat (intro b1;refine Q.rd ?_))
   refine D.y rfl rfl rfl (by kernel_rfl) (Y.quo rfl rfl (by decide)) ?_
   rw [quo20 htx]
   refine Q.rd ?_;(repeat (intro b1;refine Q.rd ?_))
   have hik := ins_keyT hq.tp hq.sT (t := begV n) hno
   have hok : ∀ t ∈ insT ts (begV n),okT M1 t ∧ okC t := fun t ht => by
    rcases insT_mem.1 ht with rfl | ht
    ·exact ⟨⟨(hn.mono hl1).p,SlM.nil0,SlM.nil0,(hn.mono hl1).o.1,(hn.mono hl1).o.2,hnp1,Nat.zero_le _,Nat.zero_le _,hno1⟩,Nat.zero_le _,Nat.zero_le _⟩
    ·exact ⟨(hq.ok t ht).mono hl1,hq.oc t ht⟩
   by_cases he : n.txn / 1048576 = j.epoch
   ·refine Q.r ?_;(repeat (intro b1;refine Q.r ?_))
    refine Q.dgo [true,true,true] [11] [11] [0,1,2,3,4,5,6,7,8,9,10,11] ?_
    refine Q.rd ?_;(repeat (intro b1;refine Q.rd ?_))
    refine D.y rfl rfl rfl (by kernel_rfl) (Y.rem rfl rfl (by decide)) ?_
    rw [rem20 htx.1]
    refine Q.rd ?_;(repeat (intro b1;refine Q.rd ?_))
    refine Q.dc rfl rfl rfl rfl ?_
    refine Q.r ?_;(repeat (intro b1;refine Q.r ?_))
    refine Q.rd ?_;(repeat (intro b1;refine Q.rd ?_))
    refine Q.r ?_;(repeat (intro b1;refine Q.r ?_))
    refine N.r1 (RV.tmp rfl RV.nil) ?_ ⟨M1,by rw [hE],hl1,rfl⟩
    rw [appG19 hE h19,if_pos (show n.abs.txn / 1048576 = j.epoch from he)]
    refine Ent.trans (M := rgP p { j with tr := putL j.tr n.txn (begT n.abs),seq := max j.seq (n.txn % 1048576) } a3 c3 (insT ts (begV n)) da dc ds :: roM M1 :: L) (by exact Go.SX.Ent.go) (rg_shut ?_)
    exact hq.of hl1 rfl hik.1 hik.2 hok hs1 hcap rfl
   ·refine Q.r ?_;(repeat (intro b1;refine Q.r ?_))
    refine N.r1 (RV.tmp rfl RV.nil) ?_ ⟨M1,by rw [hE],hl1,rfl⟩
    rw [appG19 hE h19,if_neg (show ¬ n.abs.txn / 1048576 = j.epoch from he)]
    refine Ent.trans (M := rgP p { j with tr := putL j.tr n.txn (begT n.abs) } a3 c3 (insT ts (begV n)) da dc ds :: roM M1 :: L) (by exact Go.SX.Ent.go) (rg_shut ?_)
    exact hq.of hl1 rfl hik.1 hik.2 hok hs1 hcap rfl
 by_cases h17 : n.kind = 17
 ·have hE := appGE17 hr h17 (j := j)
  unfold comE at hE
  have hsn : n.stamp ≤ 1099511627776 ∧ 0 ≤ n.stamp := ⟨(right_max hr).1,u.stamp.1⟩
  by_cases hs0 : n.stamp = 0
  ·rw [if_pos (show n.abs.stamp = 0 from hs0)] at hE
   refine Q.r ?_;(repeat (intro b1;refine Q.r ?_))
   refine N.r1 (RV.tmp rfl RV.nil) (Ent.trans hcl ?_) ⟨M,by rw [hE],leM.refl M,by rw [gE_no (by rw [hE];decide)]⟩
   exact Go.SX.Ent.go
  rw [if_neg (show ¬ n.abs.stamp = 0 from hs0)] at hE
  rcases hz with ⟨k,v,rfl,hk,hv⟩ | ⟨rfl,hno⟩
  ·have hvm := List.mem_of_getElem? hk
   have hkl : k < ts.length := (List.getElem?_eq_some_iff.1 hk).1
   have hlk := hq.has hG.kt hvm
   rw [hv] at hlk
   rw [show lkL j.tr n.abs.txn = _ from hlk] at hE
   dsimp only at hE
   obtain ⟨b,oo,hia,cr⟩ := SlM.cm (g := TV.cells) (fun _ => rfl) hq.tS hk rfl
   by_cases hp : 0 < v.stamp
   ·rw [if_pos (show 0 < v.abs.stamp from hp)] at hE
    rw [hia] at hcl ⊢
    refine Q.r ?_;(repeat (intro b1;refine Q.r ?_))
    refine N.r1 (RV.tmp rfl RV.nil) (Ent.trans hcl ?_) ⟨M,by rw [hE],leM.refl M,by rw [gE_no (by rw [hE];decide)]⟩
    exact Go.SX.Ent.go
   rw [if_neg (show ¬ 0 < v.abs.stamp from hp)] at hE
   have hq1 := hq
   rw [hia] at hq1 ⊢
   refine Q.r ?_;(repeat (intro b1;refine Q.r ?_))
   refine opsS_ent (slO_fold (sz := 9) (m := 0) rfl) ?_
   refine S.app0 rfl rfl rfl (SrcS.rd hq1.tS.rd (TV_one _)) (by rfl) (by omega) (by omega) (fun a5 c5 => ?_)
   refine opsS_addr a5 (fun ha5 => ?_)
   obtain ⟨b5,rfl⟩ : ∃ b5,a5 = some ⟨b5,0,none⟩ := ha5.resolve_left (by omega)
   refine Q.r ?_;(repeat (intro b1;refine Q.r ?_))
   refine Q.dgo [false,true,false,true] [9] [] [0,1,2,3,4,5,6,7,8,9] ?_
   refine Q.rd ?_;(repeat (intro b1;refine Q.rd ?_))
   refine D.e rfl rfl rfl ?_
   refine S.stO (cs' := (ts.set k { v with stamp := n.stamp }).flatMap TV.cells) rfl rfl rfl (by rw [flat_len (sz := 9) (fun _ => rfl)];omega) (by rw [Nat.zero_add];exact flat_set (g := TV.cells) (sz := 9) (fun _ => rfl) _ k 2 v _ _ hk (by decide) rfl) ?_
   refine Q.r ?_;(repeat (intro b1;refine Q.r ?_))
   refine Q.rd ?_;(repeat (intro b1;refine Q.rd ?_))
   refine N.tn ?_
   refine swp_cap (some ⟨b5,0,none⟩) (fun hcap5 => ?_)
   refine swp_abs (some ⟨b5,0,none⟩) (fun M5 hl5 hs5 => ?_)
   have hs5' : SlM M5 (some ⟨b5,0,none⟩) (ts.set k { v with stamp := n.stamp }).length 9 ((ts.set k { v with stamp := n.stamp }).flatMap TV.cells) := by rw [List.length_set];exact hs5
   obtain ⟨b6,o6,hia6,cr6⟩ := SlM.cm (g := TV.cells) (k := k) (x := ({ v with stamp := n.stamp } : TV)) (fun _ => rfl) hs5' (List.getElem?_set_self hkl) rfl
   cases hia6
   refine swp_ent (L' := roM M5 :: rgP p j (some ⟨b5,0,none⟩) c5 (ts.set k { v with stamp := n.stamp }) da dc ds :: pt b0 (cl n.cells 39) :: L) (by unfold rgP;rw [List.length_set];exact Go.SX.Ent.go) ?_
   have hkl5 : k < (ts.set k { v with stamp := n.stamp }).length := by rw [List.length_set];exact hkl
   refine Q.r ?_;(repeat (intro b1;refine Q.r ?_))
   refine Q.dgo [true,true,true] [11] [11] [0,1,2,3,4,5,6,7,8,9,10,11] ?_
   refine Q.rd2 ?_
   refine Q.dc rfl rfl rfl rfl ?_
   refine S.c2 (A := rgP p j (some ⟨b5,0,none⟩) c5 (ts.set k { v with stamp := n.stamp }) da dc ds) (B := roM M5) rfl (Rset_spec p j (some ⟨b5,0,none⟩) c5 (ts.set k { v with stamp := n.stamp }) da dc ds v.batch n.stamp M5 _ (hq1.dS.mono hl5) hq1.sD (by omega)) ?_
   rintro _ _ ⟨a6,c6,rfl,rfl⟩
   refine opsS_abs a6 (fun M6 hl6 hs6 => ?_)
   refine Q.r ?_;(repeat (intro b1;refine Q.r ?_))
   refine Q.rd ?_;(repeat (intro b1;refine Q.rd ?_))
   refine Q.r ?_;(repeat (intro b1;refine Q.r ?_))
   refine Q.dgo [true,true,true] [10] [10] [0,1,2,3,4,5,6,7,8,9,10] ?_
   refine Q.rd2 ?_
   refine Q.dc rfl rfl rfl rfl ?_
   refine Q.r ?_;(repeat (intro b1;refine Q.r ?_))
   refine Q.rd ?_;(repeat (intro b1;refine Q.rd ?_))
   refine Q.r ?_;(repeat (intro b1;refine Q.r ?_))
   have hsk := set_keyT hq1.tp hG.kt hq1.sT (t := { v with stamp := n.stamp }) hk rfl
   have hgd : (lkL j.tr n.abs.txn).getD (comT n.abs) = v.abs := by rw [show lkL j.tr n.abs.txn = _ from hlk];rfl
   refine N.r1 (RV.tmp rfl RV.nil) ?_ ⟨M6,by rw [hE],hl5.trans hl6,rfl⟩
   rw [appG17 hE h17,hgd]
   refine Ent.trans (M := rgP p { j with tr := putL j.tr n.txn { v.abs with stamp := n.stamp },done := putL j.done v.batch n.stamp,last := max j.last n.stamp } (some ⟨b5,0,none⟩) c5 (ts.set k { v with stamp := n.stamp }) a6 c6 (insD ds (v.batch,n.stamp)) :: roM M6 :: L) (by exact Go.SX.Ent.go) (rg_shut ?_)
   have hvt : okT M5 { v with stamp := n.stamp } ∧ okC { v with stamp := n.stamp } := ⟨⟨((hq1.ok v hvm).mono hl5).p,((hq1.ok v hvm).mono hl5).y,((hq1.ok v hvm).mono hl5).k,((hq1.ok v hvm).mono hl5).o,((hq1.ok v hvm).mono hl5).ov,(hq1.ok v hvm).pl,(hq1.ok v hvm).yl,(hq1.ok v hvm).kl,(hq1.ok v hvm).ol⟩,⟨(hq1.oc v hvm).y,(hq1.oc v hvm).k⟩⟩
   have hqa : RG M5 { j with tr := putL j.tr n.txn { v.abs with stamp := n.stamp } } (some ⟨b5,0,none⟩) c5 (ts.set k { v with stamp := n.stamp }) da ds :=
    hq1.of hl5 rfl (by rw [← hv];exact hsk.1) hsk.2 (set_ok (fun t ht => ⟨hq1.ok t ht,hq1.oc t ht⟩) hl5 hvt) hs5' (by rw [List.length_set];exact hcap5) rfl
   refine hqa.ofD hl6 ?_ ?_ (d := (v.batch,n.stamp)) hG.kd ?_ hs6 <;> rfl
  ·have hlk := hq.no hno
   rw [show lkL j.tr n.abs.txn = _ from hlk] at hE
   dsimp only at hE
   refine Q.r ?_;(repeat (intro b1;refine Q.r ?_))
   refine S.c2 (A := rgP p j ta tc ts da dc ds) (B := roM M) (args := [.pointer (some ⟨p,0,none⟩),(comV n).val]) rfl (Rinsert_spec p j ta tc ts da dc ds (comV n) M _ hq.tS hq.tc (by omega)) ?_
   rintro _ _ ⟨a3,c3,rfl,rfl⟩
   refine opsS_cap a3 (fun hcap => ?_)
   refine opsS_abs a3 (fun M1 hl1 hs1 => ?_)
   have hik := ins_keyT hq.tp hq.sT (t := comV n) hno
   have hok : ∀ t ∈ insT ts (comV n),okT M1 t ∧ okC t := fun t ht => by
    rcases insT_mem.1 ht with rfl | ht
    ·exact ⟨⟨(hn.mono hl1).p,SlM.nil0,SlM.nil0,SlM.nil0,fun _ h => (by cases h),hnp1,Nat.zero_le _,Nat.zero_le _,Nat.zero_le _⟩,Nat.zero_le _,Nat.zero_le _⟩
    ·exact ⟨(hq.ok t ht).mono hl1,hq.oc t ht⟩
   have hq0 : RG M1 { j with tr := putL j.tr n.txn (comT n.abs) } a3 c3 (insT ts (comV n)) da ds := hq.of hl1 rfl hik.1 hik.2 hok hs1 hcap rfl
   have hk1 : keysOK (putL j.tr n.txn (comT n.abs)) := putL_ok hG.kt _ _
   refine Q.r ?_;(repeat (intro b1;refine Q.r ?_))
   refine S.c2 (A := rgP p j a3 c3 (insT ts (comV n)) da dc ds) (B := roM M1) rfl (RgFind_spec p j a3 c3 (insT ts (comV n)) da dc ds n.txn M1 _ hs1 (by rw [insT_len];omega)) ?_
   rintro _ _ ⟨z,rfl,hz,rfl⟩
   rcases hz with ⟨k,v,rfl,hk,hv⟩ | ⟨_,hno2⟩
   case inr => exact absurd rfl (hno2 _ (insT_mem.2 (.inl rfl)))
   have hvm := List.mem_of_getElem? hk
   have hkl := (List.getElem?_eq_some_iff.1 hk).1
   have hil : (insT ts (comV n)).length ≤ 100001 := by rw [insT_len];omega
   have hva : v.abs = comT n.abs := by
    have h1 := hq0.has hk1 hvm
    rw [hv] at h1
    have h2 : lkL (putL j.tr n.txn (comT n.abs)) n.txn = some (comT n.abs) := by rw [lkL_put hG.kt,if_pos rfl]
    exact Option.some.inj (h1.symm.trans h2)
   have hpp : ∀ X,putL (putL j.tr n.txn (comT n.abs)) v.txn X = putL j.tr n.txn X := fun X => by rw [hv,putL_put hG.kt]
   obtain ⟨b,oo,hia,cr⟩ := SlM.cm (g := TV.cells) (fun _ => rfl) hs1 hk rfl
   have hq1 := hq0
   rw [hia] at hq1 ⊢
   refine Q.r ?_;(repeat (intro b1;refine Q.r ?_))
   refine opsS_ent (slO_fold (sz := 9) (m := 0) rfl) ?_
   refine S.app0 rfl rfl rfl (SrcS.rd hq1.tS.rd (TV_one _)) (by rfl) (by omega) (by omega) (fun a5 c5 => ?_)
   refine opsS_addr a5 (fun ha5 => ?_)
   obtain ⟨b5,rfl⟩ : ∃ b5,a5 = some ⟨b5,0,none⟩ := ha5.resolve_left (by omega)
   refine Q.r ?_;(repeat (intro b1;refine Q.r ?_))
   refine Q.dgo [false,true,false,true] [9] [] [0,1,2,3,4,5,6,7,8,9] ?_
   refine Q.rd ?_;(repeat (intro b1;refine Q.rd ?_))
   refine D.e rfl rfl rfl ?_
   refine S.stO (cs' := ((insT ts (comV n)).set k { v with stamp := n.stamp }).flatMap TV.cells) rfl rfl rfl (by rw [flat_len (sz := 9) (fun _ => rfl)];omega) (by rw [Nat.zero_add];exact flat_set (g := TV.cells) (sz := 9) (fun _ => rfl) _ k 2 v _ _ hk (by decide) rfl) ?_
   refine Q.r ?_;(repeat (intro b1;refine Q.r ?_))
   refine Q.rd ?_;(repeat (intro b1;refine Q.rd ?_))
   refine N.tn ?_
   refine swp_cap (some ⟨b5,0,none⟩) (fun hcap5 => ?_)
   refine swp_abs (some ⟨b5,0,none⟩) (fun M5 hl5 hs5 => ?_)
   have hs5' : SlM M5 (some ⟨b5,0,none⟩) ((insT ts (comV n)).set k { v with stamp := n.stamp }).length 9 (((insT ts (comV n)).set k { v with stamp := n.stamp }).flatMap TV.cells) := by rw [List.length_set];exact hs5
   obtain ⟨b6,o6,hia6,cr6⟩ := SlM.cm (g := TV.cells) (k := k) (x := ({ v with stamp := n.stamp } : TV)) (fun _ => rfl) hs5' (List.getElem?_set_self hkl) rfl
   cases hia6
   refine swp_ent (L' := roM M5 :: rgP p j (some ⟨b5,0,none⟩) c5 ((insT ts (comV n)).set k { v with stamp := n.stamp }) da dc ds :: pt b0 (cl n.cells 39) :: L) (by unfold rgP;rw [List.length_set];exact Go.SX.Ent.go) ?_
   have hkl5 : k < ((insT ts (comV n)).set k { v with stamp := n.stamp }).length := by rw [List.length_set];exact hkl
   refine Q.r ?_;(repeat (intro b1;refine Q.r ?_))
   refine Q.dgo [true,true,true] [11] [11] [0,1,2,3,4,5,6,7,8,9,10,11] ?_
   refine Q.rd2 ?_
   refine Q.dc rfl rfl rfl rfl ?_
   refine S.c2 (A := rgP p j (some ⟨b5,0,none⟩) c5 ((insT ts (comV n)).set k { v with stamp := n.stamp }) da dc ds) (B := roM M5) rfl (Rset_spec p j (some ⟨b5,0,none⟩) c5 ((insT ts (comV n)).set k { v with stamp := n.stamp }) da dc ds v.batch n.stamp M5 _ (hq1.dS.mono hl5) hq1.sD (by omega)) ?_
   rintro _ _ ⟨a6,c6,rfl,rfl⟩
   refine opsS_abs a6 (fun M6 hl6 hs6 => ?_)
   refine Q.r ?_;(repeat (intro b1;refine Q.r ?_))
   refine Q.rd ?_;(repeat (intro b1;refine Q.rd ?_))
   refine Q.r ?_;(repeat (intro b1;refine Q.r ?_))
   refine Q.dgo [true,true,true] [10] [10] [0,1,2,3,4,5,6,7,8,9,10] ?_
   refine Q.rd2 ?_
   refine Q.dc rfl rfl rfl rfl ?_
   refine Q.r ?_;(repeat (intro b1;refine Q.r ?_))
   refine Q.rd ?_;(repeat (intro b1;refine Q.rd ?_))
   refine Q.r ?_;(repeat (intro b1;refine Q.r ?_))
   have hsk := set_keyT hq1.tp hk1 hq1.sT (t := { v with stamp := n.stamp }) hk rfl
   have hgd : (lkL j.tr n.abs.txn).getD (comT n.abs) = v.abs := by rw [show lkL j.tr n.abs.txn = _ from hlk];exact hva.symm
   refine N.r1 (RV.tmp rfl RV.nil) ?_ ⟨M6,by rw [hE],hl1.trans (hl5.trans hl6),rfl⟩
   rw [appG17 hE h17,hgd]
   refine Ent.trans (M := rgP p { j with tr := putL j.tr n.txn { v.abs with stamp := n.stamp },done := putL j.done v.batch n.stamp,last := max j.last n.stamp } (some ⟨b5,0,none⟩) c5 ((insT ts (comV n)).set k { v with stamp := n.stamp }) a6 c6 (insD ds (v.batch,n.stamp)) :: roM M6 :: L) (by exact Go.SX.Ent.go) (rg_shut ?_)
   have hvt : okT M5 { v with stamp := n.stamp } ∧ okC { v with stamp := n.stamp } := ⟨⟨((hq1.ok v hvm).mono hl5).p,((hq1.ok v hvm).mono hl5).y,((hq1.ok v hvm).mono hl5).k,((hq1.ok v hvm).mono hl5).o,((hq1.ok v hvm).mono hl5).ov,(hq1.ok v hvm).pl,(hq1.ok v hvm).yl,(hq1.ok v hvm).kl,(hq1.ok v hvm).ol⟩,⟨(hq1.oc v hvm).y,(hq1.oc v hvm).k⟩⟩
   have hqa : RG M5 { j with tr := putL j.tr n.txn { v.abs with stamp := n.stamp } } (some ⟨b5,0,none⟩) c5 ((insT ts (comV n)).set k { v with stamp := n.stamp }) da ds :=
    hq1.of hl5 rfl (hsk.1.trans (List.Perm.of_eq (hpp _))) hsk.2 (set_ok (fun t ht => ⟨hq1.ok t ht,hq1.oc t ht⟩) hl5 hvt) hs5' (by rw [List.length_set];exact hcap5) rfl
   refine hqa.ofD hl6 ?_ ?_ (d := (v.batch,n.stamp)) hG.kd ?_ hs6 <;> rfl
 have hkk : n.kind = 18 ∨ n.kind = 22 ∨ n.kind = 20 ∨ n.kind = 21 := by
  have h22 : n.kind ≤ 22 := by
   unfold rightN at hr
   simp only [Bool.and_eq_true,decide_eq_true_eq] at hr
   exact hr.1.1.2
  omega
 rcases hz with ⟨k,v,rfl,hk,hv⟩ | ⟨rfl,hno⟩
 ·have hvm := List.mem_of_getElem? hk
  have hkl : k < ts.length := (List.getElem?_eq_some_iff.1 hk).1
  have hlk := hq.has hG.kt hvm
  rw [hv] at hlk
  have hv0 := hst v hvm
  obtain ⟨b,oo,hia,cr⟩ := SlM.cm (g := TV.cells) (fun _ => rfl) hq.tS hk rfl
  by_cases he : n.kind = 18 ∨ n.kind = 22
  ·have hE := appGEe hr he (j := j)
   rw [show lkL j.tr n.abs.txn = _ from hlk] at hE
   dsimp only at hE
   by_cases hne : (0 < v.stamp) ↔ (n.kind = 18)
   ·rw [if_neg (by exact fun h => h (decide_eq_decide.2 hne))] at hE
    by_cases h18 : n.kind = 18
    ·have hvp := hne.2 h18
     rw [hia] at hq hcl ⊢
     refine Q.r ?_;(repeat (intro b1;refine Q.r ?_))
     refine S.c2 (A := rgP p j (some ⟨b,oo,none⟩) tc ts da dc ds) (B := roM M) rfl (Rremove_spec p j (some ⟨b,oo,none⟩) tc ts da dc ds k M _ hq.tS hq.tc (by omega) hkl) ?_
     rintro _ _ ⟨a3,c3,rfl,rfl⟩
     refine opsS_cap a3 (fun hcap => ?_)
     refine opsS_abs a3 (fun M1 hl1 hs1 => ?_)
     refine Q.r ?_;(repeat (intro b1;refine Q.r ?_))
     have hik := del_keyT hq.tp hq.sT hk
     refine N.r1 (RV.tmp rfl RV.nil) ?_ ⟨M1,by rw [hE],hl1,rfl⟩
     rw [appGe hE he]
     refine Ent.trans (M := rgP p { j with tr := delL j.tr n.txn } a3 c3 (ts.eraseIdx k) da dc ds :: roM M1 :: L) (by exact Go.SX.Ent.go) (rg_shut ?_)
     exact hq.of hl1 rfl (by rw [← hv];exact hik.1) hik.2 (fun t ht => ⟨(hq.ok t (List.mem_of_mem_eraseIdx ht)).mono hl1,hq.oc t (List.mem_of_mem_eraseIdx ht)⟩) hs1 hcap rfl
    ·have hvp : v.stamp = 0 := by have := fun h => h18 (hne.1 h);omega
     have h22 : n.kind = 22 := by omega
     rw [hia] at hq hcl ⊢
     refine Q.r ?_;(repeat (intro b1;refine Q.r ?_))
     refine S.c2 (A := rgP p j (some ⟨b,oo,none⟩) tc ts da dc ds) (B := roM M) rfl (Rremove_spec p j (some ⟨b,oo,none⟩) tc ts da dc ds k M _ hq.tS hq.tc (by omega) hkl) ?_
     rintro _ _ ⟨a3,c3,rfl,rfl⟩
     refine opsS_cap a3 (fun hcap => ?_)
     refine opsS_abs a3 (fun M1 hl1 hs1 => ?_)
     refine Q.r ?_;(repeat (intro b1;refine Q.r ?_))
     have hik := del_keyT hq.tp hq.sT hk
     refine N.r1 (RV.tmp rfl RV.nil) ?_ ⟨M1,by rw [hE],hl1,rfl⟩
     rw [appGe hE he]
     refine Ent.trans (M := rgP p { j with tr := delL j.tr n.txn } a3 c3 (ts.eraseIdx k) da dc ds :: roM M1 :: L) (by exact Go.SX.Ent.go) (rg_shut ?_)
     exact hq.of hl1 rfl (by rw [← hv];exact hik.1) hik.2 (fun t ht => ⟨(hq.ok t (List.mem_of_mem_eraseIdx ht)).mono hl1,hq.oc t (List.mem_of_mem_eraseIdx ht)⟩) hs1 hcap rfl
   ·rw [if_pos (fun h => hne (decide_eq_decide.1 h))] at hE
    rw [hia] at hq hcl ⊢
    by_cases h18 : n.kind = 18
    ·have hvp : v.stamp = 0 := by have := fun h => hne ⟨fun _ => h18,fun _ => h⟩;omega
     refine Q.r ?_;(repeat (intro b1;refine Q.r ?_))
     refine N.r1 (RV.tmp rfl RV.nil) (Ent.trans hcl ?_) ⟨M,by rw [hE],leM.refl M,by rw [gE_no (by rw [hE];decide)]⟩
     exact Go.SX.Ent.go
    ·have hvp : 0 < v.stamp := by rcases Int.lt_or_le 0 v.stamp with h | h;exact h;exact absurd ⟨fun h' => absurd h' (by omega),fun h' => absurd h' h18⟩ hne
     have h22 : n.kind = 22 := by omega
     refine Q.r ?_;(repeat (intro b1;refine Q.r ?_))
     refine N.r1 (RV.tmp rfl RV.nil) (Ent.trans hcl ?_) ⟨M,by rw [hE],leM.refl M,by rw [gE_no (by rw [hE];decide)]⟩
     exact Go.SX.Ent.go
  ·have hw1 : n.kind = 20 ∨ n.kind = 21 := by omega
   have hE := appGEw hr hw1 (j := j)
   rw [show lkL j.tr n.abs.txn = _ from hlk] at hE
   dsimp only at hE
   have hvo := hq.ok v hvm
   have hvc := hq.oc v hvm
   have hvpl := hvo.pl
   have hvyl := hvo.yl
   have hvkl := hvo.kl
   unfold saidE at hE
   by_cases hne : (0 < v.stamp) ↔ (n.kind = 21)
   ·rw [if_neg (by exact fun h => h (decide_eq_decide.2 hne))] at hE
    by_cases h21 : n.kind = 21
    ·have hvp := hne.2 h21
     rw [if_pos (show n.abs.kind = 21 from h21)] at hE
     rw [hia] at hq hcl ⊢
     refine Q.r ?_;(repeat (intro b1;refine Q.r ?_))
     refine S.cr rfl (Ris_spec v.pa v.pc v.parts n.who _ hvo.p.rd hvpl) ?_
     rintro _ _ ⟨rfl,rfl⟩
     by_cases hm : n.who ∈ v.parts
     ·rw [decide_eq_true hm]
      refine Q.r ?_;(repeat (intro b1;refine Q.r ?_))
      refine S.cr rfl (Ris_spec v.ka v.kc v.acked n.who _ hvo.k.rd hvkl) ?_
      rintro _ _ ⟨rfl,rfl⟩
      by_cases hm2 : n.who ∈ v.acked
      ·rw [if_pos (.inr hm2)] at hE
       rw [decide_eq_true hm2]
       refine Q.r ?_;(repeat (intro b1;refine Q.r ?_))
       refine N.r1 (RV.tmp rfl RV.nil) (Ent.trans hcl ?_) ⟨M,by rw [hE],leM.refl M,by rw [gE_no (by rw [hE];decide)]⟩
       exact Go.SX.Ent.go
      rw [if_neg (by rintro (h | h);exact h hm;exact hm2 h)] at hE
      rw [decide_eq_false hm2]
      refine Q.r ?_;(repeat (intro b1;refine Q.r ?_))
      refine opsS_ent (slO_fold (sz := 9) (m := 0) rfl) ?_
      refine S.app0 rfl rfl rfl (SrcS.rd hq.tS.rd (TV_one _)) (by rfl) (by omega) (by omega) (fun a5 c5 => ?_)
      refine opsS_addr a5 (fun ha5 => ?_)
      obtain ⟨b5,rfl⟩ : ∃ b5,a5 = some ⟨b5,0,none⟩ := ha5.resolve_left (by omega)
      refine Q.r ?_;(repeat (intro b1;refine Q.r ?_))
      refine Q.dgo [false,false,true,false,true] [8,11] [] [0,1,2,3,4,5,6,7,8,9,10,11] ?_
      refine Q.rd ?_;(repeat (intro b1;refine Q.rd ?_))
      refine D.e rfl rfl rfl ?_
      refine S.cr rfl (Rput_spec v.ka v.kc v.acked n.who _ hvo.k.rd hvc.k hvkl) ?_
      rintro _ _ ⟨a7,c7,rfl,rfl⟩
      refine opsS_cap a7 (fun hcap7 => ?_)
      refine opsS_abs a7 (fun M7 hl7 hs7 => ?_)
      refine Q.r ?_;(repeat (intro b1;refine Q.r ?_))
      refine Q.rd ?_;(repeat (intro b1;refine Q.rd ?_))
      refine D.e rfl rfl rfl ?_
      refine S.stO (cs' := (ts.set k { v with ka := a7,kc := c7,acked := putI v.acked n.who }).flatMap TV.cells) rfl rfl rfl (by rw [flat_len (sz := 9) (fun _ => rfl)];omega) (by rw [Nat.zero_add];exact flat_set (g := TV.cells) (sz := 9) (fun _ => rfl) _ k 7 v _ _ hk (by decide) rfl) ?_
      refine Q.r ?_;(repeat (intro b1;refine Q.r ?_))
      refine Q.rd ?_;(repeat (intro b1;refine Q.rd ?_))
      refine N.tn ?_
      refine swp_cap (some ⟨b5,0,none⟩) (fun hcap5 => ?_)
      refine swp_abs (some ⟨b5,0,none⟩) (fun M5 hl5 hs5 => ?_)
      have hs5' : SlM M5 (some ⟨b5,0,none⟩) (ts.set k { v with ka := a7,kc := c7,acked := putI v.acked n.who }).length 9 ((ts.set k { v with ka := a7,kc := c7,acked := putI v.acked n.who }).flatMap TV.cells) := by rw [List.length_set];exact hs5
      refine swp_ent (L' := roM M5 :: rgP p j (some ⟨b5,0,none⟩) c5 (ts.set k { v with ka := a7,kc := c7,acked := putI v.acked n.who }) da dc ds :: L) (by unfold rgP;rw [List.length_set];exact Go.SX.Ent.go) ?_
      refine Q.r ?_;(repeat (intro b1;refine Q.r ?_))
      have hl75 := hl7.trans hl5
      have hsk := set_keyT hq.tp hG.kt hq.sT (t := { v with ka := a7,kc := c7,acked := putI v.acked n.who }) hk rfl
      refine N.r1 (RV.tmp rfl RV.nil) ?_ ⟨M5,by rw [hE],hl75,rfl⟩
      rw [appGw hE hw1 hlk]
      have hsd : saidT v.abs n.abs = { v.abs with acked := putI v.acked n.who } := by unfold saidT;rw [if_pos (show n.abs.kind = 21 from h21)]
      rw [hsd]
      refine Ent.trans (M := rgP p { j with tr := putL j.tr n.txn { v.abs with acked := putI v.acked n.who } } (some ⟨b5,0,none⟩) c5 (ts.set k { v with ka := a7,kc := c7,acked := putI v.acked n.who }) da dc ds :: roM M5 :: L) (by exact Go.SX.Ent.go) (rg_shut ?_)
      have hvm7 := hvo.mono hl75
      have hpil : (putI v.acked n.who).length ≤ 1000000 := by rw [putI_len];have h4 : v.acked.length ≤ 4 := (hG.lk hlk).ks_len;omega
      have hvt : okT M5 { v with ka := a7,kc := c7,acked := putI v.acked n.who } ∧ okC { v with ka := a7,kc := c7,acked := putI v.acked n.who } := ⟨⟨hvm7.p,hvm7.y,hs7.mono hl5,hvm7.o,hvm7.ov,hvm7.pl,hvm7.yl,hpil,hvm7.ol⟩,⟨hvc.y,hcap7⟩⟩
      exact hq.of hl75 rfl (by rw [← hv];exact hsk.1) hsk.2 (set_ok (fun t ht => ⟨hq.ok t ht,hq.oc t ht⟩) hl75 hvt) hs5' (by rw [List.length_set];exact hcap5) rfl
     ·rw [if_pos (.inl hm)] at hE
      rw [decide_eq_false hm]
      refine Q.r ?_;(repeat (intro b1;refine Q.r ?_))
      refine N.r1 (RV.tmp rfl RV.nil) (Ent.trans hcl ?_) ⟨M,by rw [hE],leM.refl M,by rw [gE_no (by rw [hE];decide)]⟩
      exact Go.SX.Ent.go
    ·have hvp : v.stamp = 0 := by have := fun h => h21 (hne.1 h);omega
     have h20 : n.kind = 20 := by omega
     rw [if_neg (show ¬ n.abs.kind = 21 from h21)] at hE
     rw [hia] at hq hcl ⊢
     refine Q.r ?_;(repeat (intro b1;refine Q.r ?_))
     refine S.cr rfl (Ris_spec v.pa v.pc v.parts n.who _ hvo.p.rd hvpl) ?_
     rintro _ _ ⟨rfl,rfl⟩
     by_cases hm : n.who ∈ v.parts
     ·rw [decide_eq_true hm]
      refine Q.r ?_;(repeat (intro b1;refine Q.r ?_))
      refine S.cr rfl (Ris_spec v.ya v.yc v.yes n.who _ hvo.y.rd hvyl) ?_
      rintro _ _ ⟨rfl,rfl⟩
      by_cases hm2 : n.who ∈ v.yes
      ·rw [if_pos (.inr hm2)] at hE
       rw [decide_eq_true hm2]
       refine Q.r ?_;(repeat (intro b1;refine Q.r ?_))
       refine N.r1 (RV.tmp rfl RV.nil) (Ent.trans hcl ?_) ⟨M,by rw [hE],leM.refl M,by rw [gE_no (by rw [hE];decide)]⟩
       exact Go.SX.Ent.go
      rw [if_neg (by rintro (h | h);exact h hm;exact hm2 h)] at hE
      rw [decide_eq_false hm2]
      refine Q.r ?_;(repeat (intro b1;refine Q.r ?_))
      refine opsS_ent (slO_fold (sz := 9) (m := 0) rfl) ?_
      refine S.app0 rfl rfl rfl (SrcS.rd hq.tS.rd (TV_one _)) (by rfl) (by omega) (by omega) (fun a5 c5 => ?_)
      refine opsS_addr a5 (fun ha5 => ?_)
      obtain ⟨b5,rfl⟩ : ∃ b5,a5 = some ⟨b5,0,none⟩ := ha5.resolve_left (by omega)
      refine Q.r ?_;(repeat (intro b1;refine Q.r ?_))
      refine Q.dgo [false,false,true,false,true] [8,11] [] [0,1,2,3,4,5,6,7,8,9,10,11] ?_
      refine Q.rd ?_;(repeat (intro b1;refine Q.rd ?_))
      refine D.e rfl rfl rfl ?_
      refine S.cr rfl (Rput_spec v.ya v.yc v.yes n.who _ hvo.y.rd hvc.y hvyl) ?_
      rintro _ _ ⟨a7,c7,rfl,rfl⟩
      refine opsS_cap a7 (fun hcap7 => ?_)
      refine opsS_abs a7 (fun M7 hl7 hs7 => ?_)
      refine Q.r ?_;(repeat (intro b1;refine Q.r ?_))
      refine Q.rd ?_;(repeat (intro b1;refine Q.rd ?_))
      refine D.e rfl rfl rfl ?_
      refine S.stO (cs' := (ts.set k { v with ya := a7,yc := c7,yes := putI v.yes n.who }).flatMap TV.cells) rfl rfl rfl (by rw [flat_len (sz := 9) (fun _ => rfl)];omega) (by rw [Nat.zero_add];exact flat_set (g := TV.cells) (sz := 9) (fun _ => rfl) _ k 6 v _ _ hk (by decide) rfl) ?_
      refine Q.r ?_;(repeat (intro b1;refine Q.r ?_))
      refine Q.rd ?_;(repeat (intro b1;refine Q.rd ?_))
      refine N.tn ?_
      refine swp_cap (some ⟨b5,0,none⟩) (fun hcap5 => ?_)
      refine swp_abs (some ⟨b5,0,none⟩) (fun M5 hl5 hs5 => ?_)
      have hs5' : SlM M5 (some ⟨b5,0,none⟩) (ts.set k { v with ya := a7,yc := c7,yes := putI v.yes n.who }).length 9 ((ts.set k { v with ya := a7,yc := c7,yes := putI v.yes n.who }).flatMap TV.cells) := by rw [List.length_set];exact hs5
      refine swp_ent (L' := roM M5 :: rgP p j (some ⟨b5,0,none⟩) c5 (ts.set k { v with ya := a7,yc := c7,yes := putI v.yes n.who }) da dc ds :: L) (by unfold rgP;rw [List.length_set];exact Go.SX.Ent.go) ?_
      refine Q.r ?_;(repeat (intro b1;refine Q.r ?_))
      have hl75 := hl7.trans hl5
      have hsk := set_keyT hq.tp hG.kt hq.sT (t := { v with ya := a7,yc := c7,yes := putI v.yes n.who }) hk rfl
      refine N.r1 (RV.tmp rfl RV.nil) ?_ ⟨M5,by rw [hE],hl75,rfl⟩
      rw [appGw hE hw1 hlk]
      have hsd : saidT v.abs n.abs = { v.abs with yes := putI v.yes n.who } := by unfold saidT;rw [if_neg (show ¬ n.abs.kind = 21 from h21)]
      rw [hsd]
      refine Ent.trans (M := rgP p { j with tr := putL j.tr n.txn { v.abs with yes := putI v.yes n.who } } (some ⟨b5,0,none⟩) c5 (ts.set k { v with ya := a7,yc := c7,yes := putI v.yes n.who }) da dc ds :: roM M5 :: L) (by exact Go.SX.Ent.go) (rg_shut ?_)
      have hvm7 := hvo.mono hl75
      have hpil : (putI v.yes n.who).length ≤ 1000000 := by rw [putI_len];have h4 : v.yes.length ≤ 4 := (hG.lk hlk).ys_len;omega
      have hvt : okT M5 { v with ya := a7,yc := c7,yes := putI v.yes n.who } ∧ okC { v with ya := a7,yc := c7,yes := putI v.yes n.who } := ⟨⟨hvm7.p,hs7.mono hl5,hvm7.k,hvm7.o,hvm7.ov,hvm7.pl,hpil,hvm7.kl,hvm7.ol⟩,⟨hcap7,hvc.k⟩⟩
      exact hq.of hl75 rfl (by rw [← hv];exact hsk.1) hsk.2 (set_ok (fun t ht => ⟨hq.ok t ht,hq.oc t ht⟩) hl75 hvt) hs5' (by rw [List.length_set];exact hcap5) rfl
     ·rw [if_pos (.inl hm)] at hE
      rw [decide_eq_false hm]
      refine Q.r ?_;(repeat (intro b1;refine Q.r ?_))
      refine N.r1 (RV.tmp rfl RV.nil) (Ent.trans hcl ?_) ⟨M,by rw [hE],leM.refl M,by rw [gE_no (by rw [hE];decide)]⟩
      exact Go.SX.Ent.go
   ·rw [if_pos (fun h => hne (decide_eq_decide.1 h))] at hE
    rw [hia] at hq hcl ⊢
    by_cases h21 : n.kind = 21
    ·have hvp : v.stamp = 0 := by have := fun h => hne ⟨fun _ => h21,fun _ => h⟩;omega
     refine Q.r ?_;(repeat (intro b1;refine Q.r ?_))
     refine N.r1 (RV.tmp rfl RV.nil) (Ent.trans hcl ?_) ⟨M,by rw [hE],leM.refl M,by rw [gE_no (by rw [hE];decide)]⟩
     exact Go.SX.Ent.go
    ·have hvp : 0 < v.stamp := by rcases Int.lt_or_le 0 v.stamp with h | h;exact h;exact absurd ⟨fun h' => absurd h' (by omega),fun h' => absurd h' h21⟩ hne
     have h20 : n.kind = 20 := by omega
     refine Q.r ?_;(repeat (intro b1;refine Q.r ?_))
     refine N.r1 (RV.tmp rfl RV.nil) (Ent.trans hcl ?_) ⟨M,by rw [hE],leM.refl M,by rw [gE_no (by rw [hE];decide)]⟩
     exact Go.SX.Ent.go
 ·have hlk := hq.no hno
  have hE : appGE j n.abs = 6 := by
   by_cases he : n.kind = 18 ∨ n.kind = 22
   ·have hE := appGEe hr he (j := j)
    rw [show lkL j.tr n.abs.txn = _ from hlk] at hE
    exact hE
   ·have hE := appGEw hr (show n.abs.kind = 20 ∨ n.abs.kind = 21 by show n.kind = 20 ∨ n.kind = 21;omega) (j := j)
    rw [show lkL j.tr n.abs.txn = _ from hlk] at hE
    exact hE
  refine Q.r ?_;(repeat (intro b1;refine Q.r ?_))
  refine N.r1 (RV.tmp rfl RV.nil) (Ent.trans hcl ?_) ⟨M,by rw [hE],leM.refl M,by rw [gE_no (by rw [hE];decide)]⟩
  exact Go.SX.Ent.go
abbrev zN : HP := slO 39 16 none 0 0 []
abbrev zM : HP := slO 155 17 none 0 0 []
def planRG (M : Nat → Option Obj) (p : Nat) (j : JG) (pl : PG) (L : List HP) (r : Value) (L' : List HP) : Prop := ∃ (a1 : Option Addr) (c1 : Nat) (rs : List NV) (a2 : Option Addr) (c2 : Nat) (ns : List NV) (a3 : Option Addr) (c3 : Nat) (ms : List (Int × NV)) (a4 : Option Addr) (c4 : Nat) (is : List NV) (a5 : Option Addr) (c5 : Nat) (es : List (Int × NV)) (M' : Nat → Option Obj),
 r = .agg #[.slice a1 rs.length c1,.slice a2 ns.length c2,.slice a3 ms.length c3,.slice a4 is.length c4,.slice a5 es.length c5] ∧ leM M M' ∧
 (okNs M' a1 rs ∧ okNs M' a2 ns ∧ okMs M' a3 ms ∧ okNs M' a4 is ∧ okMs M' a5 es) ∧
 (rs.map NV.abs = pl.rec_ ∧ ns.map NV.abs = pl.notes ∧ ms.map (fun m => (m.1,m.2.abs)) = pl.mail ∧ is.map NV.abs = pl.inst ∧ es.map (fun m => (m.1,m.2.abs)) = pl.els) ∧
 L' = rgH M' p j :: roM M' :: L
def planRG0 (M : Nat → Option Obj) (p : Nat) (j : JG) (pl : PG) (L : List HP) (r : Value) (L' : List HP) : Prop := ∃ (a1 : Option Addr) (c1 : Nat) (rs : List NV) (a2 : Option Addr) (c2 : Nat) (ns : List NV) (a3 : Option Addr) (c3 : Nat) (ms : List (Int × NV)) (a4 : Option Addr) (c4 : Nat) (is : List NV) (a5 : Option Addr) (c5 : Nat) (es : List (Int × NV)) (M' : Nat → Option Obj),
 r = .agg #[.slice a1 rs.length c1,.slice a2 ns.length c2,.slice a3 ms.length c3,.slice a4 is.length c4,.slice a5 es.length c5] ∧ leM M M' ∧
 ((∀ n ∈ rs,okN M' n) ∧ (∀ n ∈ ns,okN M' n) ∧ (∀ n ∈ ms,okN M' n.2) ∧ (∀ n ∈ is,okN M' n) ∧ ∀ n ∈ es,okN M' n.2) ∧
 (rs.map NV.abs = pl.rec_ ∧ ns.map NV.abs = pl.notes ∧ ms.map (fun m => (m.1,m.2.abs)) = pl.mail ∧ is.map NV.abs = pl.inst ∧ es.map (fun m => (m.1,m.2.abs)) = pl.els) ∧
 L' = slO 39 16 a1 rs.length c1 (rs.flatMap NV.cells) :: slO 39 16 a2 ns.length c2 (ns.flatMap NV.cells) :: slO 155 17 a3 ms.length c3 (ms.flatMap mcells) :: slO 39 16 a4 is.length c4 (is.flatMap NV.cells) :: slO 155 17 a5 es.length c5 (es.flatMap mcells) :: rgH M' p j :: roM M' :: L
theorem planRG.of0 {M : Nat → Option Obj} {p : Nat} {j : JG} {pl : PG} {L : List HP} {r : Value} {L' : List HP} (h : planRG0 M p j pl L r L') : EntX L' (planRG M p j pl L r) := by
 obtain ⟨a1,c1,rs,a2,c2,ns,a3,c3,ms,a4,c4,is,a5,c5,es,M0,rfl,hl,⟨o1,o2,o3,o4,o5⟩,ab,rfl⟩ := h
 refine EntX.abs a1 (fun M1 l1 s1 => ?_)
 refine EntX.abs a2 (fun M2 l2 s2 => ?_)
 refine EntX.abs a3 (fun M3 l3 s3 => ?_)
 refine EntX.abs a4 (fun M4 l4 s4 => ?_)
 refine EntX.abs a5 (fun M5 l5 s5 => ?_)
 have l45 := l5
 have l35 := l4.trans l45
 have l25 := l3.trans l35
 have l15 := l2.trans l25
 have l05 := l1.trans l15
 refine EntX.ent (Ent.trans (M := rgH M0 p j :: roM M5 :: L) (by exact Go.SX.Ent.go) (rg_mono l05)) (EntX.done ?_)
 exact ⟨a1,c1,rs,a2,c2,ns,a3,c3,ms,a4,c4,is,a5,c5,es,M5,rfl,hl.trans l05,⟨⟨s1.mono l15,fun n hn => (o1 n hn).mono l05⟩,⟨s2.mono l25,fun n hn => (o2 n hn).mono l05⟩,⟨s3.mono l35,fun n hn => (o3 n hn).mono l05⟩,⟨s4.mono l45,fun n hn => (o4 n hn).mono l05⟩,⟨s5,fun n hn => (o5 n hn).mono l05⟩⟩,ab,rfl⟩
theorem planRG0.none (M : Nat → Option Obj) (p : Nat) (j : JG) (L : List HP) : planRG0 M p j PG.none L (.agg #[.slice none 0 0,.slice none 0 0,.slice none 0 0,.slice none 0 0,.slice none 0 0]) (zN :: zN :: zM :: zN :: zM :: rgH M p j :: roM M :: L) :=
 ⟨Option.none,0,[],Option.none,0,[],Option.none,0,[],Option.none,0,[],Option.none,0,[],M,rfl,leM.refl M,⟨fun _ h => (by cases h),fun _ h => (by cases h),fun _ h => (by cases h),fun _ h => (by cases h),fun _ h => (by cases h)⟩,⟨rfl,rfl,rfl,rfl,rfl⟩,rfl⟩
theorem znil5 {L : List HP} : Ent L (zN :: zN :: zM :: zN :: zM :: L) := by exact Go.SX.Ent.go
theorem rg_mail (M : Nat → Option Obj) (p : Nat) (j : JG) (L : List HP) (m : Int × NA) (hm : m.2.nv.abs = m.2) (b : Nat) : planRG0 M p j ⟨[],[],[m],[],[]⟩ L (.agg #[.slice none 0 0,.slice none 0 0,.slice (some ⟨b,0,none⟩) 1 1,.slice none 0 0,.slice none 0 0])
  (zN :: zN :: slO 155 17 (some ⟨b,0,none⟩) 1 1 (mailC m) :: zN :: zM :: rgH M p j :: roM M :: L) :=
 ⟨none,0,[],none,0,[],some ⟨b,0,none⟩,1,[(m.1,m.2.nv)],none,0,[],none,0,[],M,rfl,leM.refl M,⟨fun _ h => (by cases h),fun _ h => (by cases h),fun m hm => (by rw [List.mem_singleton.1 hm];exact okN.nv _),fun _ h => (by cases h),fun _ h => (by cases h)⟩,⟨rfl,rfl,congrArg (fun z => [(m.1,z)]) hm,rfl,rfl⟩,by simp⟩
theorem rg_note (M : Nat → Option Obj) (p : Nat) (j : JG) (L : List HP) (n : NA) (hm : n.nv.abs = n) (b : Nat) : planRG0 M p j ⟨[],[n],[],[],[]⟩ L (.agg #[.slice none 0 0,.slice (some ⟨b,0,none⟩) 1 1,.slice none 0 0,.slice none 0 0,.slice none 0 0])
  (zN :: slO 39 16 (some ⟨b,0,none⟩) 1 1 n.nv.cells :: zM :: zN :: zM :: rgH M p j :: roM M :: L) :=
 ⟨none,0,[],some ⟨b,0,none⟩,1,[n.nv],none,0,[],none,0,[],none,0,[],M,rfl,leM.refl M,⟨fun _ h => (by cases h),fun m hm => (by rw [List.mem_singleton.1 hm];exact okN.nv _),fun _ h => (by cases h),fun _ h => (by cases h),fun _ h => (by cases h)⟩,⟨rfl,congrArg (fun z => [z]) hm,rfl,rfl,rfl⟩,by simp⟩
theorem rg_rec (M : Nat → Option Obj) (p : Nat) (j : JG) (L : List HP) (n : NA) (hm : n.nv.abs = n) (b : Nat) : planRG0 M p j ⟨[n],[],[],[],[]⟩ L (.agg #[.slice (some ⟨b,0,none⟩) 1 1,.slice none 0 0,.slice none 0 0,.slice none 0 0,.slice none 0 0])
  (slO 39 16 (some ⟨b,0,none⟩) 1 1 n.nv.cells :: zN :: zM :: zN :: zM :: rgH M p j :: roM M :: L) :=
 ⟨some ⟨b,0,none⟩,1,[n.nv],none,0,[],none,0,[],none,0,[],none,0,[],M,rfl,leM.refl M,⟨fun m hm => (by rw [List.mem_singleton.1 hm];exact okN.nv _),fun _ h => (by cases h),fun _ h => (by cases h),fun _ h => (by cases h),fun _ h => (by cases h)⟩,⟨congrArg (fun z => [z]) hm,rfl,rfl,rfl,rfl⟩,by simp⟩
abbrev plO (b : Nat) : HP := pt b (cl [.slice none 0 0,.slice none 0 0,.slice none 0 0,.slice none 0 0,.slice none 0 0] 88)
theorem rg_ent {M : Nat → Option Obj} {p b dc tc : Nat} {j : JG} {ta da : Option Addr} {ts : List TV} {ds : List (Int × Int)} {L : List HP} {m : Int × NA} (hq : RG M j ta tc ts da ds) : Ent (pt b (cl (mailC m) 155) :: rgP p j ta tc ts da dc ds :: roM M :: L) (zN :: zN :: slO 155 17 (some ⟨b,0,none⟩) 1 1 (mailC m) :: zN :: zM :: rgH M p j :: roM M :: L) := by
 refine Ent.trans (Ent.cons (rg_shut hq)) (Ent.trans (slO_fold (sz := 17) (m := 1) rfl) ?_)
 exact Go.SX.Ent.go
abbrev raskT (j : JG) (fr : Int) (n : NV) (pa : Option Addr) (pc : Nat) (ps : List Int) : TV := ⟨j.epoch * 1048576 + j.seq + 1,n.batch,0,j.last,fr,pa,pc,ps,none,0,[],none,0,[],n.oa,n.oc,n.ops⟩
abbrev raskN (j : JG) (fr : Int) (n : NV) (pa : Option Addr) (pc : Nat) (ps : List Int) : NV := ⟨19,j.epoch * 1048576 + j.seq + 1,n.batch,0,j.last,0,0,0,0,0,0,fr,pa,pc,ps,n.oa,n.oc,n.ops,none,0,[],none,0,[]⟩
def partsF (s : Int) (ids : List Int) : List Int := ids.foldl (fun l o => if homeP s o ∈ l then l else putI l (homeP s o)) []
theorem partsF_snoc (s : Int) (ids : List Int) (o : Int) : partsF s (ids ++ [o]) = if homeP s o ∈ partsF s ids then partsF s ids else putI (partsF s ids) (homeP s o) := by
 unfold partsF;rw [List.foldl_append];rfl
theorem partsF_eq (s : Int) (ops : VL) : partsF s (ops.map (·.1)) = partsG s ops := by
 unfold partsF partsG;rw [List.foldl_map]
theorem partsF_len {s : Int} (h1 : 1 ≤ s) (h2 : s ≤ 4) (ids : List Int) : (partsF s ids).length ≤ 4 := by
 have e : partsF s ids = partsG s (ids.map fun x => (x,[])) := by rw [← partsF_eq,List.map_map];congr 1;exact (List.map_id _).symm
 rw [e]
 have hp := partsG_ok h1 (ids.map fun x => (x,([] : List Int)))
 have := rise_len hp.1 hp.2 (by omega)
 omega
set_option maxHeartbeats 4000000 in
theorem Rask_spec (n : NV) (M : Nat → Option Obj) (p : Nat) (j : JG) (fr : Int) (L : List HP) (hw : WN j) (htl : j.tr.length ≤ 100000) (hdl : j.done.length ≤ 100000) (hn : okN M n) (hN : OkN n) (hoc : n.ops.length ≤ n.oc) :
  CallsS Tryz.prog 81 [.pointer (some ⟨p,0,none⟩),.int .i64 fr,n.val] (rgH M p j :: roM M :: L) (planRG0 M p j (askG j fr n.abs) L) := by
 unfold askG
 have hno1 := hN.o
 refine calls_rg fun ta tc ts da dc ds hq => ?_
 have hts : ts.length ≤ 100000 := by rw [hq.len];exact htl
 have hds : ds.length ≤ 100000 := by rw [hq.dlen];exact hdl
 refine CallsS.of_body Tryz.func81 rfl rfl rfl ?_
 refine Q.r ?_;(repeat (intro b1;refine Q.r ?_))
 rename_i b5
 revert b1
 intro b6
 refine S.c2 rfl (RCommitted_spec p j ta tc ts da dc ds n.batch M _ hq.dS (by omega)) ?_
 rintro _ _ ⟨rfl,rfl⟩
 rw [lkL_perm hw.g.kd hq.dp]
 cases hz : lkL j.done n.batch with
 | some s =>
  have hs : 0 < s := hw.g.dp _ (lk_memL hz)
  dsimp only [Option.getD_some]
  refine Q.r ?_;(repeat (intro b1;refine Q.r ?_))
  refine S.cr rfl (Rreply_spec fr n.batch s 0 _) ?_
  rintro _ _ ⟨rfl,rfl⟩
  refine Q.r ?_;(repeat (intro b1;refine Q.r ?_))
  refine N.r1 (by apply RV.cellN;rfl;exact RdC.row;rfl;exact RV.nil) (Ent.trans (M := pt b1 (cl (mailC (repM fr n.batch s 0)) 155) :: rgP p j ta tc ts da dc ds :: roM M :: L) (by exact Go.SX.Ent.go) (rg_ent hq)) (rg_mail M p j L (repM fr n.batch s 0) rfl b1)
 | none =>
  dsimp only [Option.getD_none]
  refine Q.r ?_;(repeat (intro b1;refine Q.r ?_))
  refine swp_cutB (σ := Unit) (fun _ => [(0,.pointer (some ⟨p,0,none⟩)),(1,.int .i64 fr),(5,.pointer (some ⟨b5,0,none⟩)),(6,.pointer (some ⟨b6,0,none⟩))])
   (fun _ => plO b6 :: pt b5 (cl n.cells 39) :: rgP p j ta tc ts da dc ds :: roM M :: L) (fun _ => ¬ j.tr.any (fun u => decide (u.2.batch = n.batch)) = true) ?_ ?_
  ·refine swp_loop (σ := Nat) (fun k => [(0,.pointer (some ⟨p,0,none⟩)),(1,.int .i64 fr),(5,.pointer (some ⟨b5,0,none⟩)),(6,.pointer (some ⟨b6,0,none⟩)),(34,.slice ta ts.length tc),(35,.int .i64 ts.length),(36,.int .i64 k)])
    (fun _ => plO b6 :: pt b5 (cl n.cells 39) :: rgP p j ta tc ts da dc ds :: roM M :: L)
    (fun k => k ≤ ts.length ∧ ∀ u ∈ ts.take k,u.batch ≠ n.batch) (fun k => ts.length - k) 0 ⟨rfl,rfl,rfl,rfl,rfl,rfl,rfl,trivial⟩ (by exact Go.SX.Ent.go) ⟨Nat.zero_le _,by simp⟩ ?_
   rintro k ⟨hk,hno⟩
   by_cases hlt : k < ts.length
   ·obtain ⟨d,hd⟩ := mem_get hlt
    obtain ⟨b,oo,hia,cr⟩ := SlM.cm (g := TV.cells) (fun _ => rfl) hq.tS hd rfl
    by_cases he : d.batch = n.batch
    ·have hany : j.tr.any (fun u => decide (u.2.batch = n.abs.batch)) = true := by
      rw [hq.any,List.any_eq_true]
      exact ⟨d,List.mem_of_getElem? hd,by simpa using he⟩
     rw [hia]
     refine Q.r ?_;(repeat (intro b1;refine Q.r ?_))
     rw [if_pos hany,← hia]
     exact N.r1 (by apply RV.cellN;rfl;exact RdC.row;rfl;exact RV.nil) (Ent.trans (Ent.trans (M := rgP p j ta tc ts da dc ds :: roM M :: L) (by exact Go.SX.Ent.go) (Ent.trans (rg_shut hq) znil5)) (Ent.refl _)) (planRG0.none M p j L)
    ·rw [hia]
     refine Q.r ?_;(repeat (intro b1;refine Q.r ?_))
     rw [← hia]
     refine ⟨k + 1,⟨rfl,rfl,rfl,rfl,rfl,rfl,rfl,trivial⟩,by exact Go.SX.Ent.go,⟨by omega,?_⟩,by omega⟩
     rw [take_snoc hd]
     intro j hj
     rcases List.mem_append.1 hj with hj | hj
     ·exact hno j hj
     ·obtain rfl := List.mem_singleton.1 hj
      exact he
   ·have hke : k = ts.length := by omega
    subst hke
    rw [List.take_length] at hno
    refine Q.r ?_;(repeat (intro b1;refine Q.r ?_))
    refine ⟨(),⟨rfl,rfl,rfl,rfl,trivial⟩,by exact Go.SX.Ent.go,?_⟩
    rw [hq.any,List.any_eq_true]
    rintro ⟨u,hu,hub⟩
    exact hno u hu (by simpa using hub)
  ·rintro _ hany
   rw [if_neg hany]
   have hb := hw.g.b
   have hb1 := hb.d1
   have hb2 := hb.d2
   have hlt : j.tr.length = ts.length := hq.len.symm
   have e0 := hb.e0
   have e1 := hb.e1
   have q0 := hb.s0
   have q1 := hb.s1
   have l0 := hb.l0
   have l1 := hb.l1
   refine Q.r ?_;(repeat (intro b1;refine Q.r ?_))
   refine Q.dgo [true,true,true] [6] [] [0,1,2,3,4,5,6,7] ?_
   refine Q.rd ?_;(repeat (intro b1;refine Q.rd ?_))
   refine D.e rfl rfl rfl ?_
   refine S.cr rfl (RCheck_spec j.dim n.oa n.oc n.ops _ hn.rd.o hoc hN.o hN.ov (by omega)) ?_
   rintro _ _ ⟨rfl,rfl⟩
   refine Q.r ?_;(repeat (intro b1;refine Q.r ?_))
   refine Q.rd ?_;(repeat (intro b1;refine Q.rd ?_))
   by_cases hc : checkV j.dim (n.ops.map OV.abs) = 0
   ·by_cases hf : 8 ≤ j.tr.length ∨ 1048575 ≤ j.seq ∨ 1099511627776 ≤ j.last
    ·have hE : askE j n.abs = 8 := by
      unfold askE
      rw [if_neg (fun h => h hc),if_pos hf]
     rw [if_pos (by rw [hE];decide),hE,hc]
     rw [hlt] at hf
     refine N.tn ?_
     refine swp_seq ?_
     refine swp_cutT (σ := Unit) (fun _ => [(0,.pointer (some ⟨p,0,none⟩)),(1,.int .i64 fr),(5,.pointer (some ⟨b5,0,none⟩)),(6,.pointer (some ⟨b6,0,none⟩)),(10,.int .i64 8)])
      (fun _ => plO b6 :: pt b5 (cl n.cells 39) :: rgP p j ta tc ts da dc ds :: roM M :: L) (fun _ => True) ?_ ?_
     ·by_cases h8 : 8 ≤ ts.length
      ·refine Q.r ?_;(repeat (intro b1;refine Q.r ?_))
       exact ⟨(),⟨rfl,rfl,rfl,rfl,rfl,trivial⟩,by exact Go.SX.Ent.go,trivial⟩
      by_cases h9 : 1048575 ≤ j.seq
      ·refine Q.r ?_;(repeat (intro b1;refine Q.r ?_))
       exact ⟨(),⟨rfl,rfl,rfl,rfl,rfl,trivial⟩,by exact Go.SX.Ent.go,trivial⟩
      have h10 : 1099511627776 ≤ j.last := by omega
      refine Q.r ?_;(repeat (intro b1;refine Q.r ?_))
      exact ⟨(),⟨rfl,rfl,rfl,rfl,rfl,trivial⟩,by exact Go.SX.Ent.go,trivial⟩
     ·rintro _ _
      refine Q.r ?_;(repeat (intro b1;refine Q.r ?_))
      refine S.cr rfl (Rreply_spec fr n.batch 0 8 _) ?_
      rintro _ _ ⟨rfl,rfl⟩
      refine Q.r ?_;(repeat (intro b1;refine Q.r ?_))
      refine N.r1 (by apply RV.cellN;rfl;exact RdC.row;rfl;exact RV.nil) (Ent.trans (M := pt b1 (cl (mailC (repM fr n.batch 0 8)) 155) :: rgP p j ta tc ts da dc ds :: roM M :: L) (by exact Go.SX.Ent.go) (rg_ent hq)) (rg_mail M p j L (repM fr n.batch 0 8) rfl b1)
    ·have hE : askE j n.abs = 0 := by
      unfold askE
      rw [if_neg (fun h => h hc),if_neg hf]
     rw [if_neg (fun h => h hE),hc]
     rw [hlt] at hf
     have h8 : ¬ 8 ≤ ts.length := fun h => hf (.inl h)
     have h9 : ¬ 1048575 ≤ j.seq := fun h => hf (.inr (.inl h))
     have h10 : ¬ 1099511627776 ≤ j.last := fun h => hf (.inr (.inr h))
     have wz : ∀ a : Int,0 ≤ a → a < 18446744073709551616 → IntKind.u64.wrap a = a := fun a h1 h2 => wrap_u64 h1 (by omega)
     refine Q.r ?_;(repeat (intro b1;refine Q.r ?_))
     refine Q.dgo [true,true,true] [21,22] [] [0,1,2,3,4,5,6,7,8,9,10,11,12,13,14,15,16,17,18,19,20,21,22] ?_
     refine Q.rd ?_;(repeat (intro b1;refine Q.rd ?_))
     refine D.y rfl rfl rfl (by kernel_rfl) (Y.mul rfl rfl) ?_
     rw [wz _ (by omega) (by omega)]
     refine Q.rd ?_;(repeat (intro b1;refine Q.rd ?_))
     refine D.y rfl rfl rfl (by kernel_rfl) (Y.add rfl rfl) ?_
     rw [wz _ (by omega) (by omega)]
     refine Q.rd ?_;(repeat (intro b1;refine Q.rd ?_))
     refine D.y rfl rfl rfl (by kernel_rfl) (Y.add rfl rfl) ?_
     rw [wz _ (by omega) (by omega)]
     refine Q.rd ?_;(repeat (intro b1;refine Q.rd ?_))
     refine N.tn ?_
     refine swp_seq ?_
     refine Q.r ?_;(repeat (intro b1;refine Q.r ?_))
     revert b1
     intro b11
     refine swp_cutB (σ := Option Addr × Nat × List Int) (fun s => [(0,.pointer (some ⟨p,0,none⟩)),(6,.pointer (some ⟨b6,0,none⟩)),(11,.pointer (some ⟨b11,0,none⟩))])
      (fun s => pt b11 (cl (raskT j fr n s.1 s.2.1 s.2.2).cells 121) :: slO 3 1 s.1 s.2.2.length s.2.1 (s.2.2.map I64) :: plO b6 :: rgP p j ta tc ts da dc ds :: roM M :: L) (fun s => s.2.2 = partsG j.shards (n.ops.map OV.abs)) ?_ ?_
     ·refine swp_loop (σ := Nat × Option Addr × Nat × List Int) (fun s => [(0,.pointer (some ⟨p,0,none⟩)),(6,.pointer (some ⟨b6,0,none⟩)),(11,.pointer (some ⟨b11,0,none⟩)),(109,.slice n.oa n.ops.length n.oc),(110,.int .i64 n.ops.length),(111,.int .i64 s.1)])
       (fun s => pt b11 (cl (raskT j fr n s.2.1 s.2.2.1 s.2.2.2).cells 121) :: slO 3 1 s.2.1 s.2.2.2.length s.2.2.1 (s.2.2.2.map I64) :: plO b6 :: rgP p j ta tc ts da dc ds :: roM M :: L)
       (fun s => s.1 ≤ n.ops.length ∧ s.2.2.2 = partsF j.shards ((n.ops.take s.1).map (·.id))) (fun s => n.ops.length - s.1) (0,none,0,[]) ⟨rfl,rfl,rfl,rfl,rfl,rfl,trivial⟩ (Ent.trans (slO_nil (t := 3) (sz := 1)) (by exact Go.SX.Ent.go)) ⟨Nat.zero_le _,rfl⟩ ?_
      rintro ⟨k,a3,c3,us⟩ ⟨hk,hus⟩
      dsimp only at hk hus ⊢
      have hul : us.length ≤ 4 := by rw [hus];exact partsF_len hq.s1 hq.s2 _
      by_cases hlk : k < n.ops.length
      ·obtain ⟨o,ho⟩ := mem_get hlk
       obtain ⟨bo,oo,hia,cr⟩ := SlM.cm (g := OV.cells) (fun _ => rfl) hn.o.1 ho rfl
       rw [hia]
       refine Q.r ?_;(repeat (intro b1;refine Q.r ?_))
       refine S.c1 (A := rgP p j ta tc ts da dc ds) rfl (Rhome_spec p j ta tc ts da dc ds o.id _ hq.s1 hq.s2) ?_
       rintro _ _ ⟨rfl,rfl⟩
       have hnext : partsF j.shards ((n.ops.take (k + 1)).map (·.id)) = if homeP j.shards o.id ∈ us then us else putI us (homeP j.shards o.id) := by
        rw [take_snoc ho,List.map_append,List.map_cons,List.map_nil,partsF_snoc,← hus]
       refine Q.r ?_;(repeat (intro b1;refine Q.r ?_))
       refine opsS_addr a3 (fun ha3 => ?_)
       refine S.cr rfl (Ris_spec a3 c3 us (homeP j.shards o.id) _ (RdS.own ha3 (by rw [List.length_map,Nat.mul_one])) (by omega)) ?_
       rintro _ _ ⟨rfl,rfl⟩
       by_cases hm : homeP j.shards o.id ∈ us
       ·rw [decide_eq_true hm]
        rw [if_pos hm] at hnext
        refine Q.r ?_;(repeat (intro b1;refine Q.r ?_))
        rw [← hia]
        refine ⟨(k + 1,a3,c3,us),⟨rfl,rfl,rfl,rfl,rfl,rfl,trivial⟩,by exact Go.SX.Ent.go,⟨by dsimp only;omega,hnext.symm⟩,by dsimp only;omega⟩
       ·rw [decide_eq_false hm]
        rw [if_neg hm] at hnext
        refine Q.r ?_;(repeat (intro b1;refine Q.r ?_))
        refine opsS_cap a3 (fun hcap => ?_)
        refine S.cr rfl (Rput_spec a3 c3 us (homeP j.shards o.id) _ (RdS.own ha3 (by rw [List.length_map,Nat.mul_one])) hcap (by omega)) ?_
        rintro _ _ ⟨a7,c7,rfl,rfl⟩
        refine Q.r ?_;(repeat (intro b1;refine Q.r ?_))
        rw [← hia]
        refine ⟨(k + 1,a7,c7,putI us (homeP j.shards o.id)),⟨rfl,rfl,rfl,rfl,rfl,rfl,trivial⟩,?_,⟨by dsimp only;omega,hnext.symm⟩,by dsimp only;omega⟩
        dsimp only [raskT,TV.cells]
        exact Go.SX.Ent.go
      ·have hke : k = n.ops.length := by omega
       subst hke
       rw [List.take_length] at hus
       refine Q.r ?_;(repeat (intro b1;refine Q.r ?_))
       refine ⟨(a3,c3,us),⟨rfl,rfl,rfl,trivial⟩,by exact Go.SX.Ent.go,?_⟩
       dsimp only
       rw [hus,← partsF_eq,List.map_map];rfl
     rintro ⟨pa,pc,ps⟩ hps
     dsimp only at hps ⊢
     refine swp_abs pa (fun M1 hl1 hs1 => ?_)
     have hpo := partsG_ok hq.s1 (n.ops.map OV.abs)
     have hpl : ps.length ≤ 4 := by have := rise_len (hps ▸ hpo.1) (hps ▸ hpo.2) (by have := hq.s1;omega);have := hq.s2;omega
     have ht1 : okT M1 (raskT j fr n pa pc ps) := ⟨hs1,SlM.nil0,SlM.nil0,(hn.mono hl1).o.1,(hn.mono hl1).o.2,(by show ps.length ≤ _;omega),Nat.zero_le _,Nat.zero_le _,hN.o⟩
     have hpg : partsG j.shards (n.ops.map OV.abs) = ps := hps.symm
     rw [hpg]
     refine Q.r ?_;(repeat (intro b1;refine Q.r ?_))
     rename_i bn
     revert b1
     intro b15
     refine swp_loop (σ := Nat × Option Addr × Nat × List (Int × NV) × (Nat → Option Obj)) (fun s => [(0,.pointer (some ⟨p,0,none⟩)),(6,.pointer (some ⟨b6,0,none⟩)),(11,.pointer (some ⟨b11,0,none⟩)),(15,.pointer (some ⟨b15,0,none⟩)),(146,.slice pa ps.length pc),(147,.int .i64 ps.length),(148,.int .i64 s.1)])
      (fun s => pt b15 (cl [.slice none 0 0,.slice (some ⟨bn,0,none⟩) 1 1,.slice s.2.1 s.2.2.2.1.length s.2.2.1,.slice none 0 0,.slice none 0 0] 88) :: pt b11 (cl (raskT j fr n pa pc ps).cells 121) :: slO 155 17 s.2.1 s.2.2.2.1.length s.2.2.1 (s.2.2.2.1.flatMap mcells) :: pt bn (cl (raskN j fr n pa pc ps).cells 39) :: plO b6 :: rgP p j ta tc ts da dc ds :: roM s.2.2.2.2 :: L)
      (fun s => s.1 ≤ ps.length ∧ s.2.2.2.1.map (fun m => (m.1,m.2.abs)) = (ps.take s.1).map (prepM j.shards (raskT j fr n pa pc ps).abs) ∧ leM M1 s.2.2.2.2 ∧ ∀ m ∈ s.2.2.2.1,okN s.2.2.2.2 m.2) (fun s => ps.length - s.1) (0,none,0,[],M1) ⟨rfl,rfl,rfl,rfl,rfl,rfl,rfl,trivial⟩ (Ent.trans (slO_nil (t := 155) (sz := 17)) (by exact Go.SX.Ent.go)) ⟨Nat.zero_le _,rfl,leM.refl M1,fun _ h => by cases h⟩ ?_
     rintro ⟨k,a3,c3,us,M2⟩ ⟨hk,hus,hl2,huo⟩
     dsimp only at hk hus hl2 huo ⊢
     have hul : us.length = k := by
      have := congrArg List.length hus
      rw [List.length_map,List.length_map,List.length_take] at this;omega
     by_cases hlk : k < ps.length
     ·obtain ⟨q,hq2⟩ := mem_get hlk
      obtain ⟨bq,oq,hia,cr⟩ := SlM.cm1 (g := I64) (hs1.mono hl2) hq2 rfl
      rw [hia]
      refine Q.r ?_;(repeat (intro b1;refine Q.r ?_))
      refine Q.dgo [true,true] [5,6,7,9] [9] [0,1,2,3,4,5,6,7,8,9] ?_
      refine Q.rd ?_;(repeat (intro b1;refine Q.rd ?_))
      refine D.e rfl rfl rfl ?_
      refine S.c2 (A := rgP p j ta tc ts da dc ds) (B := roM M2) rfl (RPrepare_spec p j ta tc ts da dc ds (raskT j fr n (some ⟨bq,oq,none⟩) pc ps) q M2 _ (hia ▸ ht1.mono hl2) hq.s1 hq.s2) ?_
      rintro _ _ ⟨m,M3,rfl,hl3,hm3,hma,rfl⟩
      refine Q.r ?_;(repeat (intro b1;refine Q.r ?_))
      refine Q.rd ?_;(repeat (intro b1;refine Q.rd ?_))
      refine D.e rfl rfl rfl ?_
      refine S.app rfl rfl (SrcS.sl RdC.row (by rfl) (by rfl)) (by rfl) (by omega) (by omega) (fun a7 c7 => ?_)
      refine Q.r ?_;(repeat (intro b1;refine Q.r ?_))
      refine Q.rd ?_;(repeat (intro b1;refine Q.rd ?_))
      refine Q.dc rfl rfl rfl rfl ?_
      refine Q.r ?_;(repeat (intro b1;refine Q.r ?_))
      refine Q.rd ?_;(repeat (intro b1;refine Q.rd ?_))
      refine Q.r ?_;(repeat (intro b1;refine Q.r ?_))
      rw [← hia] at hma ⊢
      refine ⟨(k + 1,a7,c7,us ++ [(q,m)],M3),⟨rfl,rfl,rfl,rfl,rfl,rfl,rfl,trivial⟩,?_,⟨by dsimp only;omega,?_,hl2.trans hl3,fun w hw => ?_⟩,by dsimp only;omega⟩
      ·dsimp only
       rw [len_snoc,flat_snoc]
       exact Go.SX.Ent.go
      ·dsimp only
       rw [List.map_append,hus,take_snoc hq2,List.map_append]
       exact congrArg (fun z => _ ++ [z]) hma
      ·rcases List.mem_append.1 hw with hw | hw
       ·exact (huo w hw).mono hl3
       ·rw [List.mem_singleton] at hw;subst hw;exact hm3
     ·have hke : k = ps.length := by omega
      subst hke
      rw [List.take_length] at hus
      refine Q.r ?_;(repeat (intro b1;refine Q.r ?_))
      refine N.r1 (by apply RV.cellN;rfl;exact RdC.row;rfl;exact RV.nil) (Ent.trans (M := slO 155 17 a3 us.length c3 (us.flatMap mcells) :: pt bn (cl (raskN j fr n pa pc ps).cells 39) :: rgP p j ta tc ts da dc ds :: roM M2 :: L) (by exact Go.SX.Ent.go) (Ent.trans (Ent.cons (Ent.cons (rg_shut (hq.mono (hl1.trans hl2))))) (Ent.trans (Ent.cons (slO_fold (sz := 16) (m := 1) rfl)) ?_))) ⟨none,0,[],some ⟨bn,0,none⟩,1,[raskN j fr n pa pc ps],a3,c3,us,none,0,[],none,0,[],M2,rfl,hl1.trans hl2,⟨fun _ h => (by cases h),fun m hm => ?_,huo,fun _ h => (by cases h),fun _ h => (by cases h)⟩,⟨rfl,?_,?_,rfl,rfl⟩,rfl⟩
      ·show Ent _ (zN :: slO 39 16 (some ⟨bn,0,none⟩) 1 1 (raskN j fr n pa pc ps).cells :: slO 155 17 a3 us.length c3 (us.flatMap mcells) :: zN :: zM :: rgH M2 p j :: roM M2 :: L)
       exact Go.SX.Ent.go
      ·rw [List.mem_singleton.1 hm]
       exact ⟨hs1.mono hl2,(hn.mono (hl1.trans hl2)).o,SlM.nil0,SlM.nil0,fun o ho => by cases ho⟩
      ·subst hps;rfl
      ·subst hps;rw [hus]
   ·have hE : askE j n.abs = checkV j.dim (n.ops.map OV.abs) := by
     unfold askE
     rw [if_pos hc]
    rw [if_pos (by rw [hE];exact hc),hE]
    refine Q.r ?_;(repeat (intro b1;refine Q.r ?_))
    refine S.cr rfl (Rreply_spec fr n.batch 0 (checkV j.dim (n.ops.map OV.abs)) _) ?_
    rintro _ _ ⟨rfl,rfl⟩
    refine Q.r ?_;(repeat (intro b1;refine Q.r ?_))
    refine N.r1 (by apply RV.cellN;rfl;exact RdC.row;rfl;exact RV.nil) (Ent.trans (M := pt b1 (cl (mailC (repM fr n.batch 0 (checkV j.dim (n.ops.map OV.abs)))) 155) :: rgP p j ta tc ts da dc ds :: roM M :: L) (by exact Go.SX.Ent.go) (rg_ent hq)) (rg_mail M p j L (repM fr n.batch 0 (checkV j.dim (n.ops.map OV.abs))) rfl b1)
theorem rm_ent {M : Nat → Option Obj} {p b : Nat} {j : JG} {L : List HP} {m : Int × NA} : Ent (pt b (cl (mailC m) 155) :: rgH M p j :: roM M :: L) (zN :: zN :: slO 155 17 (some ⟨b,0,none⟩) 1 1 (mailC m) :: zN :: zM :: rgH M p j :: roM M :: L) := by
 refine Ent.trans (slO_fold (sz := 17) (m := 1) rfl) ?_
 exact Go.SX.Ent.go
theorem rn_ent {M : Nat → Option Obj} {p b : Nat} {j : JG} {L : List HP} {n : NA} : Ent (pt b (cl n.nv.cells 39) :: rgH M p j :: roM M :: L) (zN :: slO 39 16 (some ⟨b,0,none⟩) 1 1 n.nv.cells :: zM :: zN :: zM :: rgH M p j :: roM M :: L) := by
 refine Ent.trans (slO_fold (sz := 16) (m := 1) rfl) ?_
 exact Go.SX.Ent.go
theorem rr_ent {M : Nat → Option Obj} {p b : Nat} {j : JG} {L : List HP} {n : NA} : Ent (pt b (cl n.nv.cells 39) :: rgH M p j :: roM M :: L) (slO 39 16 (some ⟨b,0,none⟩) 1 1 n.nv.cells :: zN :: zM :: zN :: zM :: rgH M p j :: roM M :: L) := by
 refine Ent.trans (slO_fold (sz := 16) (m := 1) rfl) ?_
 exact Go.SX.Ent.go
theorem nvm_ok {M : Nat → Option Obj} (l : List (Int × NA)) : ∀ m ∈ l.map (fun m : Int × NA => ((m.1,m.2.nv) : Int × NV)),okN M m.2 := fun m hm => by
 obtain ⟨w,_,rfl⟩ := List.mem_map.1 hm
 exact okN.nv _
theorem mailsM (t : TR) (s c : Int) : ((toldM t s c).map fun m : Int × NA => ((m.1,m.2.nv) : Int × NV)).flatMap mcells = (toldM t s c).flatMap mailC := List.flatMap_map ..
set_option maxHeartbeats 8000000 in
theorem RDo0_spec (n : NV) (M : Nat → Option Obj) (p : Nat) (j : JG) (fr : Int) (L : List HP) (hw : WN j) (htl : j.tr.length ≤ 100000) (hdl : j.done.length ≤ 100000) (hn : okN M n) (hN : OkN n) (hoc : n.ops.length ≤ n.oc) (u : NumA n.abs) :
  CallsS Tryz.prog 29 [.pointer (some ⟨p,0,none⟩),.int .i64 fr,n.val] (rgH M p j :: roM M :: L) (planRG0 M p j (planG j fr n.abs) L) := by
 have hG := hw.g
 have hk0 : 0 ≤ n.kind ∧ n.kind ≤ 255 := u.kind
 have hco : n.code ≤ 9223372036854775807 := u.code
 refine CallsS.of_body Tryz.func29 rfl rfl rfl ?_
 unfold planG
 refine Q.r ?_;(repeat (intro b1;refine Q.r ?_))
 rename_i b5
 revert b1
 intro b6
 refine S.cr rfl (Right12_spec n _ hn.rd hN u) ?_
 rintro _ _ ⟨rfl,rfl⟩
 cases hr : rightN n.abs with
 | false =>
  rw [if_pos (.inl rfl)]
  refine Q.r ?_;(repeat (intro b1;refine Q.r ?_))
  exact N.r1 (by apply RV.cellN;rfl;exact RdC.row;rfl;exact RV.nil) (Ent.trans (M := rgH M p j :: roM M :: L) (by exact Go.SX.Ent.go) znil5) (planRG0.none M p j L)
 | true =>
 by_cases hf1 : fr < 0
 ·rw [if_pos (.inr (.inl hf1))]
  refine Q.r ?_;(repeat (intro b1;refine Q.r ?_))
  exact N.r1 (by apply RV.cellN;rfl;exact RdC.row;rfl;exact RV.nil) (Ent.trans (M := rgH M p j :: roM M :: L) (by exact Go.SX.Ent.go) znil5) (planRG0.none M p j L)
 by_cases hf2 : 15 < fr
 ·rw [if_pos (.inr (.inr (by omega)))]
  refine Q.r ?_;(repeat (intro b1;refine Q.r ?_))
  exact N.r1 (by apply RV.cellN;rfl;exact RdC.row;rfl;exact RV.nil) (Ent.trans (M := rgH M p j :: roM M :: L) (by exact Go.SX.Ent.go) znil5) (planRG0.none M p j L)
 rw [if_neg (by rintro (h | h | h);cases h;omega;omega)]
 refine Q.r ?_;(repeat (intro b1;refine Q.r ?_))
 refine opsS_rg p (fun ta tc ts da dc ds hq => ?_)
 have hts : ts.length ≤ 100000 := by rw [hq.len];exact htl
 have hst : ∀ v ∈ ts,0 ≤ v.stamp := fun v hv => (hG.lk (hq.has hG.kt hv)).st
 refine S.c2 rfl (RgFind_spec p j ta tc ts da dc ds n.txn M _ hq.tS (by omega)) ?_
 rintro _ _ ⟨z,rfl,hz,rfl⟩
 by_cases h1 : n.kind = 1
 ·rw [if_pos (show n.abs.kind = 1 from h1)]
  refine Q.r ?_;(repeat (intro b1;refine Q.r ?_))
  refine opsS_ent (rgclose (p := p) (dc := dc) hq) ?_
  refine S.crg p (args := [.pointer (some ⟨p,0,none⟩),.int .i64 fr,n.val]) rfl (Rask_spec n M p j fr _ hw htl hdl hn hN hoc) ?_
  rintro _ _ ⟨a1,c1,rs,a2,c2,ns,a3,c3,ms,a4,c4,is,a5,c5,es,M2,rfl,hl,ok,ab,rfl⟩
  refine Q.r ?_;(repeat (intro b1;refine Q.r ?_))
  refine N.r1 (by apply RV.cellN;rfl;exact RdC.row;rfl;exact RV.nil) ?_ ⟨a1,c1,rs,a2,c2,ns,a3,c3,ms,a4,c4,is,a5,c5,es,M2,rfl,hl,ok,ab,rfl⟩
  exact Go.SX.Ent.go
 rw [if_neg (show ¬ n.abs.kind = 1 from h1)]
 by_cases h4 : n.kind = 4
 ·rw [if_pos (show n.abs.kind = 4 from h4)]
  unfold voteG
  rcases hz with ⟨k,v,rfl,hk,hv⟩ | ⟨rfl,hno⟩
  ·have hvm := List.mem_of_getElem? hk
   have hkl : k < ts.length := (List.getElem?_eq_some_iff.1 hk).1
   have hlk := hq.has hG.kt hvm
   rw [hv] at hlk
   have hv0 := hst v hvm
   have hvo := hq.ok v hvm
   have hvpl := hvo.pl
   have hvyl := hvo.yl
   rw [show lkL j.tr n.abs.txn = _ from hlk]
   dsimp only
   obtain ⟨b,oo,hia,cr⟩ := SlM.cm (g := TV.cells) (fun _ => rfl) hq.tS hk rfl
   rw [hia] at hq ⊢
   by_cases hp : 0 < v.stamp
   ·rw [if_pos (.inl hp)]
    refine Q.r ?_;(repeat (intro b1;refine Q.r ?_))
    refine N.r1 (by apply RV.cellN;rfl;exact RdC.row;rfl;exact RV.nil) (Ent.trans (rgclose (p := p) (dc := dc) hq) ?_) (planRG0.none M p j L);exact Ent.trans (M := rgH M p j :: roM M :: L) (by exact Go.SX.Ent.go) znil5
   refine Q.r ?_;(repeat (intro b1;refine Q.r ?_))
   refine S.cr rfl (Ris_spec v.pa v.pc v.parts fr _ hvo.p.rd hvpl) ?_
   rintro _ _ ⟨rfl,rfl⟩
   by_cases hm : fr ∈ v.parts
   ·rw [decide_eq_true hm]
    rw [if_neg (by rintro (h | h);exact hp h;exact h hm)]
    by_cases hc : n.code = 0
    ·rw [if_neg (fun h => h hc)]
     refine Q.r ?_;(repeat (intro b1;refine Q.r ?_))
     refine S.cr rfl (Ris_spec v.ya v.yc v.yes fr _ hvo.y.rd hvyl) ?_
     rintro _ _ ⟨rfl,rfl⟩
     by_cases hm2 : fr ∈ v.yes
     ·rw [decide_eq_true hm2,if_pos hm2]
      refine Q.r ?_;(repeat (intro b1;refine Q.r ?_))
      refine N.r1 (by apply RV.cellN;rfl;exact RdC.row;rfl;exact RV.nil) (Ent.trans (rgclose (p := p) (dc := dc) hq) ?_) (planRG0.none M p j L);exact Ent.trans (M := rgH M p j :: roM M :: L) (by exact Go.SX.Ent.go) znil5
     rw [decide_eq_false hm2,if_neg hm2]
     have hle : v.yes.length ≤ v.parts.length := nodup_le (rise_nodup (hG.lk hlk).yr) (hG.lk hlk).ys
     by_cases hl : v.yes.length + 1 = v.parts.length
     ·rw [if_neg (fun h => h hl)]
      refine Q.r ?_;(repeat (intro b1;refine Q.r ?_))
      refine S.y (Y.add rfl rfl) ?_
      have hlw : IntKind.u64.wrap (j.last + 1) = j.last + 1 := by
       have h1 := hG.b.l0
       have h2 := hG.b.l1
       exact wrap_u64 (by omega) (by omega)
      rw [hlw]
      refine Q.r ?_;(repeat (intro b1;refine Q.r ?_))
      rename_i bt
      revert b1
      intro bg
      refine Q.dgo [false,true] [8,11,14,16] [] [0,1,2,3,4,5,6,7,9,10,12,13,99999,0,0,0,0] ?_
      refine Q.rd ?_;(repeat (intro b1;refine Q.rd ?_))
      refine D.two 8 11 [11,14,15,16] [99999,0,0,0] (by kernel_rfl) rfl rfl rfl rfl (by kernel_rfl) (by kernel_rfl) ?_ ?_
      ·refine Q.r ?_;(repeat (intro b1;refine Q.r ?_))
       refine Q.rd ?_;(repeat (intro b1;refine Q.rd ?_))
       refine D.e rfl rfl rfl ?_
       refine S.cmG (args := [v.val,.int .u64 (j.last + 1),.int .i64 0]) rfl (Rtold_spec v (j.last + 1) 0 M _ hvo) ?_
       rintro _ _ ⟨a3,c3,rfl,rfl⟩
       refine Q.r ?_;(repeat (intro b1;refine Q.r ?_))
       refine Q.rd ?_;(repeat (intro b1;refine Q.rd ?_))
       refine D.e rfl rfl rfl ?_
       refine S.cmG (args := [v.val,.int .u64 (0),.int .i64 8]) rfl (Rtold_spec v (0) 8 M _ hvo) ?_
       rintro _ _ ⟨a5,c5,rfl,rfl⟩
       refine Q.r ?_;(repeat (intro b1;refine Q.r ?_))
       refine Q.rd ?_;(repeat (intro b1;refine Q.rd ?_))
       refine Q.r ?_;(repeat (intro b1;refine Q.r ?_))
       refine N.r1 (by apply RV.cellN;rfl;exact RdC.row;rfl;exact RV.nil) (Ent.trans (rgclose (p := p) (dc := dc) hq) ?_) ⟨some ⟨b1,0,none⟩,1,[(⟨17,v.txn,v.batch,j.last + 1,0,0,0,0,0,0,0,0,v.pa,v.pc,v.parts,none,0,[],none,0,[],none,0,[]⟩ : NV)],none,0,[],a3,c3,(toldM v.abs (j.last + 1) 0).map (fun m => (m.1,m.2.nv)),some ⟨bg,0,none⟩,1,[(goneN v.txn).nv],a5,c5,(toldM v.abs 0 8).map (fun m => (m.1,m.2.nv)),M,by rw [List.length_map,toldM_len,List.length_map,toldM_len];rfl,leM.refl M,⟨fun m hm => (by rw [List.mem_singleton.1 hm];exact ⟨hvo.p,⟨SlM.nil0,fun o ho => by cases ho⟩,SlM.nil0,SlM.nil0,fun o ho => by cases ho⟩),fun _ h => (by cases h),nvm_ok _,fun m hm => (by rw [List.mem_singleton.1 hm];exact okN.nv _),nvm_ok _⟩,⟨rfl,rfl,nvm_abs (toldM_abs _ _ _),rfl,nvm_abs (toldM_abs _ _ _)⟩,rfl⟩
       rw [List.length_map,toldM_len,mailsM,List.length_map,toldM_len,mailsM]
       refine Ent.trans (M := pt b1 (cl (⟨17,v.txn,v.batch,j.last + 1,0,0,0,0,0,0,0,0,v.pa,v.pc,v.parts,none,0,[],none,0,[],none,0,[]⟩ : NV).cells 39) :: pt bg (cl (goneN v.txn).nv.cells 39) :: slO 155 17 a3 (v.parts.length + 1) c3 ((toldM v.abs (j.last + 1) 0).flatMap mailC) :: slO 155 17 a5 (v.parts.length + 1) c5 ((toldM v.abs 0 8).flatMap mailC) :: rgH M p j :: roM M :: L) (by exact Go.SX.Ent.go) ?_
       refine Ent.trans (slO_fold (sz := 16) (m := 1) rfl) (Ent.trans (Ent.cons (slO_fold (sz := 16) (m := 1) rfl)) ?_)
       show Ent _ (slO 39 16 (some ⟨b1,0,none⟩) 1 1 (⟨17,v.txn,v.batch,j.last + 1,0,0,0,0,0,0,0,0,v.pa,v.pc,v.parts,none,0,[],none,0,[],none,0,[]⟩ : NV).cells :: zN :: slO 155 17 a3 (v.parts.length + 1) c3 ((toldM v.abs (j.last + 1) 0).flatMap mailC) :: slO 39 16 (some ⟨bg,0,none⟩) 1 1 (goneN v.txn).nv.cells :: slO 155 17 a5 (v.parts.length + 1) c5 ((toldM v.abs 0 8).flatMap mailC) :: rgH M p j :: roM M :: L)
       exact Go.SX.Ent.go
      ·refine S.cmG (args := [v.val,.int .u64 (j.last + 1),.int .i64 0]) rfl (Rtold_spec v (j.last + 1) 0 M _ hvo) ?_
       rintro _ _ ⟨a3,c3,rfl,rfl⟩
       refine Q.r ?_;(repeat (intro b1;refine Q.r ?_))
       refine Q.rd ?_;(repeat (intro b1;refine Q.rd ?_))
       refine D.two 8 14 [14,15,16] [8,15,16] (by kernel_rfl) rfl rfl rfl rfl (by kernel_rfl) (by kernel_rfl) ?_ ?_
       ·refine Q.r ?_;(repeat (intro b1;refine Q.r ?_))
        refine Q.rd ?_;(repeat (intro b1;refine Q.rd ?_))
        refine D.e rfl rfl rfl ?_
        refine S.cmG (args := [v.val,.int .u64 (0),.int .i64 8]) rfl (Rtold_spec v (0) 8 M _ hvo) ?_
        rintro _ _ ⟨a5,c5,rfl,rfl⟩
        refine Q.r ?_;(repeat (intro b1;refine Q.r ?_))
        refine Q.rd ?_;(repeat (intro b1;refine Q.rd ?_))
        refine Q.r ?_;(repeat (intro b1;refine Q.r ?_))
        refine N.r1 (by apply RV.cellN;rfl;exact RdC.row;rfl;exact RV.nil) (Ent.trans (rgclose (p := p) (dc := dc) hq) ?_) ⟨some ⟨b1,0,none⟩,1,[(⟨17,v.txn,v.batch,j.last + 1,0,0,0,0,0,0,0,0,v.pa,v.pc,v.parts,none,0,[],none,0,[],none,0,[]⟩ : NV)],none,0,[],a3,c3,(toldM v.abs (j.last + 1) 0).map (fun m => (m.1,m.2.nv)),some ⟨bg,0,none⟩,1,[(goneN v.txn).nv],a5,c5,(toldM v.abs 0 8).map (fun m => (m.1,m.2.nv)),M,by rw [List.length_map,toldM_len,List.length_map,toldM_len];rfl,leM.refl M,⟨fun m hm => (by rw [List.mem_singleton.1 hm];exact ⟨hvo.p,⟨SlM.nil0,fun o ho => by cases ho⟩,SlM.nil0,SlM.nil0,fun o ho => by cases ho⟩),fun _ h => (by cases h),nvm_ok _,fun m hm => (by rw [List.mem_singleton.1 hm];exact okN.nv _),nvm_ok _⟩,⟨rfl,rfl,nvm_abs (toldM_abs _ _ _),rfl,nvm_abs (toldM_abs _ _ _)⟩,rfl⟩
        rw [List.length_map,toldM_len,mailsM,List.length_map,toldM_len,mailsM]
        refine Ent.trans (M := pt b1 (cl (⟨17,v.txn,v.batch,j.last + 1,0,0,0,0,0,0,0,0,v.pa,v.pc,v.parts,none,0,[],none,0,[],none,0,[]⟩ : NV).cells 39) :: pt bg (cl (goneN v.txn).nv.cells 39) :: slO 155 17 a3 (v.parts.length + 1) c3 ((toldM v.abs (j.last + 1) 0).flatMap mailC) :: slO 155 17 a5 (v.parts.length + 1) c5 ((toldM v.abs 0 8).flatMap mailC) :: rgH M p j :: roM M :: L) (by exact Go.SX.Ent.go) ?_
        refine Ent.trans (slO_fold (sz := 16) (m := 1) rfl) (Ent.trans (Ent.cons (slO_fold (sz := 16) (m := 1) rfl)) ?_)
        show Ent _ (slO 39 16 (some ⟨b1,0,none⟩) 1 1 (⟨17,v.txn,v.batch,j.last + 1,0,0,0,0,0,0,0,0,v.pa,v.pc,v.parts,none,0,[],none,0,[],none,0,[]⟩ : NV).cells :: zN :: slO 155 17 a3 (v.parts.length + 1) c3 ((toldM v.abs (j.last + 1) 0).flatMap mailC) :: slO 39 16 (some ⟨bg,0,none⟩) 1 1 (goneN v.txn).nv.cells :: slO 155 17 a5 (v.parts.length + 1) c5 ((toldM v.abs 0 8).flatMap mailC) :: rgH M p j :: roM M :: L)
        exact Go.SX.Ent.go
       ·refine S.cmG (args := [v.val,.int .u64 (0),.int .i64 8]) rfl (Rtold_spec v (0) 8 M _ hvo) ?_
        rintro _ _ ⟨a5,c5,rfl,rfl⟩
        refine Q.r ?_;(repeat (intro b1;refine Q.r ?_))
        refine Q.rd ?_;(repeat (intro b1;refine Q.rd ?_))
        refine Q.r ?_;(repeat (intro b1;refine Q.r ?_))
        refine N.r1 (by apply RV.cellN;rfl;exact RdC.row;rfl;exact RV.nil) (Ent.trans (rgclose (p := p) (dc := dc) hq) ?_) ⟨some ⟨b1,0,none⟩,1,[(⟨17,v.txn,v.batch,j.last + 1,0,0,0,0,0,0,0,0,v.pa,v.pc,v.parts,none,0,[],none,0,[],none,0,[]⟩ : NV)],none,0,[],a3,c3,(toldM v.abs (j.last + 1) 0).map (fun m => (m.1,m.2.nv)),some ⟨bg,0,none⟩,1,[(goneN v.txn).nv],a5,c5,(toldM v.abs 0 8).map (fun m => (m.1,m.2.nv)),M,by rw [List.length_map,toldM_len,List.length_map,toldM_len];rfl,leM.refl M,⟨fun m hm => (by rw [List.mem_singleton.1 hm];exact ⟨hvo.p,⟨SlM.nil0,fun o ho => by cases ho⟩,SlM.nil0,SlM.nil0,fun o ho => by cases ho⟩),fun _ h => (by cases h),nvm_ok _,fun m hm => (by rw [List.mem_singleton.1 hm];exact okN.nv _),nvm_ok _⟩,⟨rfl,rfl,nvm_abs (toldM_abs _ _ _),rfl,nvm_abs (toldM_abs _ _ _)⟩,rfl⟩
        rw [List.length_map,toldM_len,mailsM,List.length_map,toldM_len,mailsM]
        refine Ent.trans (M := pt b1 (cl (⟨17,v.txn,v.batch,j.last + 1,0,0,0,0,0,0,0,0,v.pa,v.pc,v.parts,none,0,[],none,0,[],none,0,[]⟩ : NV).cells 39) :: pt bg (cl (goneN v.txn).nv.cells 39) :: slO 155 17 a3 (v.parts.length + 1) c3 ((toldM v.abs (j.last + 1) 0).flatMap mailC) :: slO 155 17 a5 (v.parts.length + 1) c5 ((toldM v.abs 0 8).flatMap mailC) :: rgH M p j :: roM M :: L) (by exact Go.SX.Ent.go) ?_
        refine Ent.trans (slO_fold (sz := 16) (m := 1) rfl) (Ent.trans (Ent.cons (slO_fold (sz := 16) (m := 1) rfl)) ?_)
        show Ent _ (slO 39 16 (some ⟨b1,0,none⟩) 1 1 (⟨17,v.txn,v.batch,j.last + 1,0,0,0,0,0,0,0,0,v.pa,v.pc,v.parts,none,0,[],none,0,[],none,0,[]⟩ : NV).cells :: zN :: slO 155 17 a3 (v.parts.length + 1) c3 ((toldM v.abs (j.last + 1) 0).flatMap mailC) :: slO 39 16 (some ⟨bg,0,none⟩) 1 1 (goneN v.txn).nv.cells :: slO 155 17 a5 (v.parts.length + 1) c5 ((toldM v.abs 0 8).flatMap mailC) :: rgH M p j :: roM M :: L)
        exact Go.SX.Ent.go
     ·rw [if_pos hl]
      have hpn : 0 < v.parts.length := List.length_pos_of_mem hm
      have hle2 : v.yes.length + 1 ≤ v.parts.length := by
       have := nodup_le (l := fr :: v.yes) (m := v.parts) (List.nodup_cons.2 ⟨hm2,rise_nodup (hG.lk hlk).yr⟩) (fun q hq => by rcases List.mem_cons.1 hq with rfl | hq;exact hm;exact (hG.lk hlk).ys q hq)
       simpa using this
      refine Q.r ?_;(repeat (intro b1;refine Q.r ?_))
      rw [hv]
      refine N.r1 (by apply RV.cellN;rfl;exact RdC.row;rfl;exact RV.nil) (Ent.trans (rgclose (p := p) (dc := dc) hq) ?_) (rg_note M p j L ({ NA.zero with kind := 20,txn := n.txn,who := fr }) rfl b1);exact Ent.trans (M := pt b1 (cl (NA.nv ({ NA.zero with kind := 20,txn := n.txn,who := fr })).cells 39) :: rgH M p j :: roM M :: L) (by exact Go.SX.Ent.go) rn_ent
    ·rw [if_pos hc]
     refine Q.r ?_;(repeat (intro b1;refine Q.r ?_))
     rename_i bg
     refine S.cmG (args := [v.val,.int .u64 0,.int .i64 n.code]) rfl (Rtold_spec v 0 n.code M _ hvo) ?_
     rintro _ _ ⟨a3,c3,rfl,rfl⟩
     refine Q.r ?_;(repeat (intro b1;refine Q.r ?_))
     refine N.r1 (by apply RV.cellN;rfl;exact RdC.row;rfl;exact RV.nil) (Ent.trans (rgclose (p := p) (dc := dc) hq) ?_) ⟨none,0,[],some ⟨b1,0,none⟩,1,[(goneN v.txn).nv],a3,c3,(toldM v.abs 0 n.code).map (fun m => (m.1,m.2.nv)),none,0,[],none,0,[],M,by rw [List.length_map,toldM_len];rfl,leM.refl M,⟨fun _ h => (by cases h),fun m hm => (by rw [List.mem_singleton.1 hm];exact okN.nv _),nvm_ok _,fun _ h => (by cases h),fun _ h => (by cases h)⟩,⟨rfl,rfl,nvm_abs (toldM_abs _ _ _),rfl,rfl⟩,rfl⟩
     rw [List.length_map,toldM_len,mailsM]
     refine Ent.trans (M := pt b1 (cl (goneN v.txn).nv.cells 39) :: slO 155 17 a3 (v.parts.length + 1) c3 ((toldM v.abs 0 n.code).flatMap mailC) :: rgH M p j :: roM M :: L) (by exact Go.SX.Ent.go) ?_
     refine Ent.trans (slO_fold (sz := 16) (m := 1) rfl) ?_
     show Ent _ (zN :: slO 39 16 (some ⟨b1,0,none⟩) 1 1 (goneN v.txn).nv.cells :: slO 155 17 a3 (v.parts.length + 1) c3 ((toldM v.abs 0 n.code).flatMap mailC) :: zN :: zM :: rgH M p j :: roM M :: L)
     exact Go.SX.Ent.go
   ·rw [decide_eq_false hm]
    rw [if_pos (.inr hm)]
    refine Q.r ?_;(repeat (intro b1;refine Q.r ?_))
    refine N.r1 (by apply RV.cellN;rfl;exact RdC.row;rfl;exact RV.nil) (Ent.trans (rgclose (p := p) (dc := dc) hq) ?_) (planRG0.none M p j L);exact Ent.trans (M := rgH M p j :: roM M :: L) (by exact Go.SX.Ent.go) znil5
  ·have hlk := hq.no hno
   rw [show lkL j.tr n.abs.txn = _ from hlk]
   dsimp only
   refine Q.r ?_;(repeat (intro b1;refine Q.r ?_))
   refine N.r1 (by apply RV.cellN;rfl;exact RdC.row;rfl;exact RV.nil) (Ent.trans (rgclose (p := p) (dc := dc) hq) ?_) (planRG0.none M p j L);exact Ent.trans (M := rgH M p j :: roM M :: L) (by exact Go.SX.Ent.go) znil5
 rw [if_neg (show ¬ n.abs.kind = 4 from h4)]
 by_cases h6 : n.kind = 6
 ·rw [if_pos (show n.abs.kind = 6 from h6)]
  unfold ackG
  rcases hz with ⟨k,v,rfl,hk,hv⟩ | ⟨rfl,hno⟩
  ·have hvm := List.mem_of_getElem? hk
   have hkl : k < ts.length := (List.getElem?_eq_some_iff.1 hk).1
   have hlk := hq.has hG.kt hvm
   rw [hv] at hlk
   have hv0 := hst v hvm
   have hvo := hq.ok v hvm
   have hvpl := hvo.pl
   have hvkl := hvo.kl
   rw [show lkL j.tr n.abs.txn = _ from hlk]
   dsimp only
   obtain ⟨b,oo,hia,cr⟩ := SlM.cm (g := TV.cells) (fun _ => rfl) hq.tS hk rfl
   rw [hia] at hq ⊢
   by_cases hp : v.stamp = 0
   ·rw [if_pos (.inl hp)]
    refine Q.r ?_;(repeat (intro b1;refine Q.r ?_))
    refine N.r1 (by apply RV.cellN;rfl;exact RdC.row;rfl;exact RV.nil) (Ent.trans (rgclose (p := p) (dc := dc) hq) ?_) (planRG0.none M p j L);exact Ent.trans (M := rgH M p j :: roM M :: L) (by exact Go.SX.Ent.go) znil5
   refine Q.r ?_;(repeat (intro b1;refine Q.r ?_))
   refine S.cr rfl (Ris_spec v.pa v.pc v.parts fr _ hvo.p.rd hvpl) ?_
   rintro _ _ ⟨rfl,rfl⟩
   by_cases hm : fr ∈ v.parts
   ·rw [decide_eq_true hm]
    refine Q.r ?_;(repeat (intro b1;refine Q.r ?_))
    refine S.cr rfl (Ris_spec v.ka v.kc v.acked fr _ hvo.k.rd hvkl) ?_
    rintro _ _ ⟨rfl,rfl⟩
    by_cases hm2 : fr ∈ v.acked
    ·rw [decide_eq_true hm2,if_pos (.inr (.inr hm2))]
     refine Q.r ?_;(repeat (intro b1;refine Q.r ?_))
     refine N.r1 (by apply RV.cellN;rfl;exact RdC.row;rfl;exact RV.nil) (Ent.trans (rgclose (p := p) (dc := dc) hq) ?_) (planRG0.none M p j L);exact Ent.trans (M := rgH M p j :: roM M :: L) (by exact Go.SX.Ent.go) znil5
    rw [decide_eq_false hm2,if_neg (by rintro (h | h | h);exact hp h;exact h hm;exact hm2 h)]
    have hle2 : v.acked.length + 1 ≤ v.parts.length := by
     have := nodup_le (l := fr :: v.acked) (m := v.parts) (List.nodup_cons.2 ⟨hm2,rise_nodup (hG.lk hlk).kr⟩) (fun q hq => by rcases List.mem_cons.1 hq with rfl | hq;exact hm;exact (hG.lk hlk).ks q hq)
     simpa using this
    by_cases hl : v.acked.length + 1 = v.parts.length
    ·rw [if_neg (fun h => h hl)]
     refine Q.r ?_;(repeat (intro b1;refine Q.r ?_))
     refine D.start [] [] [0,1,2,3,4,5,6,7,8,9,10,11,12,13,14,15,16,17,18,19] _ [] rfl (by kernel_rfl) rfl (by kernel_rfl) NoPanic.no (Ent.refl _) ?_
     refine Q.rd ?_;(repeat (intro b1;refine Q.rd ?_))
     refine Q.r ?_;(repeat (intro b1;refine Q.r ?_))
     refine N.r1 (by apply RV.cellN;rfl;exact RdC.row;rfl;exact RV.nil) (Ent.trans (rgclose (p := p) (dc := dc) hq) ?_) (rg_rec M p j L ({ NA.zero with kind := 18,txn := n.txn }) rfl b1);exact Ent.trans (M := pt b1 (cl (NA.nv ({ NA.zero with kind := 18,txn := n.txn })).cells 39) :: rgH M p j :: roM M :: L) (by exact Go.SX.Ent.go) rr_ent
    ·rw [if_pos hl]
     refine Q.r ?_;(repeat (intro b1;refine Q.r ?_))
     refine D.start [] [] [0,1,2,3,4,5,6,7,8,9,10,11,12,13,14,15,16,17,18,19] _ [] rfl (by kernel_rfl) rfl (by kernel_rfl) NoPanic.no (Ent.refl _) ?_
     refine Q.rd ?_;(repeat (intro b1;refine Q.rd ?_))
     refine Q.r ?_;(repeat (intro b1;refine Q.r ?_))
     refine N.r1 (by apply RV.cellN;rfl;exact RdC.row;rfl;exact RV.nil) (Ent.trans (rgclose (p := p) (dc := dc) hq) ?_) (rg_note M p j L ({ NA.zero with kind := 21,txn := n.txn,who := fr }) rfl b1);exact Ent.trans (M := pt b1 (cl (NA.nv ({ NA.zero with kind := 21,txn := n.txn,who := fr })).cells 39) :: rgH M p j :: roM M :: L) (by exact Go.SX.Ent.go) rn_ent
   ·rw [decide_eq_false hm]
    rw [if_pos (.inr (.inl hm))]
    refine Q.r ?_;(repeat (intro b1;refine Q.r ?_))
    refine N.r1 (by apply RV.cellN;rfl;exact RdC.row;rfl;exact RV.nil) (Ent.trans (rgclose (p := p) (dc := dc) hq) ?_) (planRG0.none M p j L);exact Ent.trans (M := rgH M p j :: roM M :: L) (by exact Go.SX.Ent.go) znil5
  ·have hlk := hq.no hno
   rw [show lkL j.tr n.abs.txn = _ from hlk]
   dsimp only
   refine Q.r ?_;(repeat (intro b1;refine Q.r ?_))
   refine N.r1 (by apply RV.cellN;rfl;exact RdC.row;rfl;exact RV.nil) (Ent.trans (rgclose (p := p) (dc := dc) hq) ?_) (planRG0.none M p j L);exact Ent.trans (M := rgH M p j :: roM M :: L) (by exact Go.SX.Ent.go) znil5
 rw [if_neg (show ¬ n.abs.kind = 6 from h6)]
 by_cases h7 : n.kind = 7
 ·rw [if_pos (show n.abs.kind = 7 from h7)]
  unfold probeG
  rcases hz with ⟨k,v,rfl,hk,hv⟩ | ⟨rfl,hno⟩
  ·have hvm := List.mem_of_getElem? hk
   have hkl : k < ts.length := (List.getElem?_eq_some_iff.1 hk).1
   have hlk := hq.has hG.kt hvm
   rw [hv] at hlk
   have hv0 := hst v hvm
   rw [show lkL j.tr n.abs.txn = _ from hlk]
   dsimp only
   obtain ⟨b,oo,hia,cr⟩ := SlM.cm (g := TV.cells) (fun _ => rfl) hq.tS hk rfl
   rw [hia] at hq ⊢
   by_cases hp : v.stamp = 0
   ·rw [if_pos hp]
    refine Q.r ?_;(repeat (intro b1;refine Q.r ?_))
    refine N.r1 (by apply RV.cellN;rfl;exact RdC.row;rfl;exact RV.nil) (Ent.trans (rgclose (p := p) (dc := dc) hq) ?_) (planRG0.none M p j L);exact Ent.trans (M := rgH M p j :: roM M :: L) (by exact Go.SX.Ent.go) znil5
   ·rw [if_neg hp]
    refine Q.r ?_;(repeat (intro b1;refine Q.r ?_))
    refine Q.dgo [true,true,false,true] [11,12,14] [] [0,1,2,3,4,5,6,7,8,9,10,11,12,13,14] ?_
    refine Q.rd ?_;(repeat (intro b1;refine Q.rd ?_))
    refine D.e rfl rfl rfl ?_
    refine S.cr rfl (Rdecide_spec fr n.txn v.stamp 0 _) ?_
    rintro _ _ ⟨rfl,rfl⟩
    refine Q.r ?_;(repeat (intro b1;refine Q.r ?_))
    refine Q.rd ?_;(repeat (intro b1;refine Q.rd ?_))
    refine Q.r ?_;(repeat (intro b1;refine Q.r ?_))
    refine N.r1 (by apply RV.cellN;rfl;exact RdC.row;rfl;exact RV.nil) (Ent.trans (rgclose (p := p) (dc := dc) hq) ?_) (rg_mail M p j L (decM fr n.txn v.stamp 0) rfl b1);exact Ent.trans (M := pt b1 (cl (mailC (decM fr n.txn v.stamp 0)) 155) :: rgH M p j :: roM M :: L) (by exact Go.SX.Ent.go) rm_ent
  ·have hlk := hq.no hno
   rw [show lkL j.tr n.abs.txn = _ from hlk]
   dsimp only
   refine Q.r ?_;(repeat (intro b1;refine Q.r ?_))
   refine S.cr rfl (Rdecide_spec fr n.txn 0 6 _) ?_
   rintro _ _ ⟨rfl,rfl⟩
   refine Q.r ?_;(repeat (intro b1;refine Q.r ?_))
   refine N.r1 (by apply RV.cellN;rfl;exact RdC.row;rfl;exact RV.nil) (Ent.trans (rgclose (p := p) (dc := dc) hq) ?_) (rg_mail M p j L (decM fr n.txn 0 6) rfl b1);exact Ent.trans (M := pt b1 (cl (mailC (decM fr n.txn 0 6)) 155) :: rgH M p j :: roM M :: L) (by exact Go.SX.Ent.go) rm_ent
 rw [if_neg (show ¬ n.abs.kind = 7 from h7)]
 refine Q.r ?_;(repeat (intro b1;refine Q.r ?_))
 refine N.r1 (by apply RV.cellN;rfl;exact RdC.row;rfl;exact RV.nil) (Ent.trans (rgclose (p := p) (dc := dc) hq) ?_) (planRG0.none M p j L);exact Ent.trans (M := rgH M p j :: roM M :: L) (by exact Go.SX.Ent.go) znil5
theorem RgDo_spec (n : NV) (M : Nat → Option Obj) (p : Nat) (j : JG) (fr : Int) (L : List HP) (hw : WN j) (htl : j.tr.length ≤ 100000) (hdl : j.done.length ≤ 100000) (hn : okN M n) (hN : OkN n) (hoc : n.ops.length ≤ n.oc) (u : NumA n.abs) :
  CallsS Tryz.prog 29 [.pointer (some ⟨p,0,none⟩),.int .i64 fr,n.val] (rgH M p j :: roM M :: L) (planRG M p j (planG j fr n.abs) L) :=
 (RDo0_spec n M p j fr L hw htl hdl hn hN hoc u).post fun _ _ h => planRG.of0 h
theorem Lmail_spec (a : Option Addr) (c : Nat) (ms : List (Int × NV)) (A : List HP) (h : RdS A a ms.length 17 (ms.flatMap mcells)) (hn : ms.length ≤ 1000000) :
  CallsS Tryz.prog 55 [.slice a ms.length c] A (fun r L' => ∃ a' c',r = .slice a' ms.length c' ∧ L' = slO 155 17 a' ms.length c' (ms.flatMap mcells) :: A) := by
 refine CallsS.of_body Tryz.func55 rfl rfl rfl ?_
 refine Q.r ?_;(repeat (intro b1;refine Q.r ?_))
 refine swp_loop (σ := Nat × Option Addr × Nat × List (Int × NV)) (fun s => [(6,.slice a ms.length c),(7,.int .i64 ms.length),(3,.slice s.2.1 s.2.2.2.length s.2.2.1),(8,.int .i64 s.1)])
  (fun s => slO 155 17 s.2.1 s.2.2.2.length s.2.2.1 (s.2.2.2.flatMap mcells) :: A)
  (fun s => s.1 ≤ ms.length ∧ s.2.2.2 = ms.take s.1) (fun s => ms.length - s.1) (0,none,0,[]) ⟨rfl,rfl,rfl,rfl,trivial⟩ slO_nil ⟨by omega,by simp⟩ ?_
 rintro ⟨k,a3,c3,us⟩ ⟨hk,hus⟩
 dsimp only at hk hus ⊢
 have hul : us.length = k := by rw [hus,List.length_take];omega
 by_cases hlt : k < ms.length
 ·obtain ⟨q,hq⟩ := mem_get hlt
  have hrs : RdS (slO 155 17 a3 us.length c3 (us.flatMap mcells) :: A) a ms.length 17 (ms.flatMap mcells) := h.sub
  obtain ⟨b,oo,hia,hr⟩ := RdS.elem (g := mcells) (fun _ => rfl) hrs hq rfl
  clear hrs
  rw [hia]
  refine Q.r ?_;(repeat (intro b1;refine Q.r ?_))
  refine S.app rfl rfl (SrcS.sl RdC.row (by rfl) (by rfl)) (by rfl) (by omega) (by omega) (fun a7 c7 => ?_)
  refine Q.r ?_;(repeat (intro b1;refine Q.r ?_))
  refine ⟨(k + 1,a7,c7,us ++ [q]),⟨rfl,rfl,congrArg some (by simp),rfl,trivial⟩,?_,⟨by dsimp only;omega,?_⟩,by dsimp only;omega⟩
  ·dsimp only
   rw [len_snoc,flat_snoc]
   exact Go.SX.Ent.go
  ·dsimp only
   rw [take_snoc hq,← hus]
 ·have hke : k = ms.length := by omega
  subst hke
  rw [List.take_length] at hus
  subst hus
  refine Q.r ?_;(repeat (intro b1;refine Q.r ?_))
  exact N.r1 (RV.tmp rfl RV.nil) (Ent.refl _) ⟨a3,c3,rfl,rfl⟩
theorem Lnotes_spec (a : Option Addr) (c : Nat) (xs : List NV) (A : List HP) (h : RdS A a xs.length 16 (xs.flatMap NV.cells)) (hn : xs.length ≤ 1000000) :
  CallsS Tryz.prog 85 [.slice a xs.length c] A (fun r L' => ∃ a' c',r = .slice a' xs.length c' ∧ L' = slO 39 16 a' xs.length c' (xs.flatMap NV.cells) :: A) := by
 refine CallsS.of_body Tryz.func85 rfl rfl rfl ?_
 refine Q.r ?_;(repeat (intro b1;refine Q.r ?_))
 refine swp_loop (σ := Nat × Option Addr × Nat × List NV) (fun s => [(6,.slice a xs.length c),(7,.int .i64 xs.length),(3,.slice s.2.1 s.2.2.2.length s.2.2.1),(8,.int .i64 s.1)])
  (fun s => slO 39 16 s.2.1 s.2.2.2.length s.2.2.1 (s.2.2.2.flatMap NV.cells) :: A)
  (fun s => s.1 ≤ xs.length ∧ s.2.2.2 = xs.take s.1) (fun s => xs.length - s.1) (0,none,0,[]) ⟨rfl,rfl,rfl,rfl,trivial⟩ slO_nil ⟨by omega,by simp⟩ ?_
 rintro ⟨k,a3,c3,us⟩ ⟨hk,hus⟩
 dsimp only at hk hus ⊢
 have hul : us.length = k := by rw [hus,List.length_take];omega
 by_cases hlt : k < xs.length
 ·obtain ⟨q,hq⟩ := mem_get hlt
  have hrs : RdS (slO 39 16 a3 us.length c3 (us.flatMap NV.cells) :: A) a xs.length 16 (xs.flatMap NV.cells) := h.sub
  obtain ⟨b,oo,hia,hr⟩ := RdS.elem (g := NV.cells) (fun _ => rfl) hrs hq rfl
  clear hrs
  rw [hia]
  refine Q.r ?_;(repeat (intro b1;refine Q.r ?_))
  refine S.app rfl rfl (SrcS.sl RdC.row (by rfl) (by rfl)) (by rfl) (by omega) (by omega) (fun a7 c7 => ?_)
  refine Q.r ?_;(repeat (intro b1;refine Q.r ?_))
  refine ⟨(k + 1,a7,c7,us ++ [q]),⟨rfl,rfl,congrArg some (by simp),rfl,trivial⟩,?_,⟨by dsimp only;omega,?_⟩,by dsimp only;omega⟩
  ·dsimp only
   rw [len_snoc,flat_snoc]
   exact Go.SX.Ent.go
  ·dsimp only
   rw [take_snoc hq,← hus]
 ·have hke : k = xs.length := by omega
  subst hke
  rw [List.take_length] at hus
  subst hus
  refine Q.r ?_;(repeat (intro b1;refine Q.r ?_))
  exact N.r1 (RV.tmp rfl RV.nil) (Ent.refl _) ⟨a3,c3,rfl,rfl⟩
abbrev lP5 (a1 : Option Addr) (c1 n1 : Nat) (a2 : Option Addr) (c2 n2 : Nat) (a3 : Option Addr) (c3 n3 : Nat) (a4 : Option Addr) (c4 n4 : Nat) (a5 : Option Addr) (c5 n5 : Nat) : Value := .agg #[.slice a1 n1 c1,.slice a2 n2 c2,.slice a3 n3 c3,.slice a4 n4 c4,.slice a5 n5 c5]
set_option maxHeartbeats 1000000 in
theorem Lplan_spec (a1 : Option Addr) (c1 : Nat) (rs : List NV) (a2 : Option Addr) (c2 : Nat) (ns : List NV) (a3 : Option Addr) (c3 : Nat) (ms : List (Int × NV)) (a4 : Option Addr) (c4 : Nat) (is : List NV) (a5 : Option Addr) (c5 : Nat) (es : List (Int × NV)) (M : Nat → Option Obj) (L : List HP)
  (h1 : okNs M a1 rs) (h2 : okNs M a2 ns) (h3 : okMs M a3 ms) (h4 : okNs M a4 is) (h5 : okMs M a5 es) (n1 : rs.length ≤ 1000000) (n2 : ns.length ≤ 1000000) (n3 : ms.length ≤ 1000000) (n4 : is.length ≤ 1000000) (n5 : es.length ≤ 1000000) :
  CallsS Tryz.prog 31 [lP5 a1 c1 rs.length a2 c2 ns.length a3 c3 ms.length a4 c4 is.length a5 c5 es.length] (roM M :: L) (fun r L' => ∃ b1 d1 b2 d2 b3 d3 b4 d4 b5 d5,r = lP5 b1 d1 rs.length b2 d2 ns.length b3 d3 ms.length b4 d4 is.length b5 d5 es.length ∧
   L' = slO 39 16 b1 rs.length d1 (rs.flatMap NV.cells) :: slO 39 16 b2 ns.length d2 (ns.flatMap NV.cells) :: slO 155 17 b3 ms.length d3 (ms.flatMap mcells) :: slO 39 16 b4 is.length d4 (is.flatMap NV.cells) :: slO 155 17 b5 es.length d5 (es.flatMap mcells) :: roM M :: L) := by
 refine CallsS.of_body Tryz.func31 rfl rfl rfl ?_
 refine Q.r ?_;(repeat (intro b1;refine Q.r ?_))
 rename_i b0
 refine Q.dgo [false,true] [2,5,8,11,14,16] [] [0,1,3,4,6,7,9,10,12,13,2,5,8,11,14,15,16] ?_
 refine Q.rd ?_;(repeat (intro b1;refine Q.rd ?_))
 refine D.e rfl rfl rfl ?_
 refine S.cr rfl (Lnotes_spec a1 c1 rs _ h1.1.rd n1) ?_
 rintro _ _ ⟨e1,d1,rfl,rfl⟩
 refine Q.r ?_;(repeat (intro b1;refine Q.r ?_))
 refine Q.rd ?_;(repeat (intro b1;refine Q.rd ?_))
 refine D.e rfl rfl rfl ?_
 refine S.cr rfl (Lnotes_spec a2 c2 ns _ h2.1.rd n2) ?_
 rintro _ _ ⟨e2,d2,rfl,rfl⟩
 refine Q.r ?_;(repeat (intro b1;refine Q.r ?_))
 refine Q.rd ?_;(repeat (intro b1;refine Q.rd ?_))
 refine D.e rfl rfl rfl ?_
 refine S.cr rfl (Lmail_spec a3 c3 ms _ h3.1.rd n3) ?_
 rintro _ _ ⟨e3,d3,rfl,rfl⟩
 refine Q.r ?_;(repeat (intro b1;refine Q.r ?_))
 refine Q.rd ?_;(repeat (intro b1;refine Q.rd ?_))
 refine D.e rfl rfl rfl ?_
 refine S.cr rfl (Lnotes_spec a4 c4 is _ h4.1.rd n4) ?_
 rintro _ _ ⟨e4,d4,rfl,rfl⟩
 refine Q.r ?_;(repeat (intro b1;refine Q.r ?_))
 refine Q.rd ?_;(repeat (intro b1;refine Q.rd ?_))
 refine D.e rfl rfl rfl ?_
 refine S.cr rfl (Lmail_spec a5 c5 es _ h5.1.rd n5) ?_
 rintro _ _ ⟨e5,d5,rfl,rfl⟩
 refine Q.r ?_;(repeat (intro b1;refine Q.r ?_))
 refine Q.rd ?_;(repeat (intro b1;refine Q.rd ?_))
 refine Q.r ?_;(repeat (intro b1;refine Q.r ?_))
 refine N.r1 (by apply RV.cellN;rfl;exact RdC.row;rfl;exact RV.nil) ?_ ⟨e1,d1,e2,d2,e3,d3,e4,d4,e5,d5,rfl,rfl⟩
 exact Go.SX.Ent.go
theorem okNs.rdN {M : Nat → Option Obj} {a : Option Addr} {xs : List NV} (h : okNs M a xs) (hk : ∀ n ∈ xs,OkN n) {L : List HP} [HasM M L] : RdNs L a xs := ⟨h.1.rd,fun n hn => ⟨(h.2 n hn).rd,hk n hn⟩⟩
theorem okMs.rdM {M : Nat → Option Obj} {a : Option Addr} {xs : List (Int × NV)} (h : okMs M a xs) (hk : ∀ n ∈ xs,OkN n.2) {L : List HP} [HasM M L] : RdMs L a xs := ⟨h.1.rd,fun n hn => ⟨(h.2 n hn).rd,hk n hn⟩⟩
structure P5 (M : Nat → Option Obj) (pl : PG) (a1 : Option Addr) (rs : List NV) (a2 : Option Addr) (ns : List NV) (a3 : Option Addr) (ms : List (Int × NV)) (a4 : Option Addr) (is : List NV) (a5 : Option Addr) (es : List (Int × NV)) : Prop where
 r : okNs M a1 rs
 n : okNs M a2 ns
 m : okMs M a3 ms
 i : okNs M a4 is
 e : okMs M a5 es
 er : rs.map NV.abs = pl.rec_
 en : ns.map NV.abs = pl.notes
 em : ms.map (fun m => (m.1,m.2.abs)) = pl.mail
 ei : is.map NV.abs = pl.inst
 ee : es.map (fun m => (m.1,m.2.abs)) = pl.els
theorem P5.mono {M M' : Nat → Option Obj} {pl : PG} {a1 : Option Addr} {rs : List NV} {a2 : Option Addr} {ns : List NV} {a3 : Option Addr} {ms : List (Int × NV)} {a4 : Option Addr} {is : List NV} {a5 : Option Addr} {es : List (Int × NV)} (h : P5 M pl a1 rs a2 ns a3 ms a4 is a5 es) (hl : leM M M') : P5 M' pl a1 rs a2 ns a3 ms a4 is a5 es :=
 ⟨h.r.mono hl,h.n.mono hl,h.m.mono hl,h.i.mono hl,h.e.mono hl,h.er,h.en,h.em,h.ei,h.ee⟩
theorem okA_of {xs : List NV} {l : List NA} (h : xs.map NV.abs = l) (hk : ∀ r ∈ l,OkA r) : ∀ n ∈ xs,OkN n := fun n hn => OkN.of (hk _ (h ▸ List.mem_map_of_mem hn))
theorem okAm_of {xs : List (Int × NV)} {l : List (Int × NA)} (h : xs.map (fun m => (m.1,m.2.abs)) = l) (hk : ∀ r ∈ l,OkA r.2) : ∀ n ∈ xs,OkN n.2 := fun n hn => OkN.of (hk _ (h ▸ List.mem_map_of_mem (f := fun m : Int × NV => (m.1,m.2.abs)) hn))
set_option maxHeartbeats 1000000 in
theorem SamePlan15_spec (a1 : Option Addr) (c1 : Nat) (rs : List NV) (a2 : Option Addr) (c2 : Nat) (ns : List NV) (a3 : Option Addr) (c3 : Nat) (ms : List (Int × NV)) (a4 : Option Addr) (c4 : Nat) (is : List NV) (a5 : Option Addr) (c5 : Nat) (es : List (Int × NV))
  (f1 : Option Addr) (d1 : Nat) (rs' : List NV) (f2 : Option Addr) (d2 : Nat) (ns' : List NV) (f3 : Option Addr) (d3 : Nat) (ms' : List (Int × NV)) (f4 : Option Addr) (d4 : Nat) (is' : List NV) (f5 : Option Addr) (d5 : Nat) (es' : List (Int × NV)) (M : Nat → Option Obj) (pl : PG) (L : List HP)
  (h : P5 M pl a1 rs a2 ns a3 ms a4 is a5 es) (h' : P5 M pl f1 rs' f2 ns' f3 ms' f4 is' f5 es') (hp : PN pl) (hl : pl.rec_.length ≤ 1000000 ∧ pl.notes.length ≤ 1000000 ∧ pl.mail.length ≤ 1000000 ∧ pl.inst.length ≤ 1000000 ∧ pl.els.length ≤ 1000000) :
  CallsS Tryz.prog 30 [lP5 a1 c1 rs.length a2 c2 ns.length a3 c3 ms.length a4 c4 is.length a5 c5 es.length,lP5 f1 d1 rs'.length f2 d2 ns'.length f3 d3 ms'.length f4 d4 is'.length f5 d5 es'.length] (roM M :: L) (fun v L' => v = .bool true ∧ L' = roM M :: L) := by
 have k1 := okA_of h.er (fun r hr => (hp.r r hr).2)
 have k1' := okA_of h'.er (fun r hr => (hp.r r hr).2)
 have k2 := okA_of h.en (fun r hr => (hp.n r hr).2)
 have k2' := okA_of h'.en (fun r hr => (hp.n r hr).2)
 have k3 := okAm_of h.em hp.m
 have k3' := okAm_of h'.em hp.m
 have k4 := okA_of h.ei (fun r hr => (hp.i r hr).2)
 have k4' := okA_of h'.ei (fun r hr => (hp.i r hr).2)
 have k5 := okAm_of h.ee hp.e
 have k5' := okAm_of h'.ee hp.e
 have l1 : rs.length ≤ 1000000 := by have := congrArg List.length h.er;rw [List.length_map] at this;omega
 have l2 : ns.length ≤ 1000000 := by have := congrArg List.length h.en;rw [List.length_map] at this;omega
 have l3 : ms.length ≤ 1000000 := by have := congrArg List.length h.em;rw [List.length_map] at this;omega
 have l4 : is.length ≤ 1000000 := by have := congrArg List.length h.ei;rw [List.length_map] at this;omega
 have l5 : es.length ≤ 1000000 := by have := congrArg List.length h.ee;rw [List.length_map] at this;omega
 refine CallsS.of_body Tryz.func30 rfl rfl rfl ?_
 refine Q.r ?_;(repeat (intro b1;refine Q.r ?_))
 refine S.cr rfl (SameAll_spec a1 c1 rs f1 d1 rs' _ (h.r.rdN k1) (h'.r.rdN k1') l1 (h.er.trans h'.er.symm)) ?_
 rintro _ _ ⟨rfl,rfl⟩
 refine Q.r ?_;(repeat (intro b1;refine Q.r ?_))
 refine S.cr rfl (SameAll_spec a2 c2 ns f2 d2 ns' _ (h.n.rdN k2) (h'.n.rdN k2') l2 (h.en.trans h'.en.symm)) ?_
 rintro _ _ ⟨rfl,rfl⟩
 refine Q.r ?_;(repeat (intro b1;refine Q.r ?_))
 refine S.cr rfl (SameMail_spec a3 c3 ms f3 d3 ms' _ (h.m.rdM k3) (h'.m.rdM k3') l3 (h.em.trans h'.em.symm)) ?_
 rintro _ _ ⟨rfl,rfl⟩
 refine Q.r ?_;(repeat (intro b1;refine Q.r ?_))
 refine S.cr rfl (SameAll_spec a4 c4 is f4 d4 is' _ (h.i.rdN k4) (h'.i.rdN k4') l4 (h.ei.trans h'.ei.symm)) ?_
 rintro _ _ ⟨rfl,rfl⟩
 refine Q.r ?_;(repeat (intro b1;refine Q.r ?_))
 refine S.cr rfl (SameMail_spec a5 c5 es f5 d5 es' _ (h.e.rdM k5) (h'.e.rdM k5') l5 (h.ee.trans h'.ee.symm)) ?_
 rintro _ _ ⟨rfl,rfl⟩
 refine Q.r ?_;(repeat (intro b1;refine Q.r ?_))
 refine N.r1 (RV.tmp rfl RV.nil) ?_ ⟨rfl,rfl⟩
 exact Go.SX.Ent.go
set_option maxHeartbeats 1000000 in
theorem Lapply_spec (a : Option Addr) (c : Nat) (ns : List NV) (p x : Nat) (j : JG) (M : Nat → Option Obj) (L : List HP) (h : okNs M a ns) (hu : ∀ n ∈ ns,NumA n.abs ∧ OkN n) (hw : WN j) (hl : j.tr.length + ns.length ≤ 100000) (hd : j.done.length + ns.length ≤ 100000) (hT : TabM M) :
  CallsS Tryz.prog 28 [ptrG p,.pointer (some ⟨x,0,none⟩),.slice a ns.length c] (jdgH M p j :: rgH M x j :: roM M :: L)
   (fun r L' => ∃ M',r = .bool true ∧ leM M M' ∧ L' = jdgH M' p (appL j (ns.map NV.abs)) :: rgH M' x (appL j (ns.map NV.abs)) :: roM M' :: L) := by
 refine CallsS.of_body Tryz.func28 rfl rfl rfl ?_
 refine Q.r ?_;(repeat (intro b1;refine Q.r ?_))
 refine swp_loop (σ := Nat × (Nat → Option Obj)) (fun s => [(0,ptrG p),(1,.pointer (some ⟨x,0,none⟩)),(9,.slice a ns.length c),(10,.int .i64 ns.length),(11,.int .i64 s.1)])
  (fun s => jdgH s.2 p (appL j ((ns.take s.1).map NV.abs)) :: rgH s.2 x (appL j ((ns.take s.1).map NV.abs)) :: roM s.2 :: L)
  (fun s => s.1 ≤ ns.length ∧ leM M s.2) (fun s => ns.length - s.1) (0,M) ⟨rfl,rfl,rfl,rfl,rfl,trivial⟩ (Ent.refl _) ⟨Nat.zero_le _,leM.refl M⟩ ?_
 rintro ⟨k,M1⟩ ⟨hk,hl1⟩
 dsimp only at hk hl1 ⊢
 by_cases hlt : k < ns.length
 ·obtain ⟨n,hq⟩ := mem_get hlt
  have hm := List.mem_of_getElem? hq
  obtain ⟨b,oo,hia,cr⟩ := SlM.cm (g := NV.cells) (fun _ => rfl) (h.1.mono hl1) hq rfl
  have hok := appL_ok (j := j) (l := (ns.take k).map NV.abs) hw (fun r hr => by obtain ⟨w,hw,rfl⟩ := List.mem_map.1 hr;exact (hu w (List.mem_of_mem_take hw)).1)
  have hkl : ((ns.take k).map NV.abs).length ≤ ns.length := by rw [List.length_map,List.length_take];omega
  have hnx : appL j ((ns.take (k + 1)).map NV.abs) = appG (appL j ((ns.take k).map NV.abs)) n.abs := by
   rw [take_snoc hq,List.map_append];unfold appL;rw [List.foldl_append];rfl
  generalize appL j ((ns.take k).map NV.abs) = j1 at hok hnx ⊢
  obtain ⟨ho1,ho2,ho3,_⟩ := hok
  have hua := (hu n hm).1
  rw [hia]
  refine Q.r ?_;(repeat (intro b1;refine Q.r ?_))
  refine Q.dgo [true] [2,5] [] [0,1,3,4,2,5,6] ?_
  refine Q.rd ?_;(repeat (intro b1;refine Q.rd ?_))
  refine D.e rfl rfl rfl ?_
  refine S.cg p (args := [ptrG p,n.val]) rfl (GApply_spec n M1 p j1 _ ho1.g ((h.2 n hm).mono hl1) (hu n hm).2 (hT.mono hl1) hua.nv (by have := hua.txn.2;show n.abs.txn < _;omega)) ?_
  rintro _ _ ⟨M2,rfl,hl2,rfl⟩
  refine opsS_rgm x hl2 ?_
  refine Q.r ?_;(repeat (intro b1;refine Q.r ?_))
  refine Q.rd ?_;(repeat (intro b1;refine Q.rd ?_))
  refine D.e rfl rfl rfl ?_
  refine S.crg x (args := [.pointer (some ⟨x,0,none⟩),n.val]) rfl (RgApp_spec n x j1 M2 _ ho1 (by omega) (by omega) ((h.2 n hm).mono (hl1.trans hl2)) (hu n hm).2 hua) ?_
  rintro _ _ ⟨M3,rfl,hl3,rfl⟩
  refine opsS_gm p hl3 ?_
  refine Q.r ?_;(repeat (intro b1;refine Q.r ?_))
  refine Q.rd ?_;(repeat (intro b1;refine Q.rd ?_))
  refine Q.r ?_;(repeat (intro b1;refine Q.r ?_))
  rw [← hia]
  refine ⟨(k + 1,M3),⟨rfl,rfl,rfl,rfl,rfl,trivial⟩,?_,⟨by dsimp only;omega,hl1.trans (hl2.trans hl3)⟩,by dsimp only;omega⟩
  dsimp only
  rw [hnx]
  exact Go.SX.Ent.go
 ·have hke : k = ns.length := by omega
  subst hke
  rw [List.take_length]
  refine Q.r ?_;(repeat (intro b1;refine Q.r ?_))
  exact N.r1 (RV.tmp rfl RV.nil) (Ent.refl _) ⟨M1,rfl,hl1,rfl⟩
theorem GEpoch_spec (M : Nat → Option Obj) (p : Nat) (j : JG) (L : List HP) :
  CallsS Tryz.prog 20 [ptrG p] (jdgH M p j :: L) (fun r L' => r = .int .u64 j.epoch ∧ L' = jdgH M p j :: L) := by
 refine calls_jdg fun mt md ts hq => ?_
 refine CallsS.of_body Tryz.func20 rfl rfl rfl ?_
 refine Q.r ?_;(repeat (intro b1;refine Q.r ?_))
 exact N.r1 (RV.tmp rfl RV.nil) (jdg_shut hq) ⟨rfl,rfl⟩
end Go.Proofs.YtiampehfpgcogaaGreatDoor
