/- The judge: said, commit. The judge: commit. The judge: Apply. The judge: what it always is stays so. The judge: the law's example. JudgeOnce: the walk. The readings of the judge's scripts. A map that is ranged over while keys of it are deleted. The judge: reign (maps.DeleteFunc), and Apply whole. The ref's judge: as it lies. The ref's judge: its small functions. The ref's judge: a trial more, one less; when a batch was committed. No condition. -/
import Derived.Test.YtiampehfpgcogaaGreatDoorPk06
set_option linter.unusedVariables false
set_option linter.unusedSimpArgs false
set_option linter.unusedSectionVars false
namespace Go.SX
open Go
theorem mpO_cong {κ α : Type} [DecidableEq κ] {g : κ → Value} {r : α → Value} {b : Nat} {m m' : List (κ × α)} (h : m.map (fun p => (g p.1,r p.2)) = m'.map (fun p => (g p.1,r p.2))) (hk : m.map (·.1) = m'.map (·.1)) {L : List HP} : Ent (mpO g r b m :: L) (mpO g r b m' :: L) := fun w F H =>
 St.of_sep (L := mpO g r b m :: (L ++ F)) (fun hh ⟨h1,h2,ok,e,⟨es,c,⟨a1,a2,a3⟩,a4⟩,l⟩ => ⟨h1,h2,ok,e,⟨es,c,⟨a1.trans h,by unfold keysOK at *;rw [← hk];exact a2,a3⟩,a4⟩,l⟩) H
end Go.SX
namespace Go.Proofs.YtiampehfpgcogaaGreatDoor
open Go Go.SX
attribute [local irreducible] swp opsS thenS blockS retS CallsS St Ent YieldS anyS drawS
theorem gT_set {ts : List TB} {k b mt : Nat} {x : Int} {t t' : TV} (h : ts[k]? = some (x,b,t)) {L : List HP} : Ent (gT mt ts :: L) (gT mt (ts.set k (x,b,t')) :: L) := by
 have hk : k < ts.length := (List.getElem?_eq_some_iff.1 h).1
 have he := (List.getElem?_eq_some_iff.1 h).2
 refine mpO_cong ?_ ?_
 ·rw [List.map_set]
  have : (U64 x,ptT (b,t')) = (ts.map fun p : TB => (U64 p.1,ptT p.2))[k]'(by simpa using hk) := by rw [List.getElem_map,he]
  rw [this,List.set_getElem_self]
 ·rw [List.map_set]
  have : x = (ts.map fun p : TB => p.1)[k]'(by simpa using hk) := by rw [List.getElem_map,he]
  rw [this,List.set_getElem_self]
theorem trs_upd {ts : List TB} {k b mt p md : Nat} {x : Int} {t t' : TV} {M : Nat → Option Obj} {j : JG} (h : ts[k]? = some (x,b,t)) (hq : GQ' M j (ts.set k (x,b,t'))) {L : List HP} : Ent (gP p j mt md :: gT mt ts :: oneT (b,t') :: trsH (ts.eraseIdx k) :: gD md j.done :: L) (jdgH M p j :: L) := by
 have hk : k < ts.length := (List.getElem?_eq_some_iff.1 h).1
 exact Ent.trans (Ent.cons ((gT_set (t' := t') h).trans (Ent.cons (trs_in hk (x,b,t'))))) (jdg_shut hq)
theorem GQ'.upd {M : Nat → Option Obj} {j j' : JG} {ts : List TB} (h : GQ' M j ts) (hk : keysOK j.tr) {k : Nat} {x : Int} {b : Nat} {t t' : TV} (hx : ts[k]? = some (x,b,t)) (ht : okT M t') (hs : j'.shards = j.shards) (htr : j'.tr = putL j.tr x t'.abs) : GQ' M j' (ts.set k (x,b,t')) := by
 refine ⟨by rw [hs];exact h.s1,by rw [hs];exact h.s2,?_,fun u hu => ?_⟩
 ·rw [htr,List.map_set,h.tr]
  have hkl : k < ts.length := (List.getElem?_eq_some_iff.1 hx).1
  have hkt : k < j.tr.length := by rw [← h.tr,List.length_map];exact hkl
  have he : j.tr[k] = (x,t.abs) := by
   have e2 := (List.getElem?_eq_some_iff.1 hx).2
   simp only [← h.tr,List.getElem_map,e2]
  rcases keyCase j.tr hk x with ⟨p,a,q,hpq,hp,hqn⟩ | hn
  ·rw [hpq,putL_mid hp hqn]
   have hkp : k = p.length := by
    have hm : j.tr[k]? = some (x,t.abs) := by rw [List.getElem?_eq_getElem hkt,he]
    rw [hpq] at hm
    rcases Nat.lt_trichotomy k p.length with h1 | h1 | h1
    ·rw [List.getElem?_append_left h1] at hm
     exact absurd rfl (hp _ (List.mem_of_getElem? hm))
    ·exact h1
    ·rw [List.getElem?_append_right (by omega)] at hm
     obtain ⟨d,hd⟩ : ∃ d,k - p.length = d + 1 := ⟨k - p.length - 1,by omega⟩
     rw [hd,List.getElem?_cons_succ] at hm
     exact absurd rfl (hqn _ (List.mem_of_getElem? hm))
   subst hkp
   rw [List.set_append_right _ _ (Nat.le_refl _),Nat.sub_self,List.set_cons_zero]
  ·exact absurd rfl (hn (x,t.abs) (by rw [← he];exact List.getElem_mem hkt))
 ·rcases List.mem_or_eq_of_mem_set hu with hu | hu
  ·exact h.ok u hu
  ·subst hu;exact ht
set_option maxHeartbeats 4000000 in
theorem Gsaid_spec (n : NV) (u : Nat × TV) (x : Int) (M : Nat → Option Obj) (L : List HP) (ht : okT M u.2) (hw : WT x u.2.abs) (hk : n.kind = 20 ∨ n.kind = 21) :
  CallsS Tryz.prog 40 [ptT u,n.val] (oneT u :: roM M :: L) (fun r L' => ∃ (M' : Nat → Option Obj) (t' : TV),r = .int .i64 (saidE u.2.abs n.abs) ∧ leM M M' ∧ okT M' t' ∧ t'.abs = (if saidE u.2.abs n.abs = 0 then saidT u.2.abs n.abs else u.2.abs) ∧ (saidE u.2.abs n.abs ≠ 0 → t' = u.2) ∧ L' = oneT (u.1,t') :: roM M' :: L) := by
 have hpl := ht.pl
 have hyl := ht.yl
 have hkl := ht.kl
 have hy4 : u.2.yes.length ≤ 4 := Nat.le_trans (nodup_le (rise_nodup hw.yr) hw.ys) hw.pl
 have hk4 : u.2.acked.length ≤ 4 := Nat.le_trans (nodup_le (rise_nodup hw.kr) hw.ks) hw.pl
 refine CallsS.of_body Tryz.func40 rfl rfl rfl ?_
 have e : ∀ (E : Int),saidE u.2.abs n.abs = E → (if saidE u.2.abs n.abs = 0 then saidT u.2.abs n.abs else u.2.abs) = if E = 0 then saidT u.2.abs n.abs else u.2.abs := fun E h => by rw [h]
 rcases hk with hk | hk
 ·have hE : saidE u.2.abs n.abs = if 0 < u.2.stamp then 10 else if n.who ∉ u.2.parts ∨ n.who ∈ u.2.yes then 1 else 0 := by
   unfold saidE
   rw [show n.abs.kind = 20 from hk]
   by_cases h : 0 < u.2.stamp <;> simp [h]
  have hT : saidT u.2.abs n.abs = { u.2.abs with yes := putI u.2.yes n.who } := by
   unfold saidT
   rw [show n.abs.kind = 20 from hk];rfl
  by_cases h1 : 0 < u.2.stamp
  ·rw [if_pos h1] at hE
   refine Q.r ?_;(repeat (intro b1;refine Q.r ?_))
   refine Q.dgo [true,true] [] [] [0,1,2,3,4,5,6,7,8,9,10] ?_
   refine Q.rd ?_;(repeat (intro b1;refine Q.rd ?_))
   refine Q.r ?_;(repeat (intro b1;refine Q.r ?_))
   exact N.r1 (RV.tmp rfl RV.nil) (Ent.drop (Ent.refl _)) ⟨M,u.2,by rw [hE],leM.refl M,ht,by rw [e _ hE];rfl,fun _ => rfl,rfl⟩
  rw [if_neg h1] at hE
  by_cases h2 : n.who ∈ u.2.parts
  ·by_cases h3 : n.who ∈ u.2.yes
   ·rw [if_pos (.inr h3)] at hE
    refine Q.r ?_;(repeat (intro b1;refine Q.r ?_))
    refine Q.dgo [true,true] [] [] [0,1,2,3,4,5,6,7,8,9,10] ?_
    refine Q.rd ?_;(repeat (intro b1;refine Q.rd ?_))
    refine Q.r ?_;(repeat (intro b1;refine Q.r ?_))
    refine Q.dgo [true,true] [7,15] [] [0,1,2,3,4,5,6,7,8,9,10,11,12,13,14,15,16,17] ?_
    refine Q.rd ?_;(repeat (intro b1;refine Q.rd ?_))
    refine D.e rfl rfl rfl ?_
    refine S.cr rfl (ContainsP_spec u.2.pa u.2.pc u.2.parts n.who _ ht.p.rd hpl) ?_
    rintro _ _ ⟨rfl,rfl⟩
    rw [decide_eq_true h2]
    refine Q.r ?_;(repeat (intro b1;refine Q.r ?_))
    refine Q.rd ?_;(repeat (intro b1;refine Q.rd ?_))
    refine D.e rfl rfl rfl ?_
    refine S.guard rfl ?_
    refine S.cr rfl (ContainsP_spec u.2.ya u.2.yc u.2.yes n.who _ ht.y.rd hyl) ?_
    rintro _ _ ⟨rfl,rfl⟩
    rw [decide_eq_true h3]
    refine Q.r ?_;(repeat (intro b1;refine Q.r ?_))
    refine Q.rd ?_;(repeat (intro b1;refine Q.rd ?_))
    refine Q.r ?_;(repeat (intro b1;refine Q.r ?_))
    exact N.r1 (RV.tmp rfl RV.nil) (Ent.trans (M := oneT u :: roM M :: L) (by exact Go.SX.Ent.go) (Ent.refl _)) ⟨M,u.2,by rw [hE],leM.refl M,ht,by rw [e _ hE];rfl,fun _ => rfl,rfl⟩
   ·rw [if_neg (fun h => h.elim (fun h => h h2) h3)] at hE
    refine Q.r ?_;(repeat (intro b1;refine Q.r ?_))
    refine Q.dgo [true,true] [] [] [0,1,2,3,4,5,6,7,8,9,10] ?_
    refine Q.rd ?_;(repeat (intro b1;refine Q.rd ?_))
    refine Q.r ?_;(repeat (intro b1;refine Q.r ?_))
    refine Q.dgo [true,true] [7,15] [] [0,1,2,3,4,5,6,7,8,9,10,11,12,13,14,15,16,17] ?_
    refine Q.rd ?_;(repeat (intro b1;refine Q.rd ?_))
    refine D.e rfl rfl rfl ?_
    refine S.cr rfl (ContainsP_spec u.2.pa u.2.pc u.2.parts n.who _ ht.p.rd hpl) ?_
    rintro _ _ ⟨rfl,rfl⟩
    rw [decide_eq_true h2]
    refine Q.r ?_;(repeat (intro b1;refine Q.r ?_))
    refine Q.rd ?_;(repeat (intro b1;refine Q.rd ?_))
    refine D.e rfl rfl rfl ?_
    refine S.guard rfl ?_
    refine S.cr rfl (ContainsP_spec u.2.ya u.2.yc u.2.yes n.who _ ht.y.rd hyl) ?_
    rintro _ _ ⟨rfl,rfl⟩
    rw [decide_eq_false h3]
    refine Q.r ?_;(repeat (intro b1;refine Q.r ?_))
    refine Q.rd ?_;(repeat (intro b1;refine Q.rd ?_))
    refine Q.r ?_;(repeat (intro b1;refine Q.r ?_))
    refine Q.dgo [true,true] [6,8] [8] [0,1,2,3,4,5,6,7,8] ?_
    refine Q.rd ?_;(repeat (intro b1;refine Q.rd ?_))
    refine D.e rfl rfl rfl ?_
    refine S.cr rfl (Gput_spec u.2.ya u.2.yc u.2.yes n.who _ ht.y.rd hyl hw.yr) ?_
    rintro _ _ ⟨na,nc,rfl,rfl⟩
    refine opsS_abs na (fun M1 hl1 hs1 => ?_)
    refine Q.r ?_;(repeat (intro b1;refine Q.r ?_))
    refine Q.rd ?_;(repeat (intro b1;refine Q.rd ?_))
    refine Q.dc rfl rfl rfl rfl ?_
    refine Q.r ?_;(repeat (intro b1;refine Q.r ?_))
    refine Q.rd ?_;(repeat (intro b1;refine Q.rd ?_))
    refine Q.r ?_;(repeat (intro b1;refine Q.r ?_))
    rw [← putI_len (l := u.2.yes) (n := n.who)]
    have ht1 := ht.mono hl1
    refine N.r1 (RV.tmp rfl RV.nil) (Ent.trans (M := oneT (u.1,{ u.2 with ya := na,yc := nc,yes := putI u.2.yes n.who }) :: roM M1 :: L) (by exact Go.SX.Ent.go) (Ent.refl _)) ⟨M1,{ u.2 with ya := na,yc := nc,yes := putI u.2.yes n.who },by rw [hE],hl1,?_,by rw [e _ hE,hT];rfl,fun h => absurd hE h,rfl⟩
    exact ⟨ht1.p,(by have h := hs1;rw [← putI_len (l := u.2.yes) (n := n.who)] at h;exact h),ht1.k,ht1.o,ht1.ov,ht1.pl,by show (putI u.2.yes n.who).length ≤ _;rw [putI_len];omega,ht1.kl,ht1.ol⟩
  ·rw [if_pos (.inl h2)] at hE
   refine Q.r ?_;(repeat (intro b1;refine Q.r ?_))
   refine Q.dgo [true,true] [] [] [0,1,2,3,4,5,6,7,8,9,10] ?_
   refine Q.rd ?_;(repeat (intro b1;refine Q.rd ?_))
   refine Q.r ?_;(repeat (intro b1;refine Q.r ?_))
   refine Q.dgo [true,true] [7,15] [] [0,1,2,3,4,5,6,7,8,9,10,11,12,13,14,15,16,17] ?_
   refine Q.rd ?_;(repeat (intro b1;refine Q.rd ?_))
   refine D.e rfl rfl rfl ?_
   refine S.cr rfl (ContainsP_spec u.2.pa u.2.pc u.2.parts n.who _ ht.p.rd hpl) ?_
   rintro _ _ ⟨rfl,rfl⟩
   rw [decide_eq_false h2]
   refine Q.r ?_;(repeat (intro b1;refine Q.r ?_))
   refine Q.rd ?_;(repeat (intro b1;refine Q.rd ?_))
   refine Q.r ?_;(repeat (intro b1;refine Q.r ?_))
   exact N.r1 (RV.tmp rfl RV.nil) (Ent.trans (M := oneT u :: roM M :: L) (by exact Go.SX.Ent.go) (Ent.refl _)) ⟨M,u.2,by rw [hE],leM.refl M,ht,by rw [e _ hE];rfl,fun _ => rfl,rfl⟩
 ·have hE : saidE u.2.abs n.abs = if ¬ 0 < u.2.stamp then 10 else if n.who ∉ u.2.parts ∨ n.who ∈ u.2.acked then 1 else 0 := by
   unfold saidE
   rw [show n.abs.kind = 21 from hk]
   by_cases h : 0 < u.2.stamp <;> simp [h]
  have hT : saidT u.2.abs n.abs = { u.2.abs with acked := putI u.2.acked n.who } := by
   unfold saidT
   rw [show n.abs.kind = 21 from hk];rfl
  by_cases h1 : ¬ 0 < u.2.stamp
  ·rw [if_pos h1] at hE
   refine Q.r ?_;(repeat (intro b1;refine Q.r ?_))
   refine Q.dgo [true,true] [] [] [0,1,2,3,4,5,6,7,8,9,10] ?_
   refine Q.rd ?_;(repeat (intro b1;refine Q.rd ?_))
   refine Q.r ?_;(repeat (intro b1;refine Q.r ?_))
   exact N.r1 (RV.tmp rfl RV.nil) (Ent.drop (Ent.refl _)) ⟨M,u.2,by rw [hE],leM.refl M,ht,by rw [e _ hE];rfl,fun _ => rfl,rfl⟩
  rw [if_neg h1] at hE
  by_cases h2 : n.who ∈ u.2.parts
  ·by_cases h3 : n.who ∈ u.2.acked
   ·rw [if_pos (.inr h3)] at hE
    refine Q.r ?_;(repeat (intro b1;refine Q.r ?_))
    refine Q.dgo [true,true] [] [] [0,1,2,3,4,5,6,7,8,9,10] ?_
    refine Q.rd ?_;(repeat (intro b1;refine Q.rd ?_))
    refine Q.r ?_;(repeat (intro b1;refine Q.r ?_))
    refine Q.dgo [true,true] [7,15] [] [0,1,2,3,4,5,6,7,8,9,10,11,12,13,14,15,16,17] ?_
    refine Q.rd ?_;(repeat (intro b1;refine Q.rd ?_))
    refine D.e rfl rfl rfl ?_
    refine S.cr rfl (ContainsP_spec u.2.pa u.2.pc u.2.parts n.who _ ht.p.rd hpl) ?_
    rintro _ _ ⟨rfl,rfl⟩
    rw [decide_eq_true h2]
    refine Q.r ?_;(repeat (intro b1;refine Q.r ?_))
    refine Q.rd ?_;(repeat (intro b1;refine Q.rd ?_))
    refine D.e rfl rfl rfl ?_
    refine S.guard rfl ?_
    refine S.cr rfl (ContainsP_spec u.2.ka u.2.kc u.2.acked n.who _ ht.k.rd hkl) ?_
    rintro _ _ ⟨rfl,rfl⟩
    rw [decide_eq_true h3]
    refine Q.r ?_;(repeat (intro b1;refine Q.r ?_))
    refine Q.rd ?_;(repeat (intro b1;refine Q.rd ?_))
    refine Q.r ?_;(repeat (intro b1;refine Q.r ?_))
    exact N.r1 (RV.tmp rfl RV.nil) (Ent.trans (M := oneT u :: roM M :: L) (by exact Go.SX.Ent.go) (Ent.refl _)) ⟨M,u.2,by rw [hE],leM.refl M,ht,by rw [e _ hE];rfl,fun _ => rfl,rfl⟩
   ·rw [if_neg (fun h => h.elim (fun h => h h2) h3)] at hE
    refine Q.r ?_;(repeat (intro b1;refine Q.r ?_))
    refine Q.dgo [true,true] [] [] [0,1,2,3,4,5,6,7,8,9,10] ?_
    refine Q.rd ?_;(repeat (intro b1;refine Q.rd ?_))
    refine Q.r ?_;(repeat (intro b1;refine Q.r ?_))
    refine Q.dgo [true,true] [7,15] [] [0,1,2,3,4,5,6,7,8,9,10,11,12,13,14,15,16,17] ?_
    refine Q.rd ?_;(repeat (intro b1;refine Q.rd ?_))
    refine D.e rfl rfl rfl ?_
    refine S.cr rfl (ContainsP_spec u.2.pa u.2.pc u.2.parts n.who _ ht.p.rd hpl) ?_
    rintro _ _ ⟨rfl,rfl⟩
    rw [decide_eq_true h2]
    refine Q.r ?_;(repeat (intro b1;refine Q.r ?_))
    refine Q.rd ?_;(repeat (intro b1;refine Q.rd ?_))
    refine D.e rfl rfl rfl ?_
    refine S.guard rfl ?_
    refine S.cr rfl (ContainsP_spec u.2.ka u.2.kc u.2.acked n.who _ ht.k.rd hkl) ?_
    rintro _ _ ⟨rfl,rfl⟩
    rw [decide_eq_false h3]
    refine Q.r ?_;(repeat (intro b1;refine Q.r ?_))
    refine Q.rd ?_;(repeat (intro b1;refine Q.rd ?_))
    refine Q.r ?_;(repeat (intro b1;refine Q.r ?_))
    refine Q.dgo [true,true] [6,8] [8] [0,1,2,3,4,5,6,7,8] ?_
    refine Q.rd ?_;(repeat (intro b1;refine Q.rd ?_))
    refine D.e rfl rfl rfl ?_
    refine S.cr rfl (Gput_spec u.2.ka u.2.kc u.2.acked n.who _ ht.k.rd hkl hw.kr) ?_
    rintro _ _ ⟨na,nc,rfl,rfl⟩
    refine opsS_abs na (fun M1 hl1 hs1 => ?_)
    refine Q.r ?_;(repeat (intro b1;refine Q.r ?_))
    refine Q.rd ?_;(repeat (intro b1;refine Q.rd ?_))
    refine Q.dc rfl rfl rfl rfl ?_
    refine Q.r ?_;(repeat (intro b1;refine Q.r ?_))
    refine Q.rd ?_;(repeat (intro b1;refine Q.rd ?_))
    refine Q.r ?_;(repeat (intro b1;refine Q.r ?_))
    rw [← putI_len (l := u.2.acked) (n := n.who)]
    have ht1 := ht.mono hl1
    refine N.r1 (RV.tmp rfl RV.nil) (Ent.trans (M := oneT (u.1,{ u.2 with ka := na,kc := nc,acked := putI u.2.acked n.who }) :: roM M1 :: L) (by exact Go.SX.Ent.go) (Ent.refl _)) ⟨M1,{ u.2 with ka := na,kc := nc,acked := putI u.2.acked n.who },by rw [hE],hl1,?_,by rw [e _ hE,hT];rfl,fun h => absurd hE h,rfl⟩
    exact ⟨ht1.p,ht1.y,(by have h := hs1;rw [← putI_len (l := u.2.acked) (n := n.who)] at h;exact h),ht1.o,ht1.ov,ht1.pl,ht1.yl,by show (putI u.2.acked n.who).length ≤ _;rw [putI_len];omega,ht1.ol⟩
  ·rw [if_pos (.inl h2)] at hE
   refine Q.r ?_;(repeat (intro b1;refine Q.r ?_))
   refine Q.dgo [true,true] [] [] [0,1,2,3,4,5,6,7,8,9,10] ?_
   refine Q.rd ?_;(repeat (intro b1;refine Q.rd ?_))
   refine Q.r ?_;(repeat (intro b1;refine Q.r ?_))
   refine Q.dgo [true,true] [7,15] [] [0,1,2,3,4,5,6,7,8,9,10,11,12,13,14,15,16,17] ?_
   refine Q.rd ?_;(repeat (intro b1;refine Q.rd ?_))
   refine D.e rfl rfl rfl ?_
   refine S.cr rfl (ContainsP_spec u.2.pa u.2.pc u.2.parts n.who _ ht.p.rd hpl) ?_
   rintro _ _ ⟨rfl,rfl⟩
   rw [decide_eq_false h2]
   refine Q.r ?_;(repeat (intro b1;refine Q.r ?_))
   refine Q.rd ?_;(repeat (intro b1;refine Q.rd ?_))
   refine Q.r ?_;(repeat (intro b1;refine Q.r ?_))
   exact N.r1 (RV.tmp rfl RV.nil) (Ent.trans (M := oneT u :: roM M :: L) (by exact Go.SX.Ent.go) (Ent.refl _)) ⟨M,u.2,by rw [hE],leM.refl M,ht,by rw [e _ hE];rfl,fun _ => rfl,rfl⟩
end Go.Proofs.YtiampehfpgcogaaGreatDoor
namespace Go.Proofs.YtiampehfpgcogaaGreatDoor
open Go Go.SX
attribute [local irreducible] swp opsS thenS blockS retS CallsS St Ent YieldS anyS drawS
set_option maxHeartbeats 4000000 in
theorem Gcommit_spec (n : NV) (M : Nat → Option Obj) (p : Nat) (j : JG) (L : List HP) (hw : WG j) (hn : okN M n) (hN : OkN n) (h0 : 0 ≤ n.stamp) (hr : rightN n.abs = true) (hk : n.kind = 17) :
  CallsS Tryz.prog 39 [ptrG p,n.val] (jdgH M p j :: roM M :: L) (appR n.abs M p j L) := by
 unfold appR
 refine calls_jdg fun mt md ts hq => ?_
 refine CallsS.of_body Tryz.func39 rfl rfl rfl ?_
 have hnp := hN.p
 have hE := appGE17 (j := j) hr (n := n.abs) hk
 unfold comE at hE
 refine Q.r ?_;(repeat (intro b1;refine Q.r ?_))
 refine Q.dgo [true,true,true,true,true,true] [] [] [0,1,2,3,4,5,6,7] ?_
 refine Q.rd ?_;(repeat (intro b1;refine Q.rd ?_))
 refine D.y rfl rfl rfl (by kernel_rfl) (Y.lk false rfl rfl (fun w => Tryz.zeroValue96 w)) ?_
 have hlk := lk_tr hq.tr n.txn
 rw [show n.abs.txn = n.txn from rfl] at hE
 by_cases hs0 : n.stamp = 0
 ·rw [if_pos hs0] at hE
  have fin : ∀ {f : Env} {Q : Post},True := trivial
  cases hz : lkL (α := Nat × TV) ts n.txn with
  | some u =>
   dsimp only
   refine Q.rd ?_;(repeat (intro b1;refine Q.rd ?_))
   refine Q.r ?_;(repeat (intro b1;refine Q.r ?_))
   exact N.r1 (RV.tmp rfl RV.nil) (Ent.trans (M := gP p j mt md :: gT mt ts :: trsH ts :: gD md j.done :: roM M :: L) (by exact Go.SX.Ent.go) (jdg_shut hq)) ⟨M,by rw [hE],leM.refl M,by rw [appGno (by rw [hE];decide)]⟩
  | none =>
   dsimp only
   refine Q.rd ?_;(repeat (intro b1;refine Q.rd ?_))
   refine Q.r ?_;(repeat (intro b1;refine Q.r ?_))
   exact N.r1 (RV.tmp rfl RV.nil) (Ent.trans (M := gP p j mt md :: gT mt ts :: trsH ts :: gD md j.done :: roM M :: L) (by exact Go.SX.Ent.go) (jdg_shut hq)) ⟨M,by rw [hE],leM.refl M,by rw [appGno (by rw [hE];decide)]⟩
 rw [if_neg hs0] at hE
 cases hz : lkL (α := Nat × TV) ts n.txn with
 | some u =>
  obtain ⟨k,hkk⟩ := lk_idx hz
  rw [hz] at hlk
  rw [show lkL j.tr n.txn = some u.2.abs from hlk] at hE
  dsimp only at hE ⊢
  have hwt := hw.lk hlk
  have htv := hq.ok _ (List.mem_of_getElem? hkk)
  refine Q.rd ?_;(repeat (intro b1;refine Q.rd ?_))
  refine Q.r ?_;(repeat (intro b1;refine Q.r ?_))
  refine opsS_trs hkk ?_
  by_cases hst : 0 < u.2.stamp
  ·rw [if_pos hst] at hE
   refine Q.r ?_;(repeat (intro b1;refine Q.r ?_))
   exact N.r1 (RV.tmp rfl RV.nil) (Ent.trans (M := gP p j mt md :: gT mt ts :: oneT u :: trsH (ts.eraseIdx k) :: gD md j.done :: roM M :: L) (by exact Go.SX.Ent.go) (jdg_shut1 hkk hq)) ⟨M,by rw [hE],leM.refl M,by rw [appGno (by rw [hE];decide)]⟩
  rw [if_neg hst] at hE
  have hS := appG17 hE hk
  rw [show n.abs.txn = n.txn from rfl,show lkL j.tr n.txn = some u.2.abs from hlk] at hS
  dsimp only [Option.getD_some] at hS
  refine Q.r ?_;(repeat (intro b1;refine Q.r ?_))
  refine Q.dgo [true,false,true,true] [11] [] [0,1,2,3,4,5,6,7,8,9,10,11] ?_
  refine Q.rd ?_;(repeat (intro b1;refine Q.rd ?_))
  refine D.e rfl rfl rfl ?_
  refine S.mu (r := U64) (u := n.stamp) rfl rfl rfl ?_
  refine Q.r ?_;(repeat (intro b1;refine Q.r ?_))
  refine Q.rd ?_;(repeat (intro b1;refine Q.rd ?_))
  refine Q.r ?_;(repeat (intro b1;refine Q.r ?_))
  refine Q.dgo [false,true,true] [10] [10] [0,1,2,3,4,5,6,7,8,9,10] ?_
  refine Q.rd ?_;(repeat (intro b1;refine Q.rd ?_))
  refine Q.dc rfl rfl rfl rfl ?_
  refine Q.r ?_;(repeat (intro b1;refine Q.r ?_))
  refine Q.rd ?_;(repeat (intro b1;refine Q.rd ?_))
  refine Q.r ?_;(repeat (intro b1;refine Q.r ?_))
  have hq2 : GQ' M { j with tr := putL j.tr n.txn { u.2.abs with stamp := n.stamp },done := putL j.done u.2.batch n.stamp,last := max j.last n.stamp } (ts.set k (n.txn,u.1,{ u.2 with stamp := n.stamp })) := hq.upd hw.kt hkk (t' := { u.2 with stamp := n.stamp }) ⟨htv.p,htv.y,htv.k,htv.o,htv.ov,htv.pl,htv.yl,htv.kl,htv.ol⟩ rfl rfl
  refine N.r1 (RV.tmp rfl RV.nil) (Ent.trans (M := gP p { j with tr := putL j.tr n.txn { u.2.abs with stamp := n.stamp },done := putL j.done u.2.batch n.stamp,last := max j.last n.stamp } mt md :: gT mt ts :: oneT (u.1,{ u.2 with stamp := n.stamp }) :: trsH (ts.eraseIdx k) :: gD md (putL j.done u.2.batch n.stamp) :: roM M :: L) (by exact Go.SX.Ent.go) (trs_upd hkk hq2)) ⟨M,by rw [hE],leM.refl M,by rw [hS]⟩
 | none =>
  rw [hz] at hlk
  rw [show lkL j.tr n.txn = none from hlk] at hE
  dsimp only at hE ⊢
  have hS := appG17 hE hk
  rw [show n.abs.txn = n.txn from rfl,show lkL j.tr n.txn = none from hlk] at hS
  dsimp only [Option.getD_none] at hS
  have hput : ∀ v : Nat × TV,putL ts n.txn v = ts ++ [(n.txn,v)] := fun v => putL_none (lk_none hq.tr hlk)
  refine Q.rd ?_;(repeat (intro b1;refine Q.rd ?_))
  refine Q.r ?_;(repeat (intro b1;refine Q.r ?_))
  refine Q.dgo [true] [6,9] [] [0,1,2,3,4,5,6,7,8,9,10] ?_
  refine Q.rd ?_;(repeat (intro b1;refine Q.rd ?_))
  refine D.e rfl rfl rfl ?_
  refine S.cr rfl (CloneP_spec n.pa n.pc n.parts _ hn.rd.p hnp) ?_
  rintro _ _ ⟨pa,pc,rfl,rfl⟩
  refine opsS_abs pa (fun M1 hl1 hs1 => ?_)
  refine Q.r ?_;(repeat (intro b1;refine Q.r ?_))
  refine Q.rd ?_;(repeat (intro b1;refine Q.rd ?_))
  refine Q.r ?_;(repeat (intro b1;refine Q.r ?_))
  refine Q.dgo [true,false,false,true] [7] [] [0,1,2,3,4,5,6,7] ?_
  refine Q.rd ?_;(repeat (intro b1;refine Q.rd ?_))
  refine D.e rfl rfl rfl ?_
  refine S.mu (r := ptT) (u := (b1,(⟨n.txn,n.batch,n.stamp,0,0,pa,pc,n.parts,none,0,[],none,0,[],none,0,[]⟩ : TV))) rfl rfl rfl ?_
  rw [hput]
  refine Q.r ?_;(repeat (intro b1;refine Q.r ?_))
  refine Q.rd ?_;(repeat (intro b1;refine Q.rd ?_))
  refine Q.r ?_;(repeat (intro b1;refine Q.r ?_))
  refine Q.dgo [true,true,true] [11] [] [0,1,2,3,4,5,6,7,8,9,10,11] ?_
  refine Q.rd ?_;(repeat (intro b1;refine Q.rd ?_))
  refine D.e rfl rfl rfl ?_
  refine S.mu (g := U64) (q := n.batch) (r := U64) (u := n.stamp) rfl rfl rfl ?_
  refine Q.r ?_;(repeat (intro b1;refine Q.r ?_))
  refine Q.rd ?_;(repeat (intro b1;refine Q.rd ?_))
  refine Q.r ?_;(repeat (intro b1;refine Q.r ?_))
  refine Q.dgo [true,true,true] [10] [10] [0,1,2,3,4,5,6,7,8,9,10] ?_
  refine Q.rd ?_;(repeat (intro b1;refine Q.rd ?_))
  refine Q.dc rfl rfl rfl rfl ?_
  refine Q.r ?_;(repeat (intro b1;refine Q.r ?_))
  refine Q.rd ?_;(repeat (intro b1;refine Q.rd ?_))
  refine Q.r ?_;(repeat (intro b1;refine Q.r ?_))
  have hq2 : GQ' M1 { j with tr := putL j.tr n.txn { comT n.abs with stamp := n.stamp },done := putL j.done n.batch n.stamp,last := max j.last n.stamp } (ts ++ [(n.txn,b1,⟨n.txn,n.batch,n.stamp,0,0,pa,pc,n.parts,none,0,[],none,0,[],none,0,[]⟩)]) := (hq.mono hl1).new hlk ⟨hs1,SlM.nil0,SlM.nil0,SlM.nil0,fun o ho => (by cases ho),hnp,Nat.zero_le _,Nat.zero_le _,Nat.zero_le _⟩ rfl rfl
  refine N.r1 (RV.tmp rfl RV.nil) (Ent.trans (M := oneT (b1,(⟨n.txn,n.batch,n.stamp,0,0,pa,pc,n.parts,none,0,[],none,0,[],none,0,[]⟩ : TV)) :: trsH ts :: gP p { j with tr := putL j.tr n.txn { comT n.abs with stamp := n.stamp },done := putL j.done n.batch n.stamp,last := max j.last n.stamp } mt md :: gT mt (ts ++ [(n.txn,b1,⟨n.txn,n.batch,n.stamp,0,0,pa,pc,n.parts,none,0,[],none,0,[],none,0,[]⟩)]) :: gD md (putL j.done n.batch n.stamp) :: roM M1 :: L) (by exact Go.SX.Ent.go) (Ent.trans (trs_new ts (n.txn,b1,_)) (Ent.trans (by exact Go.SX.Ent.go) (jdg_shut (p := p) (mt := mt) (md := md) (L := roM M1 :: L) hq2)))) ⟨M1,by rw [hE],hl1,by rw [hS]⟩
theorem del_erase {ts : List TB} (hk : keysOK ts) {k : Nat} {u : TB} (h : ts[k]? = some u) : delL ts u.1 = ts.eraseIdx k := by
 have hkl : k < ts.length := (List.getElem?_eq_some_iff.1 h).1
 have he := (List.getElem?_eq_some_iff.1 h).2
 rcases keyCase ts hk u.1 with ⟨p,a,q,hpq,hp,hqn⟩ | hn
 ·have hkp : k = p.length := by
   rw [hpq] at h
   rcases Nat.lt_trichotomy k p.length with h1 | h1 | h1
   ·rw [List.getElem?_append_left h1] at h
    exact absurd rfl (hp _ (List.mem_of_getElem? h))
   ·exact h1
   ·rw [List.getElem?_append_right (by omega)] at h
    obtain ⟨d,hd⟩ : ∃ d,k - p.length = d + 1 := ⟨k - p.length - 1,by omega⟩
    rw [hd,List.getElem?_cons_succ] at h
    exact absurd rfl (hqn _ (List.mem_of_getElem? h))
  rw [hpq,delL_mid hp hqn,hkp,List.eraseIdx_append_of_length_le (Nat.le_refl _),Nat.sub_self,List.eraseIdx_cons_zero]
 ·exact absurd rfl (hn u (List.mem_of_getElem? h))
theorem ts_keys {ts : List TB} {tr : List (Int × TR)} (h : ts.map (fun u => (u.1,u.2.2.abs)) = tr) (hk : keysOK tr) : keysOK ts := by
 have : tr.map (·.1) = ts.map (·.1) := by rw [← h,List.map_map];rfl
 unfold keysOK at *
 rw [← this];exact hk
theorem GQ'.del {M : Nat → Option Obj} {j j' : JG} {ts : List TB} (h : GQ' M j ts) {x : Int} (hs : j'.shards = j.shards) (htr : j'.tr = delL j.tr x) : GQ' M j' (delL ts x) :=
 ⟨by rw [hs];exact h.s1,by rw [hs];exact h.s2,by rw [htr,← h.tr];exact delL_map (fun u : Nat × TV => u.2.abs) ts x,fun u hu => h.ok u (List.mem_filter.1 hu).1⟩
set_option maxHeartbeats 4000000 in
theorem GApply_spec' (n : NV) (M : Nat → Option Obj) (p : Nat) (j : JG) (L : List HP) (hw : WG j) (hn : okN M n) (hN : OkN n) (hT : TabM M) (hu : NumN n) (hu2 : n.txn < 18446744073709551616)
  (hR : n.kind = 16 → rightN n.abs = true → ∀ L : List HP,CallsS Tryz.prog 37 [ptrG p,.int .u64 n.mark] (jdgH M p j :: roM M :: L) (appR n.abs M p j L)) :
  CallsS Tryz.prog 13 [ptrG p,n.val] (jdgH M p j :: roM M :: L) (appR n.abs M p j L) := by
 unfold appR at *
 refine CallsS.of_body Tryz.func13 rfl rfl rfl ?_
 refine Q.r ?_;(repeat (intro b1;refine Q.r ?_))
 refine S.cr rfl (NRight_spec n _ hn.rd hN hT.rd hu.kind) ?_
 rintro _ _ ⟨rfl,rfl⟩
 cases hr : rightN n.abs with
 | false =>
  have hE : appGE j n.abs = 4 := by unfold appGE;rw [if_pos hr]
  refine Q.r ?_;(repeat (intro b1;refine Q.r ?_))
  exact N.r1 (RV.tmp rfl RV.nil) (show Ent _ (jdgH M p j :: roM M :: L) by exact Go.SX.Ent.go) ⟨M,by rw [hE],leM.refl M,by rw [appGno (by rw [hE];decide)]⟩
 | true =>
 refine Q.r ?_;(repeat (intro b1;refine Q.r ?_))
 refine swp_jdg p (fun mt md ts hq => ?_)
 have hlk := lk_tr hq.tr n.txn
 revert b1
 intro b3
 refine swp_cutT (σ := Unit) (fun _ => [(0,ptrG p),(3,.pointer (some ⟨b3,0,none⟩)),(5,match lkL (α := Nat × TV) ts n.txn with | none => .pointer none | some u => ptT u)])
  (fun _ => pt b3 (cl n.cells 52) :: gP p j mt md :: gT mt ts :: trsH ts :: gD md j.done :: roM M :: L) (fun _ => True) ?_ ?_
 ·refine Q.dgo [true,true,true,true,true,true] [] [] [0,1,2,3,4,5,6,7] ?_
  refine Q.rd ?_;(repeat (intro b1;refine Q.rd ?_))
  refine D.y rfl rfl rfl (by kernel_rfl) (Y.lk false rfl rfl (fun w => Tryz.zeroValue96 w)) ?_
  cases hz : lkL (α := Nat × TV) ts n.txn with
  | some u =>
   dsimp only
   refine Q.rd ?_;(repeat (intro b1;refine Q.rd ?_))
   exact N.tn ⟨(),⟨rfl,rfl,rfl,trivial⟩,by (try dsimp only);exact Go.SX.Ent.go,trivial⟩
  | none =>
   dsimp only
   refine Q.rd ?_;(repeat (intro b1;refine Q.rd ?_))
   exact N.tn ⟨(),⟨rfl,rfl,rfl,trivial⟩,by (try dsimp only);exact Go.SX.Ent.go,trivial⟩
 rintro _ _
 by_cases h16 : n.kind = 16
 ·refine Q.r ?_;(repeat (intro b1;refine Q.r ?_))
  refine opsS_ent (gclose (p := p) (mt := mt) (md := md) (ts := ts) hq) ?_
  refine S.cg p rfl (hR h16 hr _) ?_
  rintro _ _ ⟨M1,rfl,hl,rfl⟩
  refine Q.r ?_;(repeat (intro b1;refine Q.r ?_))
  exact N.r1 (RV.tmp rfl RV.nil) (show Ent _ (jdgH M1 p (appG j n.abs) :: roM M1 :: L) by exact Go.SX.Ent.go) ⟨M1,rfl,hl,rfl⟩
 by_cases h19 : n.kind = 19
 ·refine Q.r ?_;(repeat (intro b1;refine Q.r ?_))
  refine opsS_ent (gclose (p := p) (mt := mt) (md := md) (ts := ts) hq) ?_
  refine S.cg p rfl (Gbegin_spec n M p j _ hw hn hN hu.txn hu2 hr h19) ?_
  rintro _ _ ⟨M1,rfl,hl,rfl⟩
  refine Q.r ?_;(repeat (intro b1;refine Q.r ?_))
  exact N.r1 (RV.tmp rfl RV.nil) (show Ent _ (jdgH M1 p (appG j n.abs) :: roM M1 :: L) by exact Go.SX.Ent.go) ⟨M1,rfl,hl,rfl⟩
 by_cases h17 : n.kind = 17
 ·refine Q.r ?_;(repeat (intro b1;refine Q.r ?_))
  refine opsS_ent (gclose (p := p) (mt := mt) (md := md) (ts := ts) hq) ?_
  refine S.cg p rfl (Gcommit_spec n M p j _ hw hn hN hu.stamp hr h17) ?_
  rintro _ _ ⟨M1,rfl,hl,rfl⟩
  refine Q.r ?_;(repeat (intro b1;refine Q.r ?_))
  exact N.r1 (RV.tmp rfl RV.nil) (show Ent _ (jdgH M1 p (appG j n.abs) :: roM M1 :: L) by exact Go.SX.Ent.go) ⟨M1,rfl,hl,rfl⟩
 have hE0 : ∀ E,(¬ (n.kind = 20 ∨ n.kind = 21 ∨ n.kind = 18 ∨ n.kind = 22) → E = 4) → (n.kind = 20 ∨ n.kind = 21 ∨ n.kind = 18 ∨ n.kind = 22 → lkL j.tr n.txn = none → E = 6) → True := fun _ _ _ => trivial
 by_cases hk : n.kind = 20 ∨ n.kind = 21 ∨ n.kind = 18 ∨ n.kind = 22
 ·cases hz : lkL (α := Nat × TV) ts n.txn with
  | none =>
   rw [hz] at hlk
   have hlk1 : lkL j.tr n.txn = none := hlk
   have hE : appGE j n.abs = 6 := by
    unfold appGE
    rw [if_neg (by rw [hr];decide),if_neg (show ¬ n.abs.kind = 16 from h16),if_neg (show ¬ n.abs.kind = 19 from h19),if_neg (show ¬ n.abs.kind = 17 from h17),if_pos (show n.abs.kind = 20 ∨ n.abs.kind = 21 ∨ n.abs.kind = 18 ∨ n.abs.kind = 22 from hk),show lkL j.tr n.abs.txn = none from hlk1]
   have fin : Ent (pt b3 (cl n.cells 52) :: gP p j mt md :: gT mt ts :: trsH ts :: gD md j.done :: roM M :: L) (jdgH M p j :: roM M :: L) := Ent.drop (jdg_shut hq)
   dsimp only
   rcases hk with hk | hk | hk | hk
   ·refine Q.r ?_;(repeat (intro b1;refine Q.r ?_))
    exact N.r1 (RV.tmp rfl RV.nil) fin ⟨M,by rw [hE],leM.refl M,by rw [appGno (by rw [hE];decide)]⟩
   ·refine Q.r ?_;(repeat (intro b1;refine Q.r ?_))
    exact N.r1 (RV.tmp rfl RV.nil) fin ⟨M,by rw [hE],leM.refl M,by rw [appGno (by rw [hE];decide)]⟩
   ·refine Q.r ?_;(repeat (intro b1;refine Q.r ?_))
    exact N.r1 (RV.tmp rfl RV.nil) fin ⟨M,by rw [hE],leM.refl M,by rw [appGno (by rw [hE];decide)]⟩
   ·refine Q.r ?_;(repeat (intro b1;refine Q.r ?_))
    exact N.r1 (RV.tmp rfl RV.nil) fin ⟨M,by rw [hE],leM.refl M,by rw [appGno (by rw [hE];decide)]⟩
  | some u =>
   obtain ⟨k,hkk⟩ := lk_idx hz
   rw [hz] at hlk
   have hlk1 : lkL j.tr n.txn = some u.2.abs := hlk
   have hwt := hw.lk hlk1
   have htv := hq.ok _ (List.mem_of_getElem? hkk)
   dsimp only
   by_cases hk1 : n.kind = 20 ∨ n.kind = 21
   ·have hE := appGEw (j := j) hr (show n.abs.kind = 20 ∨ n.abs.kind = 21 from hk1)
    rw [show lkL j.tr n.abs.txn = some u.2.abs from hlk1] at hE
    dsimp only at hE
    have key : ∀ (L2 : List HP) (r : Value) (M1 : Nat → Option Obj) (t' : TV),r = .int .i64 (saidE u.2.abs n.abs) → leM M M1 → okT M1 t' → t'.abs = (if saidE u.2.abs n.abs = 0 then saidT u.2.abs n.abs else u.2.abs) → (saidE u.2.abs n.abs ≠ 0 → t' = u.2) →
      Ent (oneT (u.1,t') :: roM M1 :: pt b3 (cl n.cells 52) :: gP p j mt md :: gT mt ts :: trsH (ts.eraseIdx k) :: gD md j.done :: L2) (jdgH M1 p (appG j n.abs) :: roM M1 :: L2) := by
     intro L2 r M1 t' _ hl ht hta hne
     by_cases hs : saidE u.2.abs n.abs = 0
     ·rw [if_pos hs] at hta
      rw [appGw (by rw [hE];exact hs) (show n.abs.kind = 20 ∨ n.abs.kind = 21 from hk1) (show lkL j.tr n.abs.txn = some u.2.abs from hlk1)]
      have hq2 : GQ' M1 { j with tr := putL j.tr n.abs.txn (saidT u.2.abs n.abs) } (ts.set k (n.txn,u.1,t')) := (hq.mono hl).upd hw.kt hkk ht rfl (by rw [hta])
      exact Ent.trans (M := gP p { j with tr := putL j.tr n.abs.txn (saidT u.2.abs n.abs) } mt md :: gT mt ts :: oneT (u.1,t') :: trsH (ts.eraseIdx k) :: gD md j.done :: roM M1 :: L2) (by exact Go.SX.Ent.go) (trs_upd hkk hq2)
     ·rw [appGno (by rw [hE];exact hs),hne hs]
      exact Ent.trans (M := gP p j mt md :: gT mt ts :: oneT u :: trsH (ts.eraseIdx k) :: gD md j.done :: roM M1 :: L2) (by exact Go.SX.Ent.go) (jdg_shut1 hkk (hq.mono hl))
    rcases hk1 with hk1 | hk1
    ·refine Q.r ?_;(repeat (intro b1;refine Q.r ?_))
     refine opsS_trs hkk ?_
     refine S.c2 (A := oneT u) (B := roM M) rfl (Gsaid_spec n u n.txn M _ htv hwt (.inl hk1)) ?_
     rintro _ _ ⟨M1,t',rfl,hl,ht,hta,hne,rfl⟩
     refine Q.r ?_;(repeat (intro b1;refine Q.r ?_))
     exact N.r1 (RV.tmp rfl RV.nil) (Ent.trans (by exact Go.SX.Ent.go) (key L (.int .i64 (saidE u.2.abs n.abs)) M1 t' rfl hl ht hta hne)) ⟨M1,by rw [hE],hl,rfl⟩
    ·refine Q.r ?_;(repeat (intro b1;refine Q.r ?_))
     refine opsS_trs hkk ?_
     refine S.c2 (A := oneT u) (B := roM M) rfl (Gsaid_spec n u n.txn M _ htv hwt (.inr hk1)) ?_
     rintro _ _ ⟨M1,t',rfl,hl,ht,hta,hne,rfl⟩
     refine Q.r ?_;(repeat (intro b1;refine Q.r ?_))
     exact N.r1 (RV.tmp rfl RV.nil) (Ent.trans (by exact Go.SX.Ent.go) (key L (.int .i64 (saidE u.2.abs n.abs)) M1 t' rfl hl ht hta hne)) ⟨M1,by rw [hE],hl,rfl⟩
   ·have hk2 : n.kind = 18 ∨ n.kind = 22 := by omega
    have hE := appGEe (j := j) hr (show n.abs.kind = 18 ∨ n.abs.kind = 22 from hk2)
    rw [show lkL j.tr n.abs.txn = some u.2.abs from hlk1,show n.abs.kind = n.kind from rfl] at hE
    dsimp only at hE
    rcases hk2 with hk2 | hk2
    ·by_cases hst : ¬ 0 < u.2.stamp
     ·have hE1 : appGE j n.abs = 10 := by rw [hE,hk2,if_pos (by simp [hst])]
      refine Q.r ?_;(repeat (intro b1;refine Q.r ?_))
      refine swp_trs hkk ?_
      refine Q.dgo [true,false,true] [] [] [0,1,2,3,4,5,6,7,8,9,10] ?_
      refine Q.rd ?_;(repeat (intro b1;refine Q.rd ?_))
      refine Q.r ?_;(repeat (intro b1;refine Q.r ?_))
      exact N.r1 (RV.tmp rfl RV.nil) (Ent.trans (M := gP p j mt md :: gT mt ts :: oneT u :: trsH (ts.eraseIdx k) :: gD md j.done :: roM M :: L) (by exact Go.SX.Ent.go) (jdg_shut1 hkk hq)) ⟨M,by rw [hE1],leM.refl M,by rw [appGno (by rw [hE1];decide)]⟩
     ·have hE1 : appGE j n.abs = 0 := by rw [hE,hk2,if_neg (by simp [hst])]
      have hS := appGe hE1 (show n.abs.kind = 18 ∨ n.abs.kind = 22 from .inl hk2)
      refine Q.r ?_;(repeat (intro b1;refine Q.r ?_))
      refine swp_trs hkk ?_
      refine Q.dgo [true,false,true] [] [] [0,1,2,3,4,5,6,7,8,9,10] ?_
      refine Q.rd ?_;(repeat (intro b1;refine Q.rd ?_))
      refine Q.r ?_;(repeat (intro b1;refine Q.r ?_))
      refine Q.dgo [false,true,false,true] [6] [] [0,1,2,3,4,5,6] ?_
      refine Q.rd ?_;(repeat (intro b1;refine Q.rd ?_))
      refine D.e rfl rfl rfl ?_
      refine S.dl (g := U64) (q := n.txn) rfl rfl ?_
      refine Q.r ?_;(repeat (intro b1;refine Q.r ?_))
      refine Q.rd ?_;(repeat (intro b1;refine Q.rd ?_))
      refine Q.r ?_;(repeat (intro b1;refine Q.r ?_))
      have hq2 : GQ' M { j with tr := delL j.tr n.txn } (delL ts n.txn) := hq.del rfl rfl
      refine N.r1 (RV.tmp rfl RV.nil) (Ent.trans (M := gP p { j with tr := delL j.tr n.txn } mt md :: gT mt (delL ts n.txn) :: trsH (delL ts n.txn) :: gD md j.done :: roM M :: L) ?_ (jdg_shut hq2)) ⟨M,by rw [hE1],leM.refl M,by rw [hS]⟩
      rw [show trsH (delL ts n.txn) = trsH (ts.eraseIdx k) from congrArg trsH (del_erase (ts_keys hq.tr hw.kt) hkk)]
      exact Go.SX.Ent.go
    ·by_cases hst : 0 < u.2.stamp
     ·have hE1 : appGE j n.abs = 10 := by rw [hE,hk2,if_pos (by simp [hst])]
      refine Q.r ?_;(repeat (intro b1;refine Q.r ?_))
      refine swp_trs hkk ?_
      refine Q.dgo [true,false,true] [] [] [0,1,2,3,4,5,6,7,8,9,10] ?_
      refine Q.rd ?_;(repeat (intro b1;refine Q.rd ?_))
      refine Q.r ?_;(repeat (intro b1;refine Q.r ?_))
      exact N.r1 (RV.tmp rfl RV.nil) (Ent.trans (M := gP p j mt md :: gT mt ts :: oneT u :: trsH (ts.eraseIdx k) :: gD md j.done :: roM M :: L) (by exact Go.SX.Ent.go) (jdg_shut1 hkk hq)) ⟨M,by rw [hE1],leM.refl M,by rw [appGno (by rw [hE1];decide)]⟩
     ·have hE1 : appGE j n.abs = 0 := by rw [hE,hk2,if_neg (by simp [hst])]
      have hS := appGe hE1 (show n.abs.kind = 18 ∨ n.abs.kind = 22 from .inr hk2)
      refine Q.r ?_;(repeat (intro b1;refine Q.r ?_))
      refine swp_trs hkk ?_
      refine Q.dgo [true,false,true] [] [] [0,1,2,3,4,5,6,7,8,9,10] ?_
      refine Q.rd ?_;(repeat (intro b1;refine Q.rd ?_))
      refine Q.r ?_;(repeat (intro b1;refine Q.r ?_))
      refine Q.dgo [false,true,false,true] [6] [] [0,1,2,3,4,5,6] ?_
      refine Q.rd ?_;(repeat (intro b1;refine Q.rd ?_))
      refine D.e rfl rfl rfl ?_
      refine S.dl (g := U64) (q := n.txn) rfl rfl ?_
      refine Q.r ?_;(repeat (intro b1;refine Q.r ?_))
      refine Q.rd ?_;(repeat (intro b1;refine Q.rd ?_))
      refine Q.r ?_;(repeat (intro b1;refine Q.r ?_))
      have hq2 : GQ' M { j with tr := delL j.tr n.txn } (delL ts n.txn) := hq.del rfl rfl
      refine N.r1 (RV.tmp rfl RV.nil) (Ent.trans (M := gP p { j with tr := delL j.tr n.txn } mt md :: gT mt (delL ts n.txn) :: trsH (delL ts n.txn) :: gD md j.done :: roM M :: L) ?_ (jdg_shut hq2)) ⟨M,by rw [hE1],leM.refl M,by rw [hS]⟩
      rw [show trsH (delL ts n.txn) = trsH (ts.eraseIdx k) from congrArg trsH (del_erase (ts_keys hq.tr hw.kt) hkk)]
      exact Go.SX.Ent.go
 ·have hE : appGE j n.abs = 4 := by
   unfold appGE
   rw [if_neg (by rw [hr];decide),if_neg (show ¬ n.abs.kind = 16 from h16),if_neg (show ¬ n.abs.kind = 19 from h19),if_neg (show ¬ n.abs.kind = 17 from h17),if_neg (show ¬ (n.abs.kind = 20 ∨ n.abs.kind = 21 ∨ n.abs.kind = 18 ∨ n.abs.kind = 22) from hk)]
  have k1 : ¬ n.kind = 20 := fun h => hk (.inl h)
  have k2 : ¬ n.kind = 21 := fun h => hk (.inr (.inl h))
  have k3 : ¬ n.kind = 18 := fun h => hk (.inr (.inr (.inl h)))
  have k4 : ¬ n.kind = 22 := fun h => hk (.inr (.inr (.inr h)))
  refine Q.r ?_;(repeat (intro b1;refine Q.r ?_))
  exact N.r1 (RV.tmp rfl RV.nil) (Ent.drop (jdg_shut hq)) ⟨M,by rw [hE],leM.refl M,by rw [appGno (by rw [hE];decide)]⟩
end Go.Proofs.YtiampehfpgcogaaGreatDoor
namespace Go.Proofs.YtiampehfpgcogaaGreatDoor
open Go Go.SX
theorem partsV_get {l : List Int} (h : partsV l = true) {k : Nat} (hk : k < l.length) : 0 ≤ l[k] ∧ l[k] < 16 ∧ (∀ (h0 : 0 < k),l[k - 1]'(by omega) < l[k]) := by
 unfold partsV at h
 have := List.all_eq_true.1 h k (List.mem_range.2 hk)
 unfold okP at this
 have e : ∀ i (hi : i < l.length),l.getD i 0 = l[i] := fun i hi => by simp [List.getD,hi]
 rw [e k hk] at this
 simp only [Bool.and_eq_true,Bool.or_eq_true,decide_eq_true_eq] at this
 refine ⟨this.1.1,this.1.2,fun h0 => ?_⟩
 rcases this.2 with h1 | h1
 ·omega
 ·rwa [e (k - 1) (by omega)] at h1
theorem partsV_ok {l : List Int} (h : partsV l = true) : Rise l ∧ ∀ q ∈ l,0 ≤ q ∧ q < 16 := by
 constructor
 ·refine List.pairwise_iff_getElem.2 ?_
  intro i j hi hj hij
  induction j with
  | zero => omega
  | succ j ih =>
   have hs := (partsV_get h hj).2.2 (by omega)
   simp only [Nat.add_sub_cancel] at hs
   by_cases he : i = j
   ·subst he;exact hs
   ·exact Int.lt_trans (ih (by omega) (by omega)) hs
 ·intro q hq
  obtain ⟨k,hk,rfl⟩ := List.getElem_of_mem hq
  exact ⟨(partsV_get h hk).1,(partsV_get h hk).2.1⟩
theorem right_parts {n : NA} (h : rightN n = true) : Rise n.parts ∧ (∀ q ∈ n.parts,0 ≤ q ∧ q < 16) ∧ n.parts.length ≤ 4 := by
 unfold rightN boundN at h
 simp only [Bool.and_eq_true,Bool.not_eq_true',Bool.or_eq_false_iff,decide_eq_false_iff_not] at h
 have := partsV_ok h.2.1.1.2
 exact ⟨this.1,this.2,by omega⟩
theorem right_max {n : NA} (h : rightN n = true) : n.stamp ≤ 1099511627776 ∧ n.mark ≤ 1099511627776 := by
 unfold rightN boundN at h
 simp only [Bool.and_eq_true,Bool.not_eq_true',Bool.or_eq_false_iff,decide_eq_false_iff_not] at h
 omega
theorem putL_memG {κ α : Type} [DecidableEq κ] {m : List (κ × α)} {k : κ} {a : α} {x : κ × α} (h : x ∈ putL m k a) : x ∈ m ∨ x = (k,a) := by
 unfold putL at h
 split at h
 ·obtain ⟨u,hu,rfl⟩ := List.mem_map.1 h
  split
  ·exact .inr rfl
  ·exact .inl hu
 ·rcases List.mem_append.1 h with h | h
  ·exact .inl h
  ·exact .inr (List.mem_singleton.1 h)
theorem WG.app {j : JG} (h : WG j) {n : NA} (h0 : 0 ≤ n.txn) (hst : 0 ≤ n.stamp) (hmk : 0 ≤ n.mark) : WG (appG j n) := by
 by_cases hE : ¬ appGE j n = 0
 ·rw [appGno hE];exact h
 have hE : appGE j n = 0 := Classical.not_not.1 hE
 cases hr : rightN n with
 | false => unfold appGE at hE;rw [if_pos hr] at hE;cases hE
 | true =>
 have hb := h.b
 have hp := right_parts hr
 have hm := right_max hr
 have ho := (right_opsG hr).2
 by_cases h16 : n.kind = 16
 ·rw [appG16 hE h16]
  have hmj : j.epoch < n.mark := by
   rw [appGE16 hr h16] at hE
   split at hE
   ·cases hE
   ·omega
  exact ⟨⟨hmk,hm.2,Int.le_refl _,(show (0 : Int) < 1048576 by decide),hb.l0,hb.l1,hb.d1,hb.d2⟩,(List.filter_sublist.map _).nodup h.kt,h.kd,fun u hu => h.tx u (List.mem_filter.1 hu).1,h.dp⟩
 by_cases h19 : n.kind = 19
 ·rw [appG19 hE h19]
  refine ⟨⟨hb.e0,hb.e1,?_,?_,hb.l0,hb.l1,hb.d1,hb.d2⟩,putL_ok h.kt _ _,h.kd,fun u hu => ?_,h.dp⟩
  ·have := hb.s0
   dsimp only
   split <;> omega
  ·have := hb.s1
   dsimp only
   split <;> omega
  ·rcases putL_memG hu with hu | rfl
   ·exact h.tx u hu
   ·exact ⟨rfl,h0,Int.le_refl _,hp.1,hp.2.2,hp.2.1,List.Pairwise.nil,fun _ h => (by cases h),List.Pairwise.nil,fun _ h => (by cases h),ho⟩
 by_cases h17 : n.kind = 17
 ·rw [appG17 hE h17]
  have hne : n.stamp ≠ 0 := by
   rw [appGE17 hr h17] at hE
   unfold comE at hE
   intro e
   rw [if_pos e] at hE;cases hE
  refine ⟨⟨hb.e0,hb.e1,hb.s0,hb.s1,?_,?_,hb.d1,hb.d2⟩,putL_ok h.kt _ _,putL_ok h.kd _ _,fun u hu => ?_,fun u hu => ?_⟩
  ·have := hb.l0;dsimp only;omega
  ·have := hb.l1;dsimp only;omega
  ·rcases putL_memG hu with hu | rfl
   ·exact h.tx u hu
   ·cases hz : lkL j.tr n.txn with
    | some t =>
     have ht := h.lk hz
     exact ⟨ht.xx,ht.x0,hst,ht.r,ht.pl,ht.pb,ht.yr,ht.ys,ht.kr,ht.ks,ht.ol⟩
    | none => exact ⟨rfl,h0,hst,hp.1,hp.2.2,hp.2.1,List.Pairwise.nil,fun _ h => (by cases h),List.Pairwise.nil,fun _ h => (by cases h),Nat.zero_le _⟩
  ·rcases putL_memG hu with hu | rfl
   ·exact h.dp u hu
   ·dsimp only;omega
 by_cases hw : n.kind = 20 ∨ n.kind = 21
 ·have hE2 := hE
  rw [appGEw hr hw] at hE2
  cases hz : lkL j.tr n.txn with
  | none => rw [hz] at hE2;cases hE2
  | some t =>
   rw [hz] at hE2
   dsimp only at hE2
   have ht := h.lk hz
   rw [appGw hE hw hz]
   refine ⟨⟨hb.e0,hb.e1,hb.s0,hb.s1,hb.l0,hb.l1,hb.d1,hb.d2⟩,putL_ok h.kt _ _,h.kd,fun u hu => ?_,h.dp⟩
   rcases putL_memG hu with hu | rfl
   ·exact h.tx u hu
   ·unfold saidE at hE2
    by_cases hne : decide (0 < t.stamp) ≠ decide (n.kind = 21)
    ·rw [if_pos hne] at hE2;cases hE2
    ·rw [if_neg hne] at hE2
     by_cases hno : n.who ∉ t.parts ∨ n.who ∈ (if n.kind = 21 then t.acked else t.yes)
     ·rw [if_pos hno] at hE2;cases hE2
     ·skip
      have hpp : n.who ∈ t.parts := Classical.not_not.1 fun e => hno (.inl e)
      have hnn : n.who ∉ (if n.kind = 21 then t.acked else t.yes) := fun e => hno (.inr e)
      unfold saidT
      by_cases h21 : n.kind = 21
      ·rw [if_pos h21] at hnn ⊢
       exact ⟨ht.xx,ht.x0,ht.st,ht.r,ht.pl,ht.pb,ht.yr,ht.ys,putI_rise ht.kr hnn,fun q hq => (by rcases putI_mem.1 hq with rfl | hq;exact hpp;exact ht.ks q hq),ht.ol⟩
      ·rw [if_neg h21] at hnn ⊢
       exact ⟨ht.xx,ht.x0,ht.st,ht.r,ht.pl,ht.pb,putI_rise ht.yr hnn,fun q hq => (by rcases putI_mem.1 hq with rfl | hq;exact hpp;exact ht.ys q hq),ht.kr,ht.ks,ht.ol⟩
 ·by_cases he : n.kind = 18 ∨ n.kind = 22
  ·rw [appGe hE he]
   exact ⟨⟨hb.e0,hb.e1,hb.s0,hb.s1,hb.l0,hb.l1,hb.d1,hb.d2⟩,delL_ok h.kt _,h.kd,fun u hu => h.tx u (List.mem_filter.1 hu).1,h.dp⟩
  ·unfold appGE at hE
   rw [if_neg (by rw [hr];decide),if_neg h16,if_neg h19,if_neg h17,if_neg (by omega)] at hE
   cases hE
theorem WG.zero {s d : Int} (h1 : 1 ≤ d) (h2 : d ≤ 8) : WG (JG0 s d) :=
 ⟨⟨Int.le_refl _,(show (0 : Int) ≤ 1099511627776 by decide),Int.le_refl _,(show (0 : Int) < 1048576 by decide),Int.le_refl _,(show (0 : Int) ≤ 1099511627776 by decide),h1,h2⟩,List.nodup_nil,List.nodup_nil,fun _ h => (by cases h),fun _ h => (by cases h)⟩
theorem GI.zero : GI (JG0 3 2) 0 (fun _ _ => False) [] :=
 ⟨rfl,rfl,Int.le_refl _,Int.le_refl _,Int.le_refl _,Int.le_refl _,List.nodup_nil,List.nodup_nil,List.nodup_nil,fun _ _ h => (by cases h),fun _ _ h => (by cases h),fun _ _ h => (by cases h),fun _ _ _ _ h => (by cases h)⟩
end Go.Proofs.YtiampehfpgcogaaGreatDoor
namespace Go.Proofs.YtiampehfpgcogaaGreatDoor
open Go Go.SX
attribute [local irreducible] swp opsS thenS blockS retS CallsS St Ent YieldS anyS drawS
section
variable {n : Nat} {ops rest : List Oper} {cd : Code} {Q : Post} {f : Env} {L L0 : List HP} {M : Nat → Option Obj}
theorem S.cmG {d : Tmp} {ty : TypeId} {pos : String} {af : Array Edge} {g : FuncId} {xs : Array Operand} {ats : Array TypeId} {args : List Value} {R : Value → List HP → Prop} [hm : PickM L M L0] [he : Enters Tryz.prog g] (hx : argsL f xs.toList = some args) (hc : CallsS Tryz.prog g args (roM M :: L0) R) (hk : ∀ v L',R v L' → opsS Tryz.prog n ops rest Q (upd f d v) L') :
  opsS Tryz.prog n ops (⟨some d,.call ⟨.value (.func g),xs,ats⟩,ty,pos,af,none⟩ :: rest) Q f L := opsS_ent hm.ent (S.cr hx hc hk)
end
theorem OkN.right {n : NV} (h : rightN n.abs = true) : OkN n := by
 have hv : ∀ v : List Int,bareV v = true → v.length ≤ 1000000 := by
  intro v hv
  unfold bareV rightV at hv
  simp only [Bool.or_eq_true,Bool.and_eq_true,decide_eq_true_eq] at hv
  omega
 unfold rightN boundN at h
 simp only [Bool.and_eq_true,Bool.not_eq_true',Bool.or_eq_false_iff,decide_eq_false_iff_not,Bool.not_eq_false'] at h
 obtain ⟨_,⟨⟨⟨⟨_,⟨⟨h1,h2⟩,h3⟩,h4⟩,_⟩,h5⟩,h6⟩⟩ := h
 have h1' : n.parts.length ≤ 1000000 := by
  have h : ¬ 4 < n.parts.length := h1
  omega
 have h2' : n.ops.length ≤ 1000000 := by
  have h : ¬ 16 < (n.ops.map OV.abs).length := h2
  rw [List.length_map] at h;omega
 have h3' : n.hits.length ≤ 1000000 := by
  have h : ¬ 16 < (n.hits.map HV.abs).length := h3
  rw [List.length_map] at h;omega
 refine ⟨h1',h2',fun o ho => ?_,hv _ h4,h3',fun o ho => ?_⟩
 ·have := List.any_eq_false.1 h5 o.abs (List.mem_map_of_mem (f := OV.abs) ho)
  unfold badOp at this
  simp only [Bool.or_eq_true,decide_eq_true_eq,Bool.not_eq_true',not_or,Bool.not_eq_false] at this
  exact hv _ this.2
 ·have := List.any_eq_false.1 h6 o.abs (List.mem_map_of_mem (f := HV.abs) ho)
  unfold badHit at this
  simp only [Bool.or_eq_true,decide_eq_true_eq,Bool.not_eq_true',not_or,Bool.not_eq_false] at this
  exact hv _ (by unfold bareV;rw [this.2];simp)
theorem NumN.right {n : NV} (h : rightN n.abs = true) (hz : NZ n.abs) : NumN n := by
 have hk : 1 ≤ n.kind ∧ n.kind ≤ 22 := by
  unfold rightN at h
  simp only [Bool.and_eq_true,decide_eq_true_eq] at h
  exact h.1.1
 exact ⟨by omega,hz.t0,hz.s,hz.m,hz.a⟩
theorem right_of_app {j : JG} {n : NA} (h : appGE j n = 0) : rightN n = true := by
 cases hr : rightN n with
 | true => rfl
 | false => unfold appGE at h;rw [if_pos hr] at h;cases h
theorem map_one {α β : Type} {f : α → β} {l : List α} {b : β} (h : l.map f = [b]) : ∃ x,l = [x] ∧ f x = b := by
 match l,h with
 | [x],h => exact ⟨x,rfl,List.head_eq_of_cons_eq h⟩
theorem map_two {α β : Type} {f : α → β} {l : List α} {b c : β} (h : l.map f = [b,c]) : ∃ x y,l = [x,y] ∧ f x = b ∧ f y = c := by
 match l,h with
 | [x,y],h => exact ⟨x,y,rfl,List.head_eq_of_cons_eq h,List.head_eq_of_cons_eq (List.tail_eq_of_cons_eq h)⟩
abbrev exOps : VL := [(0,[1]),(1,[1])]
abbrev exAsk : NA := { NA.zero with kind := 1,batch := 9,ops := exOps }
abbrev exT : TR := ⟨1,9,0,0,3,[1,2],[],[],exOps⟩
abbrev exJ1 : JG := ⟨2,1,0,1,0,[(1,exT)],[]⟩
abbrev exV : NA := { NA.zero with kind := 4,txn := 1 }
abbrev exY : NA := { NA.zero with kind := 20,txn := 1,who := 1 }
abbrev exJ2 : JG := ⟨2,1,0,1,0,[(1,{ exT with yes := [1] })],[]⟩
abbrev exC : NA := { NA.zero with kind := 17,txn := 1,batch := 9,stamp := 1,parts := [1,2] }
theorem gx0 : homeV 2 0 = 0 ∧ homeV 2 1 = 1 := ⟨by kernel_rfl,by kernel_rfl⟩
theorem gx1 : planG (JG0 2 1) 3 exAsk = ⟨[],[beginN exT],[prepM 2 exT 1,prepM 2 exT 2],[],[]⟩ := by kernel_rfl
theorem gx2 : appGE (JG0 2 1) (beginN exT) = 0 ∧ appG (JG0 2 1) (beginN exT) = exJ1 := ⟨by kernel_rfl,by kernel_rfl⟩
theorem gx3 : planG exJ1 1 exV = ⟨[],[exY],[],[],[]⟩ := by kernel_rfl
theorem gx4 : appGE exJ1 exY = 0 ∧ appG exJ1 exY = exJ2 := ⟨by kernel_rfl,by kernel_rfl⟩
theorem gx5 : (planG exJ2 2 exV).rec_ = [exC] := by kernel_rfl
set_option maxHeartbeats 4000000 in
theorem Gawake_spec (M : Nat → Option Obj) (L : List HP) (hT : TabM M) : CallsS Tryz.prog 8 [] (roM M :: L) (fun r L' => ∃ M',r = .bool true ∧ leM M M' ∧ L' = roM M' :: L) := by
 refine CallsS.of_body Tryz.func8 rfl rfl rfl ?_
 refine Q.r ?_;(repeat (intro b1;refine Q.r ?_))
 refine S.cr rfl (GNew_spec M 2 1 _ (by decide) (by decide) (by decide) (by decide)) ?_
 rintro _ _ ⟨p,rfl,rfl⟩
 refine Q.r ?_;(repeat (intro b1;refine Q.r ?_))
 refine swp_cutB (σ := Option Addr × Nat × List OV) (fun s => [(1,ptrG p),(3,.slice s.1 s.2.2.length s.2.1)])
  (fun s => slO 77 2 s.1 s.2.2.length s.2.1 (s.2.2.flatMap OV.cells) :: vecsH s.2.2 :: jdgH M p (JG0 2 1) :: roM M :: L) (fun s => s.2.2.map OV.abs = exOps) ?_ ?_
 ·refine swp_loop (σ := Nat × Option Addr × Nat × List OV) (fun s => [(1,ptrG p),(3,.slice s.2.1 s.2.2.2.length s.2.2.1),(4,.int .u64 s.1)])
   (fun s => slO 77 2 s.2.1 s.2.2.2.length s.2.2.1 (s.2.2.2.flatMap OV.cells) :: vecsH s.2.2.2 :: jdgH M p (JG0 2 1) :: roM M :: L)
   (fun s => s.1 ≤ 2 ∧ s.2.2.2.map OV.abs = exOps.take s.1) (fun s => 2 - s.1) (0,none,0,[]) ⟨rfl,rfl,rfl,trivial⟩ (Ent.trans bodV_nil slO_nil) ⟨by omega,rfl⟩ ?_
  rintro ⟨k,a3,c3,us⟩ ⟨hk,hus⟩
  dsimp only at hk hus ⊢
  have hul : us.length = k := by
   have := congrArg List.length hus
   simp at this;omega
  by_cases hlt : k < 2
  ·refine Q.r ?_;(repeat (intro b1;refine Q.r ?_))
   refine S.cr rfl (Home_spec k 2 _ (by decide) (by decide)) ?_
   rintro _ _ ⟨rfl,rfl⟩
   have hh : homeV 2 k = k := by
    have : k = 0 ∨ k = 1 := by omega
    rcases this with rfl | rfl
    ·exact gx0.1
    ·exact gx0.2
   rw [hh]
   refine Q.r ?_;(repeat (intro b1;refine Q.r ?_))
   rename_i bv
   refine S.app rfl rfl (SrcS.sl RdC.row (by rfl) (by rfl)) (by rfl) (by omega) (by omega) (fun a7 c7 => ?_)
   refine Q.r ?_;(repeat (intro b1;refine Q.r ?_))
   refine S.y (Y.add rfl rfl) ?_
   rw [wrap_u64 (by omega) (by omega)]
   refine Q.r ?_;(repeat (intro b1;refine Q.r ?_))
   refine ⟨(k + 1,a7,c7,us ++ [⟨k,some ⟨bv,0,none⟩,1,[1]⟩]),⟨rfl,congrArg some (by simp),congrArg some (congrArg (Value.int .u64) (by simp)),trivial⟩,?_,⟨by dsimp only;omega,?_⟩,by dsimp only;omega⟩
   ·dsimp only
    rw [len_snoc,flat_snoc]
    refine Ent.trans (M := pt bv (cl [Value.int .i32 1] 21) :: vecsH us :: slO 77 2 a7 (us.length + 1) c7 (us.flatMap OV.cells ++ [Value.int .u64 k,.slice (some ⟨bv,0,none⟩) 1 1]) :: jdgH M p (JG0 2 1) :: roM M :: L) (by exact Go.SX.Ent.go) (Ent.trans (slO_fold (sz := 1) (m := 1) rfl) (Ent.trans (vecs_snoc (o := ⟨k,some ⟨bv,0,none⟩,1,[1]⟩) rfl) ?_))
    exact Go.SX.Ent.go
   ·dsimp only
    have : k = 0 ∨ k = 1 := by omega
    rw [List.map_append,hus]
    rcases this with rfl | rfl <;> rfl
  ·have hk2 : k = 2 := by omega
   subst hk2
   refine Q.r ?_;(repeat (intro b1;refine Q.r ?_))
   exact ⟨(a3,c3,us),⟨rfl,rfl,trivial⟩,by exact Go.SX.Ent.go,hus⟩
 ·rintro ⟨a,c,us⟩ hus
  dsimp only at hus ⊢
  have hul : us.length = 2 := by have h := congrArg List.length hus;rw [List.length_map] at h;exact h
  refine swp_abs a (fun M1 hl1 hs1 => ?_)
  refine swp_absV us (fun M2 hl2 hs2 => ?_)
  refine swp_gm p (hl1.trans hl2) ?_
  have hn : okN M2 ⟨1,0,9,0,0,0,0,0,0,0,0,0,none,0,[],a,c,us,none,0,[],none,0,[]⟩ := ⟨SlM.nil0,⟨hs1.mono hl2,hs2⟩,SlM.nil0,SlM.nil0,fun o ho => by cases ho⟩
  have hna : NV.abs ⟨1,0,9,0,0,0,0,0,0,0,0,0,none,0,[],a,c,us,none,0,[],none,0,[]⟩ = exAsk := congrArg (fun z => ({ NA.zero with kind := 1,batch := 9,ops := z } : NA)) hus
  have hr0 : rightN (NV.abs ⟨1,0,9,0,0,0,0,0,0,0,0,0,none,0,[],a,c,us,none,0,[],none,0,[]⟩) = true := by rw [hna];kernel_rfl
  have hw0 : WG (JG0 2 1) := WG.zero (by decide) (by decide)
  refine Q.r ?_;(repeat (intro b1;refine Q.r ?_))
  refine S.cg p (args := [ptrG p,.int .i64 3,NV.val ⟨1,0,9,0,0,0,0,0,0,0,0,0,none,0,[],a,c,us,none,0,[],none,0,[]⟩]) rfl (GPlan_spec _ M2 p (JG0 2 1) 3 _ hw0.b hn (OkN.right hr0) (hT.mono (hl1.trans hl2)) (by show (0 : Int) ≤ 1 ∧ (1 : Int) ≤ 255;decide)) ?_
  rw [hna,gx1]
  rintro _ _ ⟨a1,c1,rs,a2,c2,ns,a3,c3,ms,a4,c4,is,a5,c5,es,M3,rfl,hl3,⟨o1,o2,o3,_,_⟩,⟨e1,e2,e3,_,_⟩,rfl⟩
  dsimp only at e1 e2 e3
  obtain ⟨n1,rfl,f1⟩ := map_one e2
  obtain ⟨m1,m2,rfl,g1,g2⟩ := map_two e3
  obtain ⟨bn,on,rfl,cn⟩ := SlM.cm (g := NV.cells) (k := 0) (fun _ => rfl) o2.1 rfl rfl
  obtain ⟨bm,om,rfl,cm1⟩ := SlM.cm (g := mcells) (k := 0) (fun _ => rfl) o3.1 rfl rfl
  obtain ⟨bm',om',hbm,cm2⟩ := SlM.cm (g := mcells) (k := 1) (fun _ => rfl) o3.1 rfl rfl
  cases hbm
  have g3 : m1.1 = 1 := congrArg Prod.fst g1
  have g4 : m2.1 = 2 := congrArg Prod.fst g2
  dsimp only [List.length_cons,List.length_nil]
  refine Q.rn ?_;(repeat (intro b1;refine Q.rn ?_))
  have hr1 : rightN n1.abs = true := by rw [f1];kernel_rfl
  have k1 : n1.kind = 19 := congrArg NA.kind f1
  have t1 : n1.txn = 1 := congrArg NA.txn f1
  have hz1 : NZ n1.abs := by rw [f1];exact ⟨by decide,by decide,by decide,by decide,by decide⟩
  have hl13 : leM M M3 := hl1.trans (hl2.trans hl3)
  refine S.cg p rfl (GApply_spec' n1 M3 p (JG0 2 1) _ hw0 (o2.2 n1 (List.mem_singleton.2 rfl)) (OkN.right hr1) (hT.mono hl13) (NumN.right hr1 hz1) hz1.t1 (fun h => absurd h (by omega))) ?_
  rw [f1]
  rintro _ _ ⟨M4,rfl,hl4,rfl⟩
  rw [gx2.1,gx2.2]
  have cn := cn.mono hl4
  refine Q.rn ?_;(repeat (intro b1;refine Q.rn ?_))
  rw [t1]
  have hT4 := hT.mono (hl13.trans hl4)
  have hw1 : WG exJ1 := by rw [← gx2.2];exact hw0.app (by decide) (by decide) (by decide)
  refine S.cg p (args := [ptrG p,.int .i64 1,(NA.nv exV).val]) rfl (GPlan_spec (NA.nv exV) M4 p exJ1 1 _ hw1.b (okN.nv _) (OkN.nv _) hT4 (by show (0 : Int) ≤ 4 ∧ (4 : Int) ≤ 255;decide)) ?_
  rw [show (NA.nv exV).abs = exV from rfl,gx3]
  rintro _ _ ⟨a6,c6,rs6,a7,c7,ns7,a8,c8,ms8,a9,c9,is9,aa,ca,esa,M5,rfl,hl5,⟨_,o7,_,_,_⟩,⟨_,e7,_,_,_⟩,rfl⟩
  dsimp only at e7
  obtain ⟨n2,rfl,f2⟩ := map_one e7
  obtain ⟨bn2,on2,rfl,cn2⟩ := SlM.cm (g := NV.cells) (k := 0) (fun _ => rfl) o7.1 rfl rfl
  have hr2 : rightN n2.abs = true := by rw [f2];kernel_rfl
  have k2 : n2.kind = 20 := congrArg NA.kind f2
  have hz2 : NZ n2.abs := by rw [f2];exact ⟨by decide,by decide,by decide,by decide,by decide⟩
  have hT5 := hT4.mono hl5
  dsimp only [List.length_cons,List.length_nil]
  refine Q.rn ?_;(repeat (intro b1;refine Q.rn ?_))
  refine S.cg p rfl (GApply_spec' n2 M5 p exJ1 _ hw1 (o7.2 n2 (List.mem_singleton.2 rfl)) (OkN.right hr2) hT5 (NumN.right hr2 hz2) hz2.t1 (fun h => absurd h (by omega))) ?_
  rw [f2]
  rintro _ _ ⟨M6,rfl,hl6,rfl⟩
  rw [gx4.1,gx4.2]
  have hT6 := hT5.mono hl6
  have hw2 : WG exJ2 := by rw [← gx4.2];exact hw1.app (by decide) (by decide) (by decide)
  refine Q.rn ?_;(repeat (intro b1;refine Q.rn ?_))
  refine S.cg p (args := [ptrG p,.int .i64 2,(NA.nv exV).val]) rfl (GPlan_spec (NA.nv exV) M6 p exJ2 2 _ hw2.b (okN.nv _) (OkN.nv _) hT6 (by show (0 : Int) ≤ 4 ∧ (4 : Int) ≤ 255;decide)) ?_
  rw [show (NA.nv exV).abs = exV from rfl]
  rintro _ _ ⟨ab,cb,rsb,ac,cc,nsc,ad,cd,msd,ae,ce,ise,af,cf,esf,M7,rfl,hl7,⟨ob,_,_,_,_⟩,⟨eb,_,_,_,_⟩,rfl⟩
  rw [gx5] at eb
  obtain ⟨n3,rfl,f3⟩ := map_one eb
  obtain ⟨bn3,on3,rfl,cn3⟩ := SlM.cm (g := NV.cells) (k := 0) (fun _ => rfl) ob.1 rfl rfl
  have k3 : n3.kind = 17 := congrArg NA.kind f3
  have s3 : n3.stamp = 1 := congrArg NA.stamp f3
  dsimp only [List.length_cons,List.length_nil]
  refine Q.rn ?_;(repeat (intro b1;refine Q.rn ?_))
  exact N.r1 (RV.tmp rfl RV.nil) (show Ent _ (roM M7 :: L) by exact Go.SX.Ent.go) ⟨M7,congrArg Value.bool (decide_eq_true s3),hl13.trans (hl4.trans (hl5.trans (hl6.trans hl7))),rfl⟩
end Go.Proofs.YtiampehfpgcogaaGreatDoor
namespace Go.SX
open Go
section
variable {P : Program} {n : Nat} {ops : List Oper} {f : Env} {A : List HP} {d : Tmp} {ty : TypeId} {pos : String} {af : Array Edge}
end
end Go.SX
namespace Go.Proofs.YtiampehfpgcogaaGreatDoor
open Go Go.SX
attribute [local irreducible] swp opsS thenS blockS retS CallsS St Ent YieldS anyS drawS
structure AfterR (j1 : JG) (k : Nat) (Y : Int → Int → Prop) (D1 : List (Int × Int)) (n : NA) (pl : PG) : Prop where
 m : ∀ m ∈ pl.mail,m.2.kind = 5 → n.kind = 7 ∨ lkL D1 m.2.txn = none ∨ (m.2.code = 0 ∧ lkL D1 m.2.txn = some m.2.stamp)
 n : (pl.notes = [] ∧ GI j1 k Y D1) ∨ ∃ r,pl.notes = [r] ∧ NZ r ∧ r.kind ≠ 16 ∧ appGE j1 r = 0 ∧ (r.kind = 22 → lkL D1 r.txn = none) ∧ GI (appG j1 r) k Y D1 ∧ (appG j1 r).done = j1.done ∧ (appG j1 r).last = j1.last
structure RecR (j : JG) (k : Nat) (Y : Int → Int → Prop) (D : List (Int × Int)) (n : NA) (pl : PG) (r : NA) : Prop where
 z : NZ r
 e : appGE j r = 0
 k6 : r.kind ≠ 16
 c : (r.kind ≠ 17 ∧ AfterR (appG j r) k Y D n pl ∧ (appG j r).done = j.done ∧ (appG j r).last = j.last) ∨
  (r.kind = 17 ∧ lkL D r.txn = none ∧ r.stamp = j.last + 1 ∧ lkL j.done r.batch = none ∧ (∀ q ∈ r.parts,Y r.txn q) ∧ AfterR (appG j r) k Y (putL D r.txn r.stamp) n pl ∧ (appG j r).done = putL j.done r.batch r.stamp ∧ (appG j r).last = r.stamp)
theorem mail_len {j : JG} (hW : WG j) (s1 : 1 ≤ j.shards) (s2 : j.shards ≤ 4) (fr : Int) (n : NA) : (planG j fr n).mail.length ≤ 5 := by
 have told : ∀ x t s c,lkL j.tr x = some t → (toldM t s c).length ≤ 5 := fun x t s c h => by
  have := (hW.lk h).pl
  rw [toldM_len];omega
 unfold planG
 split
 ·exact Nat.zero_le _
 split
 ·unfold askG
  split
  ·exact Nat.le_of_ble_eq_true rfl
  ·split
   ·exact Nat.zero_le _
   ·split
    ·exact Nat.le_of_ble_eq_true rfl
    ·have hp := partsG_ok s1 n.ops
     have := rise_len hp.1 hp.2 (by omega)
     show (List.map _ (partsG j.shards n.ops)).length ≤ 5
     rw [List.length_map];omega
 split
 ·unfold voteG
  split
  ·exact Nat.zero_le _
  ·rename_i t ht
   split
   ·exact Nat.zero_le _
   split
   ·exact told _ t _ _ ht
   split
   ·exact Nat.zero_le _
   split
   ·exact Nat.zero_le _
   ·exact told _ t _ _ ht
 split
 ·unfold ackG
  split
  ·exact Nat.zero_le _
  ·split
   ·exact Nat.zero_le _
   split
   ·exact Nat.zero_le _
   ·exact Nat.zero_le _
 split
 ·unfold probeG
  split
  ·exact Nat.le_of_ble_eq_true rfl
  ·split
   ·exact Nat.zero_le _
   ·exact Nat.le_of_ble_eq_true rfl
 ·exact Nat.zero_le _
structure GO where
 d : Int
 fr : Int
 n : NV
 w : Bool
abbrev GO.cells (o : GO) : List Value := [.int .u8 o.d,.int .i64 o.fr,.int .u8 o.n.kind,.int .u64 o.n.txn,.int .u64 o.n.batch,.int .u64 o.n.stamp,.int .u64 o.n.after,.int .u64 o.n.mark,.int .u64 o.n.query,.int .u64 o.n.id,.int .i64 o.n.k,.int .i64 o.n.ef,.int .i64 o.n.code,.int .i64 o.n.who,
 .slice o.n.pa o.n.parts.length o.n.pc,.slice o.n.oa o.n.ops.length o.n.oc,.slice o.n.va o.n.vec.length o.n.vc,.slice o.n.ha o.n.hits.length o.n.hc,.bool o.w]
structure GOK (M : Nat → Option Obj) (o : GO) : Prop where
 n : okN M o.n
 c : CapN o.n
 u : NumN o.n
 uu : NumA o.n.abs
 dd : 0 ≤ o.d ∧ o.d ≤ 255
theorem GOK.mono {M M' : Nat → Option Obj} {o : GO} (h : GOK M o) (hl : leM M M') : GOK M' o := ⟨h.n.mono hl,h.c,h.u,h.uu,h.dd⟩
end Go.Proofs.YtiampehfpgcogaaGreatDoor
namespace Go.Proofs.YtiampehfpgcogaaGreatDoor
open Go Go.SX Go.ChangeShapes Go.WideShapes Go.ChangeAt Go.RowKit
set_option maxHeartbeats 1000000 in
set_option maxRecDepth 100000 in
theorem Rd.go {H : Type} {enc : TypeId × Value → H} {W : World} {cs : List Value} (h : Rd enc Tryz.prog W 41 cs) : ∃ o : GO,cs = o.cells ∧ GOK (all0 W) o := by
 obtain ⟨hl,hf⟩ := h.fields Tryz.underlying41
 obtain ⟨d,h0,hd⟩ := Rd.u8b (hf 0 _ rfl)
 obtain ⟨fr,h1,_⟩ := Rd.i64 (hf 1 _ rfl)
 obtain ⟨n,h2,n1,n2,n3,n4⟩ := Rd.note (hf 2 _ rfl)
 obtain ⟨w,h3⟩ := Rd.bool (hf 3 _ rfl) Tryz.underlying4
 have hl' : cs.length = 19 := hl.trans (by kernel_rfl)
 match cs,hl' with
 | [u0,u1,u2,u3,u4,u5,u6,u7,u8,u9,u10,u11,u12,u13,u14,u15,u16,u17,u18],_ =>
  have h0' : [u0] = [Value.int .u8 d] := h0
  have h1' : [u1] = [Value.int .i64 fr] := h1
  have h2' : [u2,u3,u4,u5,u6,u7,u8,u9,u10,u11,u12,u13,u14,u15,u16,u17] = n.cells := h2
  have h3' : [u18] = [Value.bool w] := h3
  simp only [List.cons.injEq,and_true] at h0' h1' h2' h3'
  obtain ⟨e1,e2,e3,e4,e5,e6,e7,e8,e9,e10,e11,e12,e13,e14,e15,e16⟩ := h2'
  subst h0' h1' h3' e1 e2 e3 e4 e5 e6 e7 e8 e9 e10 e11 e12 e13 e14 e15 e16
  exact ⟨⟨d,fr,n,w⟩,rfl,n1,n2,n3,n4,hd⟩
end Go.Proofs.YtiampehfpgcogaaGreatDoor
namespace Go.SX
open Go
section
variable {κ α : Type} {g : κ → Value} {rr : α → Value}
def itQ (g : κ → Value) (rr : α → Value) (m : List (κ × α)) (done : List κ) (last : Option κ) (x : Array MapEntry × Nat × Array Nat) : Prop :=
 entsOK g rr m x.1.toList x.2.1 ∧ (∀ y ∈ x.1.toList.zip m,y.1.born ∈ x.2.2.toList ↔ y.2.1 ∈ done) ∧ ∀ k,last = some k → ∃ y ∈ x.1.toList.zip m,y.2.1 = k ∧ ∃ v0 : Array Nat,x.2.2 = v0.push y.1.born
def itK (g : κ → Value) (rr : α → Value) (b r : Nat) (m : List (κ × α)) (done : List κ) (last : Option κ) : HP :=
 exH fun x : Array MapEntry × Nat × Array Nat => allH [pureH (itQ g rr m done last x),pt b (.map x.1 x.2.1),pt r (.mapIter (some b) x.2.1 x.2.2 x.2.1)]
end
class FindIk (r : Nat) (L : List HP) {κ α : outParam Type} (g : outParam (κ → Value)) (rr : outParam (α → Value)) (b : outParam Nat) (m : outParam (List (κ × α))) (done : outParam (List κ)) (last : outParam (Option κ)) (L' : outParam (HP → List HP)) : Prop where
 at_ : ∃ R,L.Perm (itK g rr b r m done last :: R) ∧ ∀ x,(x :: R).Perm (L' x)
instance FindIk.here {κ α : Type} {r b : Nat} {g : κ → Value} {rr : α → Value} {m : List (κ × α)} {done : List κ} {last : Option κ} {L : List HP} : FindIk r (itK g rr b r m done last :: L) g rr b m done last (fun x => x :: L) := ⟨L,.refl _,fun _ => .refl _⟩
instance (priority := low) FindIk.there {κ α : Type} {r b : Nat} {g : κ → Value} {rr : α → Value} {m : List (κ × α)} {done : List κ} {last : Option κ} {A : HP} {L : List HP} {L' : HP → List HP} [h : FindIk r L g rr b m done last L'] : FindIk r (A :: L) g rr b m done last (fun x => A :: L' x) := by
 obtain ⟨R,h1,h2⟩ := h.at_
 exact ⟨A :: R,(h1.cons A).trans (.swap _ _ _),fun x => List.Perm.trans (.swap _ _ _) ((h2 x).cons A)⟩
section
variable {κ α : Type} {g : κ → Value} {rr : α → Value} {m : List (κ × α)} {done : List κ} {last : Option κ}
theorem itK_shut {b r : Nat} {L : List HP} {x : Array MapEntry × Nat × Array Nat} (h : itQ g rr m done last x) : Ent (pt b (.map x.1 x.2.1) :: pt r (.mapIter (some b) x.2.1 x.2.2 x.2.1) :: L) (itK g rr b r m done last :: L) :=
 Ent.trans (Ent.shut_pure h) (Ent.trans (Ent.shut_all (L := [_,_,_])) (Ent.shut_ex (P := fun x : Array MapEntry × Nat × Array Nat => allH [pureH (itQ g rr m done last x),pt b (.map x.1 x.2.1),pt r (.mapIter (some b) x.2.1 x.2.2 x.2.1)]) x))
theorem St.ik_open {w : World} {b r : Nat} {L : List HP} (H : St w (itK g rr b r m done last :: L)) : ∃ x,itQ g rr m done last x ∧ St w (pt b (.map x.1 x.2.1) :: pt r (.mapIter (some b) x.2.1 x.2.2 x.2.1) :: L) := by
 obtain ⟨x,H⟩ := St.open_ex H
 have H := Ent.open_all (L := [_,_,_]) (M := L) w [] (by simpa using H)
 obtain ⟨h,H⟩ := St.open_pure (by simpa using H)
 exact ⟨x,h,H⟩
theorem itK_map {b r : Nat} {L : List HP} : Ent (itK g rr b r m done last :: L) (mpO g rr b m :: L) := fun w F H => by
 obtain ⟨x,h,H⟩ := St.ik_open (L := L ++ F) H
 refine St.mp_shut (es := x.1) (clock := x.2.1) h.1 ?_
 exact (St.perm (.swap _ _ _) H).tail
theorem itO_itK {b r : Nat} {L : List HP} : Ent (itO g rr b r m [] :: L) (itK g rr b r m [] none :: L) := fun w F H => by
 obtain ⟨x,h,H⟩ := St.it_open (L := L ++ F) H
 exact itK_shut (L := L) (x := (x.1,x.2,#[])) ⟨h.1,fun y _ => by simp,fun k hk => by cases hk⟩ w F (by simpa using H)
theorem FindIk.open_ {r b : Nat} {L F : List HP} {L' : HP → List HP} (h : FindIk r L g rr b m done last L') {w : World} (H : St w (L ++ F)) : ∃ R x,itQ g rr m done last x ∧ St w (pt b (.map x.1 x.2.1) :: pt r (.mapIter (some b) x.2.1 x.2.2 x.2.1) :: (R ++ F)) ∧ ∀ y w,St w (y :: (R ++ F)) → St w (L' y ++ F) := by
 obtain ⟨R,p1,p2⟩ := h.at_
 have H1 : St w (itK g rr b r m done last :: (R ++ F)) := by simpa using St.perm (p1.append_right F) H
 obtain ⟨x,k,H2⟩ := St.ik_open H1
 exact ⟨R,x,k,H2,fun x w H => St.perm ((p2 x).append_right F) (by simpa using H)⟩
theorem zip_at {es : List MapEntry} {m : List (κ × α)} {y : MapEntry × (κ × α)} (h : y ∈ es.zip m) : ∃ i : Nat,es[i]? = some y.1 ∧ m[i]? = some y.2 := by
 obtain ⟨i,hi⟩ := List.mem_iff_getElem?.1 h
 exact ⟨i,(List.getElem?_zip_eq_some.1 hi).1,(List.getElem?_zip_eq_some.1 hi).2⟩
theorem zip_mem {es : List MapEntry} {m : List (κ × α)} {i : Nat} {e : MapEntry} {p : κ × α} (h1 : es[i]? = some e) (h2 : m[i]? = some p) : (e,p) ∈ es.zip m :=
 List.mem_iff_getElem?.2 ⟨i,List.getElem?_zip_eq_some.2 ⟨h1,h2⟩⟩
theorem ents_idx {es : List MapEntry} {clock : Nat} (h : entsOK g rr m es clock) {i : Nat} {e : MapEntry} (he : es[i]? = some e) : ∃ p : κ × α,m[i]? = some p ∧ e.key = g p.1 ∧ e.val = rr p.2 := by
 have h1 := congrArg (fun l => l[i]?) h.1
 simp only [List.getElem?_map,he,Option.map_some] at h1
 cases hm : m[i]? with
 | none => rw [hm] at h1;cases h1
 | some p =>
  rw [hm] at h1
  simp only [Option.map_some,Option.some.injEq,Prod.mk.injEq] at h1
  exact ⟨p,rfl,h1.1,h1.2⟩
theorem nodup_idx {β : Type} {l : List β} (h : l.Nodup) {i j : Nat} {x : β} (hi : l[i]? = some x) (hj : l[j]? = some x) : i = j := by
 have h1 := (List.getElem?_eq_some_iff.1 hi).1
 exact (List.getElem?_inj h1 h).1 (hi.trans hj.symm)
theorem zip_born {es : List MapEntry} {clock : Nat} (h : entsOK g rr m es clock) {y z : MapEntry × (κ × α)} (hy : y ∈ es.zip m) (hz : z ∈ es.zip m) (e : y.1.born = z.1.born) : y = z := by
 obtain ⟨i,i1,i2⟩ := zip_at hy
 obtain ⟨j,j1,j2⟩ := zip_at hz
 have hn : (es.map (·.born)).Nodup := h.2.2.1.imp fun h => Nat.ne_of_lt h
 have hij : i = j := nodup_idx hn (x := y.1.born) (by rw [List.getElem?_map,i1];rfl) (by rw [List.getElem?_map,j1,e];rfl)
 subst hij
 rw [i1] at j1;rw [i2] at j2
 injection j1 with j1;injection j2 with j2
 exact Prod.ext j1 j2
theorem zip_key {es : List MapEntry} {clock : Nat} (h : entsOK g rr m es clock) {y z : MapEntry × (κ × α)} (hy : y ∈ es.zip m) (hz : z ∈ es.zip m) (e : y.2.1 = z.2.1) : y = z := by
 obtain ⟨i,i1,i2⟩ := zip_at hy
 obtain ⟨j,j1,j2⟩ := zip_at hz
 have hij : i = j := nodup_idx h.2.1 (x := y.2.1) (by rw [List.getElem?_map,i2];rfl) (by rw [List.getElem?_map,j2,e];rfl)
 subst hij
 rw [i1] at j1;rw [i2] at j2
 injection j1 with j1;injection j2 with j2
 exact Prod.ext j1 j2
end
section
variable {P : Program} {n : Nat} {ops rest : List Oper} {Q : Post} {f : Env} {L : List HP} {d : Nat} {ty : TypeId} {pos : String} {af : Array Edge}
variable {κ α : Type} {g : κ → Value} {rr : α → Value} {m : List (κ × α)} {done : List κ} {last : Option κ}
theorem S.nxK {x : Operand} {r b : Nat} {L' : HP → List HP} [hm : FindIk r L g rr b m done last L'] (hx : ev f x = some (.pointer (some ⟨r,0,none⟩)))
  (hend : (∀ p ∈ m,p.1 ∈ done) → opsS P n ops rest Q (upd f d (.tuple #[.bool false])) (L' (itK g rr b r m done last)))
  (hstep : ∀ p ∈ m,p.1 ∉ done → opsS P n ops rest Q (upd f d (.tuple #[.bool true,g p.1,rr p.2])) (L' (itK g rr b r m (done ++ [p.1]) (some p.1)))) :
  opsS P n ops (⟨some d,.next x false,ty,pos,af,none⟩ :: rest) Q f L := by
 refine opsS_value (R := fun v L1 => ((∀ p ∈ m,p.1 ∈ done) ∧ v = .tuple #[.bool false] ∧ L1 = L' (itK g rr b r m done last)) ∨ ∃ p,p ∈ m ∧ p.1 ∉ done ∧ v = .tuple #[.bool true,g p.1,rr p.2] ∧ L1 = L' (itK g rr b r m (done ++ [p.1]) (some p.1)))
  (fun F a w s t0 => ?_) (by
   rintro _ _ (⟨h,rfl,rfl⟩ | ⟨p,h1,h2,rfl,rfl⟩)
   ·exact hend h
   ·exact hstep p h1 h2)
 obtain ⟨R,⟨es,clock,vs⟩,hes,H,hback⟩ := hm.open_ t0
 have hb := St.pt_read H
 have hr := St.pt_read (St.perm (.swap _ _ _) H)
 dsimp only at hb hr
 have hlen : es.toList.length = m.length := by have := congrArg List.length hes.1.1;simpa using this
 rcases run_next_at (P := P) w ty r b clock clock _ es clock hr hb (fun x hx => hes.1.2.2.2 x hx) (Nat.le_refl _) with ⟨h0,hrun⟩ | ⟨e,he,w1,hw1,hrun⟩
 ·refine ⟨_,w,_,by simp [execOp,s.eval hx,hrun],hback _ _ (itK_shut (L := R) hes w F H),.inl ⟨fun p hp => ?_,rfl,rfl⟩⟩
  obtain ⟨i,hi⟩ := List.mem_iff_getElem?.1 hp
  have hil : i < es.toList.length := by rw [hlen];exact (List.getElem?_eq_some_iff.1 hi).1
  have hy := zip_mem (List.getElem?_eq_getElem hil) hi
  refine (hes.2.1 _ hy).1 ?_
  have h1 : leftOf es vs = #[] := Array.eq_empty_of_size_eq_zero h0
  unfold leftOf at h1
  rw [Array.filter_eq_empty_iff] at h1
  have := h1 es.toList[i] (by rw [← Array.mem_toList_iff];exact List.getElem_mem hil)
  simpa using this
 ·unfold leftOf at he
  simp only [Array.toList_filter,List.mem_filter,Array.mem_toList_iff] at he
  obtain ⟨h1,h2⟩ := he
  obtain ⟨i,hi⟩ := List.mem_iff_getElem?.1 (Array.mem_toList_iff.2 h1)
  obtain ⟨p,hp,hk,hv⟩ := ents_idx hes.1 hi
  have hy := zip_mem hi hp
  have hpn : p.1 ∉ done := fun hd => by
   have := (hes.2.1 _ hy).2 hd
   simp at h2
   exact h2 (by simpa using this)
  refine ⟨.tuple #[.bool true,g p.1,rr p.2],@ChangeMaps.setBlock w1 r (.mapIter (some b) clock (vs.push e.born) clock),_,by simp [execOp,s.eval hx,hrun,hk,hv],hback _ _ ?_,.inr ⟨p,List.mem_of_getElem? hp,hpn,rfl,rfl⟩⟩
  have e1 : w1.heap = w.heap := by rcases hw1 with rfl | rfl <;> rfl
  have e2 : SX.ext w1 = SX.ext w := by rcases hw1 with rfl | rfl <;> rfl
  have hlt : r < w.heap.size := (Array.getElem?_eq_some_iff.1 hr).1
  have H1 := St.perm (.swap _ _ _) H
  have H2 := St.pt_write (w' := @ChangeMaps.setBlock w1 r (.mapIter (some b) clock (vs.push e.born) clock)) (o' := .mapIter (some b) clock (vs.push e.born) clock) H1
   (by simp [ChangeMaps.setBlock,e1,hlt]) (fun k hk => by simp [ChangeMaps.setBlock,e1,Ne.symm hk]) (by rw [← e2];rfl)
  exact itK_shut (L := R) (x := (es,clock,vs.push e.born)) ⟨hes.1,fun y hy' => by
   simp only [Array.toList_push,List.mem_append,List.mem_singleton]
   refine ⟨fun h => h.imp (hes.2.1 y hy').1 fun h => ?_,fun h => h.imp (hes.2.1 y hy').2 fun h => ?_⟩
   ·rw [zip_born hes.1 hy' hy h]
   ·rw [zip_key hes.1 hy' hy h],fun k hk' => by
   injection hk' with hk'
   exact ⟨_,hy,hk',vs,rfl⟩⟩ _ F (St.perm (.swap _ _ _) H2)
theorem Y.enK {A : List HP} {x : Operand} {r b : Nat} {p : κ × α} {A' : HP → List HP} [hm : FindIk r A g rr b m done (some p.1) A'] (hx : ev f x = some (.pointer (some ⟨r,0,none⟩))) (hp : p ∈ m) :
  YieldS P n ops ⟨some d,.entry x,ty,pos,af,none⟩ f A (.tuple #[g p.1,rr p.2]) := by
 refine Y.of' fun a w F s t0 => ?_
 obtain ⟨R,⟨es,clock,vs⟩,hes,H,hback⟩ := hm.open_ t0
 have hb := St.pt_read H
 have hr := St.pt_read (St.perm (.swap _ _ _) H)
 dsimp only at hb hr
 obtain ⟨y,hy,hyk,v0,hv0⟩ := hes.2.2 p.1 rfl
 dsimp only at hy hv0
 obtain ⟨i,i1,i2⟩ := zip_at hy
 obtain ⟨p',g2,g4,g5⟩ := ents_idx hes.1 i1
 rw [i2] at g2
 injection g2 with g2
 have hpp : y.2 = p := by
  obtain ⟨j,hj⟩ := List.mem_iff_getElem?.1 hp
  have hij : i = j := nodup_idx hes.1.2.1 (x := p.1) (by rw [List.getElem?_map,i2];exact congrArg some hyk) (by rw [List.getElem?_map,hj];rfl)
  subst hij
  rw [i2] at hj
  injection hj
 rw [← g2,hpp] at g4 g5
 subst hv0
 have := run_entry_at (P := P) w r b clock _ es clock y.1 hr hb (List.mem_of_getElem? i1) ((hes.1.2.2.1.imp fun h => Nat.ne_of_lt h))
 simp [execOp,s.eval hx,this,g4,g5]
theorem zip_split {ep eq : List MapEntry} {ee : MapEntry} {p q : List (κ × α)} {u : κ × α} (hl : ep.length = p.length) {y : MapEntry × (κ × α)} (h : y ∈ (ep ++ eq).zip (p ++ q)) : y ∈ (ep ++ ee :: eq).zip (p ++ u :: q) := by
 rw [List.zip_append hl] at h ⊢
 rcases List.mem_append.1 h with h | h
 ·exact List.mem_append.2 (.inl h)
 ·exact List.mem_append.2 (.inr (by rw [List.zip_cons_cons];exact List.mem_cons_of_mem _ h))
theorem S.dlK [DecidableEq κ] {x y : Operand} {t t' kt e : TypeId} {dd : TypeDesc} {b : Nat} {q : κ} {L' : HP → List HP} [h : MapTy P t kt e] [h1 : KTy P kt dd] [K : KeyT dd g] (r : Nat) [hm : FindIk r L g rr b m done last L']
  (hx : ev f x = some (.map (some b))) (hy : ev f y = some (g q)) (hk : opsS P n ops rest Q f (L' (itK g rr b r (delL m q) done none))) :
  opsS P n ops (⟨none,.call ⟨.builtin .delete,#[x,y],#[t,t']⟩,ty,pos,af,none⟩ :: rest) Q f L := by
 intro ok F a w s t0
 simp only [okOps,List.all_cons,Bool.and_eq_true] at ok
 refine wpList_plain rfl fun K' hK => ?_
 obtain ⟨R,⟨es,clock,vs⟩,⟨⟨he,hkk,hbo,hcl⟩,hz,hlast⟩,H,hback⟩ := hm.open_ t0
 dsimp only at he hbo hcl hz hlast H
 have hb := St.pt_read H
 have hget : (getObj b).run P w = .ok (.map es clock) w := MapKept.run_getObj_map hb
 have hset : ∀ o,(setObj b o).run P w = .ok () { w with heap := w.heap.setIfInBounds b o } := fun o => MapKept.run_setObj_map o hb
 have hpl := K.plain P kt h1.und es.isEmpty q w
 have hlt : b < w.heap.size := (Array.getElem?_eq_some_iff.1 hb).1
 have key : ∃ w',(execOp a.eval ⟨none,.call ⟨.builtin .delete,#[x,y],#[t,t']⟩,ty,pos,af,none⟩).run P w = .ok (.value (.tuple #[])) w' ∧ St w' (L' (itK g rr b r (delL m q) done none) ++ F) := by
  have fin : ∀ es' : Array MapEntry,itQ g rr (delL m q) done none (es',clock,vs) → St { w with heap := w.heap.setIfInBounds b (.map es' clock) } (L' (itK g rr b r (delL m q) done none) ++ F) := fun es' hq => by
   refine hback _ _ (itK_shut (L := R) (x := (es',clock,vs)) hq _ F ?_)
   exact St.pt_write (o' := .map es' clock) H (by simp [hlt]) (fun k hk => by simp [Ne.symm hk]) rfl
  rcases keyCase m hkk q with ⟨p,v,q',rfl,hp,hq⟩ | hn
  ·obtain ⟨ep,eq,e1,e2,e3⟩ := ents_app he
   cases eq with
   | nil => simp at e3
   | cons ee eq =>
    simp only [List.map_cons,List.cons.injEq,Prod.mk.injEq] at e3
    have hf := find_some (d := dd) q ep ee eq 0 (ents_keys e2 hp) e3.1.1
    rw [← e1,Nat.zero_add] at hf
    have hfk := run_findKey (P := P) (kt := kt) h1.und hf w
    refine ⟨_,?_,fin (es.eraseIdxIfInBounds (ep.length)) ?_⟩
    ·simp [execOp,resolve,invoke,builtin,s.eval hx,s.eval hy,Builtin.delete_,h.und,hget,hpl,hfk,hset]
    ·have el : (es.eraseIdxIfInBounds (ep.length)).toList = ep ++ eq := by
      have hl : ep.length < es.size := by have := congrArg List.length e1;simp at this;omega
      rw [Array.eraseIdxIfInBounds,dif_pos hl,Array.toList_eraseIdx,e1,List.eraseIdx_append_of_length_le (Nat.le_refl _)]
      simp
     have hpl2 : ep.length = p.length := by have := congrArg List.length e2;simpa using this
     refine ⟨⟨?_,delL_ok hkk q,?_,fun e' he' => ?_⟩,fun y hy => ?_,fun k hk => by cases hk⟩
     ·dsimp only
      rw [el,delL_mid hp hq];simp only [List.map_append,e2,e3.2]
     ·dsimp only
      rw [el]
      rw [e1] at hbo
      refine List.Pairwise.sublist ?_ hbo
      exact List.Sublist.map _ (List.Sublist.append_left (List.sublist_cons_self _ _) _)
     ·dsimp only at he'
      rw [el] at he'
      rw [e1] at hcl
      simp only [List.mem_append] at he'
      exact hcl _ (by simp only [List.mem_append,List.mem_cons];exact he'.imp id .inr)
     ·dsimp only at hy ⊢
      rw [el,delL_mid hp hq] at hy
      exact hz y (by rw [e1];exact zip_split hpl2 hy)
  ·have hf := find_none (d := dd) q es.toList 0 (ents_keys he hn)
   have hfk := run_findKey (P := P) (kt := kt) h1.und hf w
   refine ⟨_,?_,fin es ?_⟩
   ·simp [execOp,resolve,invoke,builtin,s.eval hx,s.eval hy,Builtin.delete_,h.und,hget,hpl,hfk,hset]
   ·rw [delL_none hn];exact ⟨⟨he,hkk,hbo,hcl⟩,hz,fun k hk => by cases hk⟩
 obtain ⟨w',hr,ht⟩ := key
 simp only [Oper.wp,hr,Oper.upon]
 exact hK _ _ (hk ok.2 F _ _ (s.put ok.1 _) ht)
end
end Go.SX
namespace Go.Proofs.YtiampehfpgcogaaGreatDoor
open Go Go.SX
attribute [local irreducible] swp opsS thenS blockS retS CallsS St Ent YieldS anyS drawS
theorem Gzero_spec (x : Int) (u : Nat × TV) (L : List HP) : CallsS Tryz.prog 93 [.int .u64 x,ptT u] (oneT u :: L) (fun r L' => r = .bool (decide (u.2.stamp = 0)) ∧ L' = oneT u :: L) := by
 refine CallsS.of_body Tryz.func93 rfl rfl rfl ?_
 refine Q.r ?_;(repeat (intro b1;refine Q.r ?_))
 exact N.r1 (RV.tmp rfl RV.nil) (by exact Go.SX.Ent.go) ⟨rfl,rfl⟩
def keepG (done : List Int) (u : TB) : Bool := !(decide (u.1 ∈ done) && decide (u.2.2.stamp = 0))
theorem keep_nil (ts : List TB) : ts.filter (keepG []) = ts := List.filter_eq_self.2 fun u _ => by simp [keepG]
theorem keys_one {ts : List TB} (hk : keysOK ts) {u v : TB} (hu : u ∈ ts) (hv : v ∈ ts) (e : u.1 = v.1) : u = v := by
 obtain ⟨i,hi⟩ := List.mem_iff_getElem?.1 hu
 obtain ⟨k,hj⟩ := List.mem_iff_getElem?.1 hv
 have hij : i = k := nodup_idx hk (x := u.1) (by rw [List.getElem?_map,hi];rfl) (by rw [List.getElem?_map,hj,e];rfl)
 subst hij
 rw [hi] at hj
 injection hj
theorem keep_stay {ts : List TB} (hk : keysOK ts) {done : List Int} {u : TB} (hu : u ∈ ts) (hs : ¬ u.2.2.stamp = 0) : ts.filter (keepG (done ++ [u.1])) = ts.filter (keepG done) := by
 refine List.filter_congr fun v hv => ?_
 unfold keepG
 by_cases h : v.1 = u.1
 ·rw [keys_one hk hv hu h];simp [hs]
 ·simp [h]
theorem keep_go {ts : List TB} (hk : keysOK ts) {done : List Int} {u : TB} (hu : u ∈ ts) (hs : u.2.2.stamp = 0) : ts.filter (keepG (done ++ [u.1])) = delL (ts.filter (keepG done)) u.1 := by
 unfold delL
 rw [List.filter_filter]
 refine List.filter_congr fun v hv => ?_
 unfold keepG
 by_cases h : v.1 = u.1
 ·rw [keys_one hk hv hu h];simp [hs]
 ·simp [h]
theorem keep_end {ts : List TB} {done : List Int} (h : ∀ u ∈ ts.filter (keepG done),u.1 ∈ done) : ts.filter (keepG done) = ts.filter (fun u => !decide (u.2.2.stamp = 0)) := by
 refine List.filter_congr fun v hv => ?_
 by_cases hs : v.2.2.stamp = 0
 ·cases hk : keepG done v with
  | false => simp [hs]
  | true =>
   have := h v (List.mem_filter.2 ⟨hv,hk⟩)
   unfold keepG at hk
   simp [this,hs] at hk
 ·simp [keepG,hs]
theorem keys_filter {ts : List TB} (hk : keysOK ts) (p : TB → Bool) : keysOK (ts.filter p) := by
 unfold keysOK at *
 exact List.Nodup.sublist (List.Sublist.map _ (List.filter_sublist ..)) hk
set_option maxHeartbeats 4000000 in
theorem GDel_spec (mt : Nat) (ts : List TB) (hk : keysOK ts) (L : List HP) :
  CallsS Tryz.prog 92 [.map (some mt),.func (.func 93) #[] #[]] (gT mt ts :: trsH ts :: L)
   (fun _ L' => L' = gT mt (ts.filter fun u => !decide (u.2.2.stamp = 0)) :: trsH (ts.filter fun u => !decide (u.2.2.stamp = 0)) :: L) := by
 refine CallsS.of_body Tryz.func92 rfl rfl rfl ?_
 refine Q.r ?_;(repeat (intro b1;refine Q.r ?_))
 refine S.rg rfl (fun r => ?_)
 refine opsS_ent itO_itK ?_
 refine Q.r ?_;(repeat (intro b1;refine Q.r ?_))
 refine swp_loop (σ := List Int × Option Int) (fun _ => [(0,.map (some mt)),(1,.func (.func 93) #[] #[]),(7,.pointer (some ⟨r,0,none⟩))])
  (fun s => itK U64 ptT mt r (ts.filter (keepG s.1)) s.1 s.2 :: trsH (ts.filter (keepG s.1)) :: L) (fun s => s.1.Nodup ∧ ∀ x ∈ s.1,x ∈ ts.map (·.1)) (fun s => ts.length - s.1.length) ([],none) ⟨rfl,rfl,rfl,trivial⟩ (by rw [keep_nil];exact Go.SX.Ent.go) ⟨List.nodup_nil,fun _ h => by cases h⟩ ?_
 rintro ⟨done,last⟩ ⟨hd1,hd2⟩
 dsimp only at hd1 hd2 ⊢
 refine Q.r ?_;(repeat (intro b1;refine Q.r ?_))
 refine S.nxK rfl (fun hend => ?_) (fun u hu hn => ?_)
 ·have he := keep_end (fun u hu => hend u hu)
  refine Q.r ?_;(repeat (intro b1;refine Q.r ?_))
  rw [he]
  refine N.n0 RV.nil itK_map ?_
  rfl
 ·obtain ⟨k,hkk⟩ := List.mem_iff_getElem?.1 hu
  have hut := (List.mem_filter.1 hu).1
  have hnd : (done ++ [u.1]).Nodup := List.nodup_append.2 ⟨hd1,by simp,fun x hx y hy => by simp at hy;subst hy;exact fun e => hn (e ▸ hx)⟩
  have hmm : ∀ x ∈ done ++ [u.1],x ∈ ts.map (·.1) := fun x hx => by
   rcases List.mem_append.1 hx with h | h
   ·exact hd2 x h
   ·rw [List.mem_singleton.1 h];exact List.mem_map_of_mem (f := fun u : TB => u.1) hut
  have hlen : (done ++ [u.1]).length ≤ ts.length := by
   have := List.Nodup.length_le_of_subset hnd (fun x hx => hmm x hx)
   rwa [List.length_map] at this
  rw [List.length_append,List.length_singleton] at hlen
  refine Q.r ?_;(repeat (intro b1;refine Q.r ?_))
  refine S.y (Y.enK rfl hu) ?_
  refine Q.r ?_;(repeat (intro b1;refine Q.r ?_))
  refine opsS_trs hkk ?_
  refine S.crF (fs := []) (cs := []) rfl rfl (Gzero_spec u.1 u.2 _) ?_
  rintro _ _ ⟨rfl,rfl⟩
  by_cases hs : u.2.2.stamp = 0
  ·rw [decide_eq_true hs]
   refine Q.r ?_;(repeat (intro b1;refine Q.r ?_))
   refine S.dlK r (g := U64) (q := u.1) rfl rfl ?_
   refine Q.r ?_;(repeat (intro b1;refine Q.r ?_))
   refine ⟨(done ++ [u.1],none),⟨rfl,rfl,rfl,trivial⟩,?_,⟨hnd,hmm⟩,by dsimp only;rw [List.length_append,List.length_singleton];omega⟩
   dsimp only
   rw [keep_go hk hut hs,show trsH (delL (ts.filter (keepG done)) u.1) = trsH ((ts.filter (keepG done)).eraseIdx k) from congrArg trsH (del_erase (keys_filter hk _) hkk)]
   exact Go.SX.Ent.go
  ·rw [decide_eq_false hs]
   refine Q.r ?_;(repeat (intro b1;refine Q.r ?_))
   refine ⟨(done ++ [u.1],some u.1),⟨rfl,rfl,rfl,trivial⟩,?_,⟨hnd,hmm⟩,by dsimp only;rw [List.length_append,List.length_singleton];omega⟩
   dsimp only
   rw [keep_stay hk hut hs]
   exact Ent.trans (trs_back hkk) (by exact Go.SX.Ent.go)
set_option maxHeartbeats 4000000 in
theorem Greign_spec (n : NA) (M : Nat → Option Obj) (p : Nat) (j : JG) (L : List HP) (hw : WG j) (hr : rightN n = true) (hk : n.kind = 16) :
  CallsS Tryz.prog 37 [ptrG p,.int .u64 n.mark] (jdgH M p j :: roM M :: L) (appR n M p j L) := by
 unfold appR
 refine calls_jdg fun mt md ts hq => ?_
 refine CallsS.of_body Tryz.func37 rfl rfl rfl ?_
 have hE := appGE16 (j := j) hr hk
 by_cases hle : n.mark ≤ j.epoch
 ·rw [if_pos hle] at hE
  refine Q.r ?_;(repeat (intro b1;refine Q.r ?_))
  exact N.r1 (RV.tmp rfl RV.nil) (Ent.trans (M := gP p j mt md :: gT mt ts :: trsH ts :: gD md j.done :: roM M :: L) (by exact Go.SX.Ent.go) (jdg_shut hq)) ⟨M,by rw [hE],leM.refl M,by rw [appGno (by rw [hE];decide)]⟩
 ·rw [if_neg hle] at hE
  refine Q.r ?_;(repeat (intro b1;refine Q.r ?_))
  refine S.c2 (A := gT mt ts) (B := trsH ts) rfl (GDel_spec mt ts (ts_keys hq.tr hw.kt) _) ?_
  rintro _ _ rfl
  refine Q.r ?_;(repeat (intro b1;refine Q.r ?_))
  have hq2 : GQ' M { j with epoch := n.mark,seq := 0,tr := j.tr.filter fun u => !decide (u.2.stamp = 0) } (ts.filter fun u => !decide (u.2.2.stamp = 0)) := ⟨hq.s1,hq.s2,by rw [← hq.tr,List.filter_map];rfl,fun u hu => hq.ok u (List.mem_filter.1 hu).1⟩
  refine N.r1 (RV.tmp rfl RV.nil) (Ent.trans (M := gP p { j with epoch := n.mark,seq := 0,tr := j.tr.filter fun u => !decide (u.2.stamp = 0) } mt md :: gT mt (ts.filter fun u => !decide (u.2.2.stamp = 0)) :: trsH (ts.filter fun u => !decide (u.2.2.stamp = 0)) :: gD md j.done :: roM M :: L) (by exact Go.SX.Ent.go) (jdg_shut hq2)) ⟨M,by rw [hE],leM.refl M,by rw [appG16 hE hk]⟩
theorem GApply_spec (n : NV) (M : Nat → Option Obj) (p : Nat) (j : JG) (L : List HP) (hw : WG j) (hn : okN M n) (hN : OkN n) (hT : TabM M) (hu : NumN n) (hu2 : n.txn < 18446744073709551616) :
  CallsS Tryz.prog 13 [ptrG p,n.val] (jdgH M p j :: roM M :: L) (appR n.abs M p j L) :=
 GApply_spec' n M p j L hw hn hN hT hu hu2 (fun hk hr L => Greign_spec n.abs M p j L hw hr hk)
abbrev keyT (t : TV) : Int × TR := (t.txn,t.abs)
structure okC (t : TV) : Prop where
 y : t.yes.length ≤ t.yc
 k : t.acked.length ≤ t.kc
structure RG (M : Nat → Option Obj) (j : JG) (ta : Option Addr) (tc : Nat) (ts : List TV) (da : Option Addr) (ds : List (Int × Int)) : Prop where
 s1 : 1 ≤ j.shards
 s2 : j.shards ≤ 4
 tp : (ts.map keyT).Perm j.tr
 sT : (ts.map (·.txn)).Pairwise (· < ·)
 ok : ∀ t ∈ ts,okT M t
 oc : ∀ t ∈ ts,okC t
 tS : SlM M ta ts.length 9 (ts.flatMap TV.cells)
 tc : ts.length ≤ tc
 dp : ds.Perm j.done
 sD : (ds.map (·.1)).Pairwise (· < ·)
 dS : SlM M da ds.length 2 (ds.flatMap dC)
theorem RG.mono {M M' : Nat → Option Obj} {j : JG} {ta da : Option Addr} {tc : Nat} {ts : List TV} {ds : List (Int × Int)} (h : RG M j ta tc ts da ds) (hl : leM M M') : RG M' j ta tc ts da ds :=
 ⟨h.s1,h.s2,h.tp,h.sT,fun t ht => (h.ok t ht).mono hl,h.oc,h.tS.mono hl,h.tc,h.dp,h.sD,h.dS.mono hl⟩
abbrev rgP (p : Nat) (j : JG) (ta : Option Addr) (tc : Nat) (ts : List TV) (da : Option Addr) (dc : Nat) (ds : List (Int × Int)) : HP := pt p (cl [.int .i64 j.shards,.int .i64 j.dim,.int .u64 j.epoch,.int .u64 j.seq,.int .u64 j.last,.slice ta ts.length tc,.slice da ds.length dc] 33)
structure RGX where
 ta : Option Addr
 tc : Nat
 ts : List TV
 da : Option Addr
 dc : Nat
 ds : List (Int × Int)
def rgH (M : Nat → Option Obj) (p : Nat) (j : JG) : HP := exH fun x : RGX => allH [pureH (RG M j x.ta x.tc x.ts x.da x.ds),rgP p j x.ta x.tc x.ts x.da x.dc x.ds]
theorem rg_shut {p dc : Nat} {M : Nat → Option Obj} {j : JG} {ta da : Option Addr} {tc : Nat} {ts : List TV} {ds : List (Int × Int)} {L : List HP} (h : RG M j ta tc ts da ds) : Ent (rgP p j ta tc ts da dc ds :: L) (rgH M p j :: L) :=
 Ent.trans (Ent.shut_pure h) (Ent.trans (Ent.shut_all (L := [_,_])) (Ent.shut_ex (P := fun x : RGX => allH [pureH (RG M j x.ta x.tc x.ts x.da x.ds),rgP p j x.ta x.tc x.ts x.da x.dc x.ds]) ⟨ta,tc,ts,da,dc,ds⟩))
theorem rg_open {p : Nat} {M : Nat → Option Obj} {j : JG} {L L' : List HP} (h : ∀ ta tc ts da dc ds,RG M j ta tc ts da ds → Ent (rgP p j ta tc ts da dc ds :: L) L') : Ent (rgH M p j :: L) L' :=
 Ent.ex fun x => Ent.open_all.trans (Ent.pure fun hx => h x.ta x.tc x.ts x.da x.dc x.ds hx)
theorem rg_mono {p : Nat} {M M' : Nat → Option Obj} {j : JG} {L : List HP} (hl : leM M M') : Ent (rgH M p j :: L) (rgH M' p j :: L) := rg_open fun _ _ _ _ _ _ hq => rg_shut (hq.mono hl)
theorem calls_rg {g : FuncId} {args : List Value} {R : Value → List HP → Prop} {p : Nat} {M : Nat → Option Obj} {j : JG} {L : List HP}
  (h : ∀ ta tc ts da dc ds,RG M j ta tc ts da ds → CallsS Tryz.prog g args (rgP p j ta tc ts da dc ds :: L) R) : CallsS Tryz.prog g args (rgH M p j :: L) R :=
 CallsS.ex fun x => CallsS.all (CallsS.pure fun hx => h x.ta x.tc x.ts x.da x.dc x.ds hx)
class PickRG (p : Nat) (L : List HP) (M : outParam (Nat → Option Obj)) (j : outParam JG) (L0 : outParam (List HP)) : Prop where
 ent : Ent L (rgH M p j :: L0)
instance PickRG.here {p : Nat} {M : Nat → Option Obj} {L : List HP} {j : JG} : PickRG p (rgH M p j :: L) M j L := ⟨Ent.refl _⟩
instance (priority := low) PickRG.there {p : Nat} {M : Nat → Option Obj} {A : HP} {L L0 : List HP} {j : JG} [h : PickRG p L M j L0] : PickRG p (A :: L) M j (A :: L0) := ⟨(h.ent.cons).trans (Ent.perm (.swap _ _ _))⟩
section
variable {n : Nat} {ops rest : List Oper} {cd : Code} {Q : Post} {f : Env} {L L0 : List HP} {M : Nat → Option Obj} {j : JG}
theorem swp_rg (p : Nat) [hp : PickRG p L M j L0] (h : ∀ ta tc ts da dc ds,RG M j ta tc ts da ds → swp Tryz.prog n cd Q f (rgP p j ta tc ts da dc ds :: L0)) : swp Tryz.prog n cd Q f L :=
 swp_ent hp.ent (swp_ex fun x => swp_all (swp_pure fun hx => h x.ta x.tc x.ts x.da x.dc x.ds hx))
theorem opsS_rg (p : Nat) [hp : PickRG p L M j L0] (h : ∀ ta tc ts da dc ds,RG M j ta tc ts da ds → opsS Tryz.prog n ops rest Q f (rgP p j ta tc ts da dc ds :: L0)) : opsS Tryz.prog n ops rest Q f L :=
 opsS_ent hp.ent (opsS_ex fun x => opsS_all (opsS_pure fun hx => h x.ta x.tc x.ts x.da x.dc x.ds hx))
theorem opsS_rgm (p : Nat) [hp : PickRG p L M j L0] {M' : Nat → Option Obj} (hl : leM M M') (hk : opsS Tryz.prog n ops rest Q f (rgH M' p j :: L0)) : opsS Tryz.prog n ops rest Q f L := opsS_ent (hp.ent.trans (rg_mono hl)) hk
theorem swp_rgm (p : Nat) [hp : PickRG p L M j L0] {M' : Nat → Option Obj} (hl : leM M M') (hk : swp Tryz.prog n cd Q f (rgH M' p j :: L0)) : swp Tryz.prog n cd Q f L := swp_ent (hp.ent.trans (rg_mono hl)) hk
theorem S.crg {d : Tmp} {ty : TypeId} {pos : String} {af : Array Edge} {g : FuncId} {xs : Array Operand} {ats : Array TypeId} {args : List Value} {R : Value → List HP → Prop} {M2 : Nat → Option Obj} {L1 : List HP} (p : Nat) [hp : PickRG p L M j L0] [hm : PickM L0 M2 L1] [he : Enters Tryz.prog g]
  (hx : argsL f xs.toList = some args) (hc : CallsS Tryz.prog g args (rgH M p j :: roM M2 :: L1) R) (hk : ∀ v L',R v L' → opsS Tryz.prog n ops rest Q (upd f d v) L') :
  opsS Tryz.prog n ops (⟨some d,.call ⟨.value (.func g),xs,ats⟩,ty,pos,af,none⟩ :: rest) Q f L := opsS_ent (hp.ent.trans (Ent.cons hm.ent)) (S.cr hx hc hk)
end
theorem rgclose {p dc : Nat} {M : Nat → Option Obj} {j : JG} {ta da : Option Addr} {tc : Nat} {ts : List TV} {ds : List (Int × Int)} {L L0 : List HP} [h1 : Pick (rgP p j ta tc ts da dc ds) L L0] (hq : RG M j ta tc ts da ds) : Ent L (rgH M p j :: L0) := Ent.trans h1.ent (rg_shut hq)
section
variable {M M' : Nat → Option Obj} {j j' : JG} {ta ta' da da' : Option Addr} {tc tc' : Nat} {ts ts' : List TV} {ds ds' : List (Int × Int)}
theorem RG.len (h : RG M j ta tc ts da ds) : ts.length = j.tr.length := by have := h.tp.length_eq;rwa [List.length_map] at this
theorem RG.dlen (h : RG M j ta tc ts da ds) : ds.length = j.done.length := h.dp.length_eq
theorem RG.has (h : RG M j ta tc ts da ds) (hk : keysOK j.tr) {u : TV} (hu : u ∈ ts) : lkL j.tr u.txn = some u.abs :=
 (lkL_iff hk).2 (h.tp.mem_iff.1 (List.mem_map.2 ⟨u,hu,rfl⟩))
theorem RG.no (h : RG M j ta tc ts da ds) {x : Int} (hn : ∀ u ∈ ts,u.txn ≠ x) : lkL j.tr x = none := by
 refine lkL_none fun w hw => ?_
 obtain ⟨u,hu,rfl⟩ := List.mem_map.1 (h.tp.mem_iff.2 hw)
 exact hn u hu
theorem RG.any (h : RG M j ta tc ts da ds) (b : Int) : (j.tr.any fun u => decide (u.2.batch = b)) = ts.any fun u => decide (u.batch = b) := by
 rw [← h.tp.any_eq,List.any_map];rfl
theorem RG.keys (h : RG M j ta tc ts da ds) : sortL (j.tr.map (·.1)) = ts.map (·.txn) := by
 refine sorted_uniq ((sortL_perm _).trans ?_) (sortL_sorted _) (h.sT.imp fun h => Int.le_of_lt h)
 have := (h.tp.map (·.1)).symm
 rwa [List.map_map] at this
theorem RG.abs (h : RG M j ta tc ts da ds) (hk : keysOK j.tr) : (sortL (j.tr.map (·.1))).filterMap (fun x => lkL j.tr x) = ts.map TV.abs := by
 rw [h.keys,List.filterMap_map]
 have : ∀ l : List TV,(∀ u ∈ l,u ∈ ts) → l.filterMap ((fun x => lkL j.tr x) ∘ fun t => t.txn) = l.map TV.abs := by
  intro l
  induction l with
  | nil => exact fun _ => rfl
  | cons u l ih =>
   intro hl
   rw [List.filterMap_cons]
   have e : ((fun x => lkL j.tr x) ∘ fun t : TV => t.txn) u = some u.abs := h.has hk (hl u List.mem_cons_self)
   rw [e,List.map_cons,← ih fun v hv => hl v (List.mem_cons_of_mem _ hv)]
 exact this ts fun _ h => h
theorem RG.of (h : RG M j ta tc ts da ds) (hl : leM M M') (hs : j'.shards = j.shards) (tp : (ts'.map keyT).Perm j'.tr) (sT : (ts'.map (·.txn)).Pairwise (· < ·)) (ok : ∀ t ∈ ts',okT M' t ∧ okC t) (tS : SlM M' ta' ts'.length 9 (ts'.flatMap TV.cells)) (hc : ts'.length ≤ tc') (hd : j'.done = j.done) : RG M' j' ta' tc' ts' da ds :=
 ⟨hs ▸ h.s1,hs ▸ h.s2,tp,sT,fun t ht => (ok t ht).1,fun t ht => (ok t ht).2,tS,hc,hd ▸ h.dp,h.sD,h.dS.mono hl⟩
theorem RG.ofD (h : RG M j ta tc ts da ds) (hl : leM M M') (hs : j'.shards = j.shards) (htr : j'.tr = j.tr) {d : Int × Int} (hk : keysOK j.done) (hd : j'.done = putL j.done d.1 d.2) (dS : SlM M' da' (insD ds d).length 2 ((insD ds d).flatMap dC)) : RG M' j' ta tc ts da' (insD ds d) :=
 ⟨hs ▸ h.s1,hs ▸ h.s2,htr ▸ h.tp,h.sT,fun t ht => (h.ok t ht).mono hl,h.oc,h.tS.mono hl,h.tc,hd ▸ insD_perm h.dp hk d,insD_sorted h.sD d,dS⟩
theorem RG.same (h : RG M j ta tc ts da ds) (hs : j'.shards = j.shards) (htr : j'.tr = j.tr) (hd : j'.done = j.done) : RG M j' ta tc ts da ds :=
 ⟨hs ▸ h.s1,hs ▸ h.s2,htr ▸ h.tp,h.sT,h.ok,h.oc,h.tS,h.tc,hd ▸ h.dp,h.sD,h.dS⟩
end
def insT (ts : List TV) (t : TV) : List TV := ts.takeWhile (fun u => decide (u.txn < t.txn)) ++ t :: ts.dropWhile (fun u => decide (u.txn < t.txn))
theorem split_at {α : Type} {l : List α} {k : Nat} {u : α} (h : l[k]? = some u) : l = l.take k ++ u :: l.drop (k + 1) := by
 obtain ⟨h1,h2⟩ := List.getElem?_eq_some_iff.1 h
 subst h2
 rw [List.getElem_cons_drop,List.take_append_drop]
theorem txn_ne {ts : List TV} (hs : (ts.map (·.txn)).Pairwise (· < ·)) {p q : List TV} {u : TV} (e : ts = p ++ u :: q) : (∀ v ∈ p,v.txn < u.txn) ∧ ∀ v ∈ q,u.txn < v.txn := by
 subst e
 rw [List.map_append,List.map_cons,List.pairwise_append,List.pairwise_cons] at hs
 exact ⟨fun v hv => hs.2.2 _ (List.mem_map_of_mem hv) _ List.mem_cons_self,fun v hv => hs.2.1.1 _ (List.mem_map_of_mem hv)⟩
theorem set_mid {α : Type} {p q : List α} {u v : α} : (p ++ u :: q).set p.length v = p ++ v :: q := by
 rw [List.set_append_right _ _ (Nat.le_refl _),Nat.sub_self];rfl
theorem erase_mid {α : Type} {p q : List α} {u : α} : (p ++ u :: q).eraseIdx p.length = p ++ q := by
 rw [List.eraseIdx_append_of_length_le (Nat.le_refl _),Nat.sub_self];rfl
theorem delL_keyT {p q : List TV} {u : TV} (hp : ∀ v ∈ p,v.txn < u.txn) (hq : ∀ v ∈ q,u.txn < v.txn) : delL ((p ++ u :: q).map keyT) u.txn = (p ++ q).map keyT := by
 unfold delL
 rw [List.map_append,List.map_cons,List.filter_append,List.filter_cons,if_neg (by simp),List.map_append]
 rw [List.filter_eq_self.2 (fun w hw => by obtain ⟨v,hv,rfl⟩ := List.mem_map.1 hw;have := hp v hv;simp;omega),List.filter_eq_self.2 (fun w hw => by obtain ⟨v,hv,rfl⟩ := List.mem_map.1 hw;have := hq v hv;simp;omega)]
theorem set_keyT {tr : List (Int × TR)} {ts : List TV} (hp : (ts.map keyT).Perm tr) (hk : keysOK tr) (hs : (ts.map (·.txn)).Pairwise (· < ·)) {k : Nat} {u t : TV} (h : ts[k]? = some u) (ht : t.txn = u.txn) : ((ts.set k t).map keyT).Perm (putL tr u.txn t.abs) ∧ ((ts.set k t).map (·.txn)).Pairwise (· < ·) := by
 have hkl : k < ts.length := (List.getElem?_eq_some_iff.1 h).1
 have e := split_at h
 have htl : (ts.take k).length = k := by rw [List.length_take];omega
 generalize ts.take k = p at e htl
 generalize ts.drop (k + 1) = q at e
 subst e htl
 obtain ⟨h1,h2⟩ := txn_ne hs rfl
 rw [set_mid]
 constructor
 ·refine List.Perm.trans ?_ (putL_perm hk u.txn t.abs)
  have h3 : (delL ((p ++ u :: q).map keyT) u.txn).Perm (delL tr u.txn) := hp.filter _
  rw [delL_keyT h1 h2] at h3
  refine List.Perm.trans ?_ (h3.append_right _)
  rw [List.map_append,List.map_cons,List.map_append]
  have e2 : keyT t = (u.txn,t.abs) := by show (t.txn,t.abs) = _;rw [ht]
  rw [e2]
  exact List.perm_middle.trans (List.perm_append_comm (l₁ := [(u.txn,t.abs)]))
 ·have e2 : (p ++ t :: q).map (·.txn) = (p ++ u :: q).map (·.txn) := by rw [List.map_append,List.map_append,List.map_cons,List.map_cons,ht]
  rw [e2];exact hs
theorem del_keyT {tr : List (Int × TR)} {ts : List TV} (hp : (ts.map keyT).Perm tr) (hs : (ts.map (·.txn)).Pairwise (· < ·)) {k : Nat} {u : TV} (h : ts[k]? = some u) : ((ts.eraseIdx k).map keyT).Perm (delL tr u.txn) ∧ ((ts.eraseIdx k).map (·.txn)).Pairwise (· < ·) := by
 have hkl : k < ts.length := (List.getElem?_eq_some_iff.1 h).1
 have e := split_at h
 have htl : (ts.take k).length = k := by rw [List.length_take];omega
 generalize ts.take k = p at e htl
 generalize ts.drop (k + 1) = q at e
 subst e htl
 obtain ⟨h1,h2⟩ := txn_ne hs rfl
 rw [erase_mid]
 constructor
 ·have h3 : (delL ((p ++ u :: q).map keyT) u.txn).Perm (delL tr u.txn) := hp.filter _
  rwa [delL_keyT h1 h2] at h3
 ·refine List.Pairwise.sublist ?_ hs
  rw [List.map_append,List.map_append,List.map_cons]
  exact List.Sublist.append_left (List.sublist_cons_self _ _) _
theorem insT_eq {ts : List TV} {t : TV} {k : Nat} (h1 : ∀ u ∈ ts.take k,u.txn < t.txn) (h2 : ∀ u,ts[k]? = some u → ¬ u.txn < t.txn) : insT ts t = ts.take k ++ t :: ts.drop k := by
 have key : ∀ (l : List TV) (k : Nat),(∀ u ∈ l.take k,u.txn < t.txn) → (∀ u,l[k]? = some u → ¬ u.txn < t.txn) → l.takeWhile (fun u => decide (u.txn < t.txn)) = l.take k ∧ l.dropWhile (fun u => decide (u.txn < t.txn)) = l.drop k := by
  intro l
  induction l with
  | nil => intro k _ _;simp
  | cons a l ih =>
   intro k h1 h2
   cases k with
   | zero =>
    have := h2 a rfl
    rw [List.takeWhile_cons,List.dropWhile_cons,decide_eq_false this]
    exact ⟨rfl,rfl⟩
   | succ k =>
    have ha := h1 a (by simp)
    obtain ⟨i1,i2⟩ := ih k (fun u hu => h1 u (by rw [List.take_succ_cons];exact List.mem_cons_of_mem _ hu)) (fun u hu => h2 u hu)
    rw [List.takeWhile_cons,List.dropWhile_cons,decide_eq_true ha,if_pos rfl,if_pos rfl,i1,i2]
    exact ⟨rfl,rfl⟩
 obtain ⟨i1,i2⟩ := key ts k h1 h2
 unfold insT
 rw [i1,i2]
theorem ins_keyT {tr : List (Int × TR)} {ts : List TV} (hp : (ts.map keyT).Perm tr) (hs : (ts.map (·.txn)).Pairwise (· < ·)) {t : TV} (h : ∀ u ∈ ts,u.txn ≠ t.txn) : ((insT ts t).map keyT).Perm (putL tr t.txn t.abs) ∧ ((insT ts t).map (·.txn)).Pairwise (· < ·) := by
 have hn : ∀ u ∈ tr,u.1 ≠ t.txn := fun w hw => by
  obtain ⟨u,hu,rfl⟩ := List.mem_map.1 (hp.mem_iff.2 hw)
  exact h u hu
 constructor
 ·rw [putL_none hn]
  unfold insT
  rw [List.map_append,List.map_cons]
  refine List.perm_middle.trans ?_
  rw [← List.map_append,List.takeWhile_append_dropWhile]
  exact (hp.cons _).trans (List.perm_append_comm (l₁ := [keyT t]))
 ·unfold insT
  rw [List.map_append,List.map_cons,List.pairwise_append,List.pairwise_cons]
  have h0 : ts = ts.takeWhile (fun u => decide (u.txn < t.txn)) ++ ts.dropWhile (fun u => decide (u.txn < t.txn)) := (List.takeWhile_append_dropWhile).symm
  have hs2 := hs
  rw [h0,List.map_append,List.pairwise_append] at hs2
  have hlt : ∀ u ∈ ts.takeWhile (fun u => decide (u.txn < t.txn)),u.txn < t.txn := by
   intro u hu
   have := List.all_eq_true.1 (List.all_takeWhile (p := fun u : TV => decide (u.txn < t.txn)) (l := ts)) u hu
   simpa using this
  have hge : ∀ u ∈ ts.dropWhile (fun u => decide (u.txn < t.txn)),t.txn < u.txn := by
   have h3 : ∀ u ∈ ts.dropWhile (fun u => decide (u.txn < t.txn)),u ∈ ts := fun u hu => (List.dropWhile_sublist _).subset hu
   cases hd : ts.dropWhile (fun u => decide (u.txn < t.txn)) with
   | nil => intro u hu;cases hu
   | cons a l =>
    have ha : ¬ a.txn < t.txn := by
     have := List.head_dropWhile_not (fun u : TV => decide (u.txn < t.txn)) (l := ts) (by rw [hd];simp)
     simp only [hd,List.head_cons] at this
     simpa using this
    rw [hd] at hs2 h3
    have ha2 := h a (h3 a List.mem_cons_self)
    have h4 := hs2.2.1
    rw [List.map_cons,List.pairwise_cons] at h4
    intro u hu
    rcases List.mem_cons.1 hu with rfl | hu
    ·omega
    ·have := h4.1 u.txn (List.mem_map_of_mem hu)
     omega
  refine ⟨hs2.1,⟨fun x hx => ?_,hs2.2.1⟩,fun x hx y hy => ?_⟩
  ·obtain ⟨u,hu,rfl⟩ := List.mem_map.1 hx
   exact hge u hu
  ·obtain ⟨u,hu,rfl⟩ := List.mem_map.1 hx
   rcases List.mem_cons.1 hy with rfl | hy
   ·exact hlt u hu
   ·obtain ⟨v,hv,rfl⟩ := List.mem_map.1 hy
    have := hlt u hu
    have := hge v hv
    omega
theorem fil_keyT {tr : List (Int × TR)} {ts : List TV} (hp : (ts.map keyT).Perm tr) (hs : (ts.map (·.txn)).Pairwise (· < ·)) (g : TR → Bool) : ((ts.filter fun u => g u.abs).map keyT).Perm (tr.filter fun u => g u.2) ∧ ((ts.filter fun u => g u.abs).map (·.txn)).Pairwise (· < ·) := by
 constructor
 ·have := hp.filter (fun u : Int × TR => g u.2)
  rw [List.filter_map] at this
  exact this
 ·exact List.Pairwise.sublist (List.Sublist.map _ List.filter_sublist) hs
theorem Ris_spec (a : Option Addr) (c : Nat) (xs : List Int) (x : Int) (A : List HP) (h : RdS A a xs.length 1 (xs.map I64)) (hn : xs.length ≤ 1000000) :
  CallsS Tryz.prog 76 [.slice a xs.length c,.int .i64 x] A (fun r L' => r = .bool (decide (x ∈ xs)) ∧ L' = A) := by
 refine CallsS.of_body Tryz.func76 rfl rfl rfl ?_
 refine Q.r ?_;(repeat (intro b1;refine Q.r ?_))
 refine swp_loop (σ := Nat) (fun k => [(1,.int .i64 x),(7,.slice a xs.length c),(8,.int .i64 xs.length),(9,.int .i64 k)])
  (fun _ => A) (fun k => k ≤ xs.length ∧ x ∉ xs.take k) (fun k => xs.length - k) 0 ⟨rfl,rfl,rfl,rfl,trivial⟩ (Ent.refl _) ⟨Nat.zero_le _,by simp⟩ ?_
 rintro k ⟨hk,hx⟩
 by_cases hlt : k < xs.length
 ·obtain ⟨q,hq⟩ := mem_get hlt
  obtain ⟨b,oo,hia,hr⟩ := RdS.elem (g := fun z : Int => [I64 z]) (fun _ => rfl) (by rw [flat_I64];exact h) hq rfl
  rw [hia]
  by_cases he : q = x
  ·subst he
   refine Q.r ?_;(repeat (intro b1;refine Q.r ?_))
   exact N.r1 (RV.tmp rfl RV.nil) (Ent.refl _) ⟨by rw [decide_eq_true (List.mem_of_getElem? hq)],rfl⟩
  ·refine Q.r ?_;(repeat (intro b1;refine Q.r ?_))
   refine ⟨k + 1,⟨rfl,rfl,rfl,rfl,trivial⟩,Ent.refl _,⟨by omega,?_⟩,by omega⟩
   rw [take_snoc hq,List.mem_append,List.mem_singleton]
   exact fun h => h.elim hx (fun e => he e.symm)
 ·have hke : k = xs.length := by omega
  subst hke
  rw [List.take_length] at hx
  refine Q.r ?_;(repeat (intro b1;refine Q.r ?_))
  exact N.r1 (RV.tmp rfl RV.nil) (Ent.refl _) ⟨by rw [decide_eq_false hx],rfl⟩
theorem putI_eq {l : List Int} {n : Int} {k : Nat} (h1 : ∀ u ∈ l.take k,u < n) (h2 : ∀ u,l[k]? = some u → ¬ u < n) : putI l n = l.take k ++ n :: l.drop k := by
 have key : ∀ (l : List Int) (k : Nat),(∀ u ∈ l.take k,u < n) → (∀ u,l[k]? = some u → ¬ u < n) → l.takeWhile (fun u => decide (u < n)) = l.take k ∧ l.dropWhile (fun u => decide (u < n)) = l.drop k := by
  intro l
  induction l with
  | nil => intro k _ _;simp
  | cons a l ih =>
   intro k h1 h2
   cases k with
   | zero =>
    have := h2 a rfl
    rw [List.takeWhile_cons,List.dropWhile_cons,decide_eq_false this]
    exact ⟨rfl,rfl⟩
   | succ k =>
    have ha := h1 a (by simp)
    obtain ⟨i1,i2⟩ := ih k (fun u hu => h1 u (by rw [List.take_succ_cons];exact List.mem_cons_of_mem _ hu)) (fun u hu => h2 u hu)
    rw [List.takeWhile_cons,List.dropWhile_cons,decide_eq_true ha,if_pos rfl,if_pos rfl,i1,i2]
    exact ⟨rfl,rfl⟩
 obtain ⟨i1,i2⟩ := key l k h1 h2
 unfold putI
 rw [i1,i2]
theorem Iz_one (xs : List Int) : (xs.flatMap fun z : Int => [I64 z]).all (·.oneCell') = true := by simp [Value.oneCell']
theorem Rput_spec (a : Option Addr) (c : Nat) (xs : List Int) (x : Int) (A : List HP) (h : RdS A a xs.length 1 (xs.map I64)) (hc : xs.length ≤ c) (hn : xs.length ≤ 1000000) :
  CallsS Tryz.prog 77 [.slice a xs.length c,.int .i64 x] A (fun r L' => ∃ a' c',r = .slice a' (putI xs x).length c' ∧ L' = slO 3 1 a' (putI xs x).length c' ((putI xs x).map I64) :: A) := by
 rw [← flat_I64] at h
 refine CallsS.of_body Tryz.func77 rfl rfl rfl ?_
 refine Q.r ?_;(repeat (intro b1;refine Q.r ?_))
 refine swp_cutB (σ := Nat) (fun k => [(0,.slice a xs.length c),(1,.int .i64 x),(5,.int .i64 k)]) (fun _ => A)
  (fun k => k ≤ xs.length ∧ (∀ u ∈ xs.take k,u < x) ∧ ∀ u,xs[k]? = some u → ¬ u < x) ?_ ?_
 ·refine swp_loop (σ := Nat) (fun k => [(0,.slice a xs.length c),(1,.int .i64 x),(5,.int .i64 k)]) (fun _ => A)
   (fun k => k ≤ xs.length ∧ ∀ u ∈ xs.take k,u < x) (fun k => xs.length - k) 0 ⟨rfl,rfl,rfl,trivial⟩ (Ent.refl _) ⟨by omega,by simp⟩ ?_
  rintro k ⟨hk,hall⟩
  by_cases hlt : k < xs.length
  ·obtain ⟨q,hq⟩ := mem_get hlt
   obtain ⟨b,oo,hia,hr⟩ := RdS.elem (g := fun z : Int => [I64 z]) (fun _ => rfl) h hq rfl
   rw [hia]
   by_cases he : q < x
   ·refine Q.r ?_;(repeat (intro b1;refine Q.r ?_))
    refine ⟨k + 1,⟨rfl,rfl,rfl,trivial⟩,Ent.refl _,⟨by omega,?_⟩,by omega⟩
    rw [take_snoc hq]
    intro u hu
    rcases List.mem_append.1 hu with hu | hu
    ·exact hall u hu
    ·obtain rfl := List.mem_singleton.1 hu
     exact he
   ·refine Q.r ?_;(repeat (intro b1;refine Q.r ?_))
    refine ⟨k,⟨rfl,rfl,rfl,trivial⟩,Ent.refl _,hk,hall,fun u hu => ?_⟩
    rw [hq] at hu
    cases hu
    exact he
  ·refine Q.r ?_;(repeat (intro b1;refine Q.r ?_))
   refine ⟨k,⟨rfl,rfl,rfl,trivial⟩,Ent.refl _,hk,hall,fun u hu => ?_⟩
   have := (List.getElem?_eq_some_iff.1 hu).1
   omega
 rintro k ⟨hk,hall,hnx⟩
 have hat : xs.length = 0 ∨ ∃ b o,a = some ⟨b,o,none⟩ := by
  rcases h.2 with h0 | ⟨b,o,h0,_⟩
  ·exact .inl h0
  ·exact .inr ⟨b,o,h0⟩
 have hI := putI_eq hall hnx
 have hlen : (putI xs x).length = k + 1 + (xs.length - k) := by rw [hI];simp;omega
 have hcells : (putI xs x).map I64 = (xs.flatMap fun z : Int => [I64 z]).take (k * 1) ++ [I64 x] ++ (xs.flatMap fun z : Int => [I64 z]).drop (k * 1) := by
  rw [flat_take (sz := 1) (fun _ => rfl),flat_drop (sz := 1) (fun _ => rfl),hI,flat_I64,flat_I64,List.map_append,List.map_cons,List.append_assoc];rfl
 rw [hlen,hcells]
 refine Q.r ?_;(repeat (intro b1;refine Q.r ?_))
 refine Q.dgo [] [0,4,6,7,11] [] [1,2,3,5,8,9,10,99999,0,0,0,0,0] ?_
 refine Q.rd ?_;(repeat (intro b1;refine Q.rd ?_))
 refine D.yp rfl rfl rfl (Y.slT (h := k) rfl rfl rfl (by omega)) ?_
 refine Q.rd ?_;(repeat (intro b1;refine Q.rd ?_))
 refine D.yp rfl rfl rfl (Y.slFa (l := k) rfl rfl rfl hk hat) ?_
 refine Q.rd ?_;(repeat (intro b1;refine Q.rd ?_))
 refine D.two 0 6 [99999,0,0,0,0] [0,4,7,11,12] (by kernel_rfl) rfl rfl rfl rfl (by kernel_rfl) (by kernel_rfl) ?_ ?_
 ·refine GQ.a ?_
  refine Q.al (fun bz => ?_)
  repeat (first | (refine GQ.y ?_;refine Q.y ?_) | refine Q.go ?_ | (refine GQ.g ?_;refine Q.gq ?_) | (refine GQ.s ?_;refine Q.st ?_))
  refine Q.rd ?_;(repeat (intro b1;refine Q.rd ?_))
  refine D.two 4 6 [6,7,11,12] [4,7,11,12] (by kernel_rfl) rfl rfl rfl rfl (by kernel_rfl) (by kernel_rfl) ?_ ?_
  ·first | refine opsS_ent (slO_fold (sz := 1) (m := 0) rfl) ?_ | refine opsS_ent (Ent.trans (Ent.perm (.swap _ _ _)) (slO_fold (sz := 1) (m := 0) rfl)) ?_
   refine S.app0 rfl rfl rfl (SrcS.rd (RdS.take (k := k) h.sub (by omega)) (by rw [flat_take (sz := 1) (fun _ => rfl)];exact Iz_one _)) (by rfl) (by omega) (by omega) (fun a6 c6 => ?_)
   repeat (first | (refine GQ.y ?_;refine Q.y ?_) | refine Q.go ?_ | (refine GQ.g ?_;refine Q.gq ?_) | (refine GQ.s ?_;refine Q.st ?_))
   refine Q.rd ?_;(repeat (intro b1;refine Q.rd ?_))
   refine D.e rfl rfl rfl ?_
   refine S.app rfl rfl (SrcS.sl RdC.row (by rfl) (by rfl)) (by rfl) (by omega) (by omega) (fun a7 c7 => ?_)
   repeat (first | (refine GQ.y ?_;refine Q.y ?_) | refine Q.go ?_ | (refine GQ.g ?_;refine Q.gq ?_) | (refine GQ.s ?_;refine Q.st ?_))
   refine Q.rd ?_;(repeat (intro b1;refine Q.rd ?_))
   refine D.e rfl rfl rfl ?_
   refine S.app rfl rfl (SrcS.rd (RdS.fromA (l := k) h.sub (by omega) hc) (by rw [flat_drop (sz := 1) (fun _ => rfl)];exact Iz_one _)) (by rfl) (by omega) (by omega) (fun a8 c8 => ?_)
   repeat (first | (refine GQ.y ?_;refine Q.y ?_) | refine Q.go ?_ | (refine GQ.g ?_;refine Q.gq ?_) | (refine GQ.s ?_;refine Q.st ?_))
   refine Q.rd ?_;(repeat (intro b1;refine Q.rd ?_))
   refine Q.r ?_;(repeat (intro b1;refine Q.r ?_))
   exact N.r1 (RV.tmp rfl RV.nil) (by exact Go.SX.Ent.go) ⟨a8,c8,rfl,rfl⟩
  ·refine GQ.a ?_
   refine Q.al (fun b8 => ?_)
   repeat (first | (refine GQ.y ?_;refine Q.y ?_) | refine Q.go ?_ | (refine GQ.g ?_;refine Q.gq ?_) | (refine GQ.s ?_;refine Q.st ?_))
   refine Q.rd ?_;(repeat (intro b1;refine Q.rd ?_))
   refine D.e rfl rfl rfl ?_
   first | refine opsS_ent (slO_fold (sz := 1) (m := 0) rfl) ?_ | refine opsS_ent (Ent.trans (Ent.perm (.swap _ _ _)) (slO_fold (sz := 1) (m := 0) rfl)) ?_
   refine S.app0 rfl rfl rfl (SrcS.rd (RdS.take (k := k) h.sub (by omega)) (by rw [flat_take (sz := 1) (fun _ => rfl)];exact Iz_one _)) (by rfl) (by omega) (by omega) (fun a6 c6 => ?_)
   repeat (first | (refine GQ.y ?_;refine Q.y ?_) | refine Q.go ?_ | (refine GQ.g ?_;refine Q.gq ?_) | (refine GQ.s ?_;refine Q.st ?_))
   refine Q.rd ?_;(repeat (intro b1;refine Q.rd ?_))
   refine D.e rfl rfl rfl ?_
   refine S.app rfl rfl (SrcS.sl RdC.row (by rfl) (by rfl)) (by rfl) (by omega) (by omega) (fun a7 c7 => ?_)
   repeat (first | (refine GQ.y ?_;refine Q.y ?_) | refine Q.go ?_ | (refine GQ.g ?_;refine Q.gq ?_) | (refine GQ.s ?_;refine Q.st ?_))
   refine Q.rd ?_;(repeat (intro b1;refine Q.rd ?_))
   refine D.e rfl rfl rfl ?_
   refine S.app rfl rfl (SrcS.rd (RdS.fromA (l := k) h.sub (by omega) hc) (by rw [flat_drop (sz := 1) (fun _ => rfl)];exact Iz_one _)) (by rfl) (by omega) (by omega) (fun a8 c8 => ?_)
   repeat (first | (refine GQ.y ?_;refine Q.y ?_) | refine Q.go ?_ | (refine GQ.g ?_;refine Q.gq ?_) | (refine GQ.s ?_;refine Q.st ?_))
   refine Q.rd ?_;(repeat (intro b1;refine Q.rd ?_))
   refine Q.r ?_;(repeat (intro b1;refine Q.r ?_))
   exact N.r1 (RV.tmp rfl RV.nil) (by exact Go.SX.Ent.go) ⟨a8,c8,rfl,rfl⟩
 ·refine GQ.a ?_
  refine Q.al (fun b8 => ?_)
  repeat (first | (refine GQ.y ?_;refine Q.y ?_) | refine Q.go ?_ | (refine GQ.g ?_;refine Q.gq ?_) | (refine GQ.s ?_;refine Q.st ?_))
  refine Q.rd ?_;(repeat (intro b1;refine Q.rd ?_))
  refine D.e rfl rfl rfl ?_
  first | refine opsS_ent (slO_fold (sz := 1) (m := 0) rfl) ?_ | refine opsS_ent (Ent.trans (Ent.perm (.swap _ _ _)) (slO_fold (sz := 1) (m := 0) rfl)) ?_
  refine S.app0 rfl rfl rfl (SrcS.rd (RdS.take (k := k) h.sub (by omega)) (by rw [flat_take (sz := 1) (fun _ => rfl)];exact Iz_one _)) (by rfl) (by omega) (by omega) (fun a6 c6 => ?_)
  repeat (first | (refine GQ.y ?_;refine Q.y ?_) | refine Q.go ?_ | (refine GQ.g ?_;refine Q.gq ?_) | (refine GQ.s ?_;refine Q.st ?_))
  refine Q.rd ?_;(repeat (intro b1;refine Q.rd ?_))
  refine D.e rfl rfl rfl ?_
  refine S.app rfl rfl (SrcS.sl RdC.row (by rfl) (by rfl)) (by rfl) (by omega) (by omega) (fun a7 c7 => ?_)
  repeat (first | (refine GQ.y ?_;refine Q.y ?_) | refine Q.go ?_ | (refine GQ.g ?_;refine Q.gq ?_) | (refine GQ.s ?_;refine Q.st ?_))
  refine Q.rd ?_;(repeat (intro b1;refine Q.rd ?_))
  refine D.e rfl rfl rfl ?_
  refine S.app rfl rfl (SrcS.rd (RdS.fromA (l := k) h.sub (by omega) hc) (by rw [flat_drop (sz := 1) (fun _ => rfl)];exact Iz_one _)) (by rfl) (by omega) (by omega) (fun a8 c8 => ?_)
  repeat (first | (refine GQ.y ?_;refine Q.y ?_) | refine Q.go ?_ | (refine GQ.g ?_;refine Q.gq ?_) | (refine GQ.s ?_;refine Q.st ?_))
  refine Q.rd ?_;(repeat (intro b1;refine Q.rd ?_))
  refine Q.r ?_;(repeat (intro b1;refine Q.r ?_))
  exact N.r1 (RV.tmp rfl RV.nil) (by exact Go.SX.Ent.go) ⟨a8,c8,rfl,rfl⟩
theorem RgFind_spec (p : Nat) (j : JG) (ta : Option Addr) (tc : Nat) (ts : List TV) (da : Option Addr) (dc : Nat) (ds : List (Int × Int)) (x : Int) (M : Nat → Option Obj) (A : List HP) (h : SlM M ta ts.length 9 (ts.flatMap TV.cells)) (hn : ts.length ≤ 1000000) :
  CallsS Tryz.prog 72 [.pointer (some ⟨p,0,none⟩),.int .u64 x] (rgP p j ta tc ts da dc ds :: roM M :: A) (fun r L' => ∃ z,r = .int .i64 z ∧ ((∃ (k : Nat) (u : TV),z = (k : Int) ∧ ts[k]? = some u ∧ u.txn = x) ∨ (z = -1 ∧ ∀ u ∈ ts,u.txn ≠ x)) ∧ L' = rgP p j ta tc ts da dc ds :: roM M :: A) := by
 refine CallsS.of_body Tryz.func72 rfl rfl rfl ?_
 refine Q.r ?_;(repeat (intro b1;refine Q.r ?_))
 refine swp_loop (σ := Nat) (fun k => [(1,.int .u64 x),(10,.slice ta ts.length tc),(11,.int .i64 ts.length),(12,.int .i64 k)]) (fun _ => rgP p j ta tc ts da dc ds :: roM M :: A)
  (fun k => k ≤ ts.length ∧ ∀ d ∈ ts.take k,d.txn ≠ x) (fun k => ts.length - k) 0 ⟨rfl,rfl,rfl,rfl,trivial⟩ (Ent.refl _) ⟨by omega,by simp⟩ ?_
 rintro k ⟨hk,hno⟩
 by_cases hlt : k < ts.length
 ·obtain ⟨d,hd⟩ := mem_get hlt
  obtain ⟨b,oo,hia,cr⟩ := SlM.cm (g := TV.cells) (fun _ => rfl) h hd rfl
  rw [hia]
  by_cases he : d.txn = x
  ·refine Q.r ?_;(repeat (intro b1;refine Q.r ?_))
   exact N.r1 (RV.tmp rfl RV.nil) (by exact Go.SX.Ent.go) ⟨_,rfl,.inl ⟨k,d,rfl,hd,he⟩,rfl⟩
  ·refine Q.r ?_;(repeat (intro b1;refine Q.r ?_))
   refine ⟨k + 1,⟨rfl,rfl,rfl,rfl,trivial⟩,by exact Go.SX.Ent.go,⟨by omega,?_⟩,by omega⟩
   rw [take_snoc hd]
   intro j hj
   rcases List.mem_append.1 hj with hj | hj
   ·exact hno j hj
   ·obtain rfl := List.mem_singleton.1 hj
    exact he
 ·have hke : k = ts.length := by omega
  subst hke
  rw [List.take_length] at hno
  refine Q.r ?_;(repeat (intro b1;refine Q.r ?_))
  exact N.r1 (RV.tmp rfl RV.nil) (Ent.refl _) ⟨_,rfl,.inr ⟨rfl,hno⟩,rfl⟩
theorem RCommitted_spec (p : Nat) (j : JG) (ta : Option Addr) (tc : Nat) (ts : List TV) (da : Option Addr) (dc : Nat) (ds : List (Int × Int)) (x : Int) (M : Nat → Option Obj) (A : List HP) (h : SlM M da ds.length 2 (ds.flatMap dC)) (hn : ds.length ≤ 1000000) :
  CallsS Tryz.prog 59 [.pointer (some ⟨p,0,none⟩),.int .u64 x] (rgP p j ta tc ts da dc ds :: roM M :: A) (fun r L' => r = .int .u64 ((lkL ds x).getD 0) ∧ L' = rgP p j ta tc ts da dc ds :: roM M :: A) := by
 refine CallsS.of_body Tryz.func59 rfl rfl rfl ?_
 refine Q.r ?_;(repeat (intro b1;refine Q.r ?_))
 refine swp_loop (σ := Nat) (fun k => [(1,.int .u64 x),(10,.slice da ds.length dc),(11,.int .i64 ds.length),(12,.int .i64 k)]) (fun _ => rgP p j ta tc ts da dc ds :: roM M :: A)
  (fun k => k ≤ ds.length ∧ ∀ d ∈ ds.take k,d.1 ≠ x) (fun k => ds.length - k) 0 ⟨rfl,rfl,rfl,rfl,trivial⟩ (Ent.refl _) ⟨by omega,by simp⟩ ?_
 rintro k ⟨hk,hno⟩
 by_cases hlt : k < ds.length
 ·obtain ⟨d,hd⟩ := mem_get hlt
  obtain ⟨b,oo,hia,cr⟩ := SlM.cm (g := dC) (fun _ => rfl) h hd rfl
  rw [hia]
  by_cases he : d.1 = x
  ·refine Q.r ?_;(repeat (intro b1;refine Q.r ?_))
   refine N.r1 (RV.tmp rfl RV.nil) (by exact Go.SX.Ent.go) ⟨?_,rfl⟩
   subst he
   rw [lkL_at hd hno];rfl
  ·refine Q.r ?_;(repeat (intro b1;refine Q.r ?_))
   refine ⟨k + 1,⟨rfl,rfl,rfl,rfl,trivial⟩,by exact Go.SX.Ent.go,⟨by omega,?_⟩,by omega⟩
   rw [take_snoc hd]
   intro j hj
   rcases List.mem_append.1 hj with hj | hj
   ·exact hno j hj
   ·obtain rfl := List.mem_singleton.1 hj
    exact he
 ·have hke : k = ds.length := by omega
  subst hke
  rw [List.take_length] at hno
  refine Q.r ?_;(repeat (intro b1;refine Q.r ?_))
  refine N.r1 (RV.tmp rfl RV.nil) (Ent.refl _) ⟨?_,rfl⟩
  rw [lkL_none hno];rfl
theorem Mul64_spec (x y : Int) (L : List HP) : CallsS Tryz.prog 154 [.int .u64 x,.int .u64 y] L (fun r L' => (∃ h,r = .tuple #[.int .u64 h,.int .u64 (IntKind.u64.wrap (x * y))]) ∧ L' = L) := by
 refine CallsS.of_body Tryz.func154 rfl rfl rfl ?_
 repeat (first | refine S.y (Y.and rfl rfl) ?_ | refine S.y (Y.shrI (b := 32) rfl rfl (by decide)) ?_ | refine S.y (Y.mul rfl rfl) ?_ | refine S.y (Y.add rfl rfl) ?_ | (refine GQ.y ?_;refine Q.y ?_) | refine Q.go ?_)
 exact N.r2 (RV.tmp rfl (RV.tmp rfl RV.nil)) (Ent.refl _) ⟨⟨_,rfl⟩,rfl⟩
theorem R3Home_spec (id s : Int) (L : List HP) (h1 : 1 ≤ s) (h2 : s ≤ 4) :
  CallsS Tryz.prog 133 [.int .u64 id,.int .i64 s] L (fun r L' => r = .int .i64 (homeV s id) ∧ L' = L) := by
 refine CallsS.of_body Tryz.func133 rfl rfl rfl ?_
 have hb := homeV_b h1 id
 refine Q.r ?_;(repeat (intro b1;refine Q.r ?_))
 refine S.cr rfl (Mul64_spec id 11400714819323198485 _) ?_
 rintro _ _ ⟨⟨h,rfl⟩,rfl⟩
 have hw := wrap_u64_b (id * 11400714819323198485)
 refine Q.r ?_;(repeat (intro b1;refine Q.r ?_))
 refine S.y (Y.quo rfl rfl (by decide)) ?_
 refine Q.r ?_;(repeat (intro b1;refine Q.r ?_))
 refine S.y (Y.cvi rfl) ?_
 have es : IntKind.u64.wrap s = s := wrap_u64 (by omega) (by omega)
 rw [es]
 refine Q.r ?_;(repeat (intro b1;refine Q.r ?_))
 refine S.y (Y.rem rfl rfl (by omega)) ?_
 refine Q.r ?_;(repeat (intro b1;refine Q.r ?_))
 refine S.y (Y.cvi rfl) ?_
 have e1 : IntKind.u64.wrap ((IntKind.u64.wrap (id * 11400714819323198485)).tdiv 4294967296) = (IntKind.u64.wrap (id * 11400714819323198485)).fdiv (2 ^ 32) := by
  generalize IntKind.u64.wrap (id * 11400714819323198485) = w at hw ⊢
  have e : w.tdiv 4294967296 = w.fdiv (2 ^ 32) := by
   rw [Int.tdiv_eq_ediv_of_nonneg hw.1,Int.fdiv_eq_ediv_of_nonneg _ (by decide)];rfl
  rw [e]
  have h0 : 0 ≤ w.fdiv (2 ^ 32) := Int.fdiv_nonneg hw.1 (by decide)
  refine wrap_u64 h0 ?_
  rw [Int.fdiv_eq_ediv_of_nonneg _ (by decide)]
  have : w / 2 ^ 32 ≤ w := Int.ediv_le_self _ hw.1
  omega
 have eh : IntKind.i64.wrap (homeV s id) = homeV s id := wrap_i64 (by omega) (by omega)
 rw [e1]
 unfold homeV at eh
 rw [eh]
 refine Q.r ?_;(repeat (intro b1;refine Q.r ?_))
 exact N.r1 (RV.tmp rfl RV.nil) (Ent.refl _) ⟨rfl,rfl⟩
theorem Rhome_spec (p : Nat) (j : JG) (ta : Option Addr) (tc : Nat) (ts : List TV) (da : Option Addr) (dc : Nat) (ds : List (Int × Int)) (id : Int) (L : List HP) (s1 : 1 ≤ j.shards) (s2 : j.shards ≤ 4) :
  CallsS Tryz.prog 115 [.pointer (some ⟨p,0,none⟩),.int .u64 id] (rgP p j ta tc ts da dc ds :: L) (fun r L' => r = .int .i64 (homeP j.shards id) ∧ L' = rgP p j ta tc ts da dc ds :: L) := by
 refine CallsS.of_body Tryz.func115 rfl rfl rfl ?_
 have hb := homeV_b s1 id
 refine Q.r ?_;(repeat (intro b1;refine Q.r ?_))
 refine S.cr rfl (R3Home_spec id j.shards _ s1 s2) ?_
 rintro _ _ ⟨rfl,rfl⟩
 refine Q.r ?_;(repeat (intro b1;refine Q.r ?_))
 exact N.r1 (RV.tmp rfl RV.nil) (Ent.refl _) ⟨rfl,rfl⟩
theorem Rdecide_spec (q txn stamp code : Int) (L : List HP) :
  CallsS Tryz.prog 83 [.int .i64 q,.int .u64 txn,.int .u64 stamp,.int .i64 code] L (fun r L' => r = .agg (mailC (decM q txn stamp code)).toArray ∧ L' = L) := by
 refine CallsS.of_body Tryz.func83 rfl rfl rfl ?_
 refine Q.r ?_;(repeat (intro b1;refine Q.r ?_))
 exact N.r1 (by apply RV.cellN;rfl;exact RdC.row;rfl;exact RV.nil) (Ent.drop (Ent.refl _)) ⟨rfl,rfl⟩
theorem Rreply_spec (to b s c : Int) (L : List HP) :
  CallsS Tryz.prog 113 [.int .i64 to,.int .u64 b,.int .u64 s,.int .i64 c] L (fun r L' => r = .agg (mailC (repM to b s c)).toArray ∧ L' = L) := by
 refine CallsS.of_body Tryz.func113 rfl rfl rfl ?_
 refine Q.r ?_;(repeat (intro b1;refine Q.r ?_))
 exact N.r1 (by apply RV.cellN;rfl;exact RdC.row;rfl;exact RV.nil) (Ent.drop (Ent.refl _)) ⟨rfl,rfl⟩
abbrev TV.val (t : TV) : Value := .agg t.cells.toArray
theorem Rtold_spec (t : TV) (stamp code : Int) (M : Nat → Option Obj) (L : List HP) (ht : okT M t) :
  CallsS Tryz.prog 82 [t.val,.int .u64 stamp,.int .i64 code] (roM M :: L) (fun r L' => ∃ a' c',r = .slice a' (t.parts.length + 1) c' ∧ L' = slO 155 17 a' (t.parts.length + 1) c' ((toldM t.abs stamp code).flatMap mailC) :: roM M :: L) := by
 refine CallsS.of_body Tryz.func82 rfl rfl rfl ?_
 have hpl := ht.pl
 refine Q.r ?_;(repeat (intro b1;refine Q.r ?_))
 revert b1
 intro b0
 refine swp_cutB (σ := Option Addr × Nat × List (Int × NA)) (fun s => [(1,.int .u64 stamp),(2,.int .i64 code),(3,.pointer (some ⟨b0,0,none⟩)),(7,.slice s.1 s.2.2.length s.2.1)])
  (fun s => slO 155 17 s.1 s.2.2.length s.2.1 (s.2.2.flatMap mailC) :: pt b0 (cl t.cells 121) :: roM M :: L) (fun s => s.2.2 = t.parts.map fun p => decM p t.txn stamp code) ?_ ?_
 ·refine swp_loop (σ := Nat × Option Addr × Nat × List (Int × NA)) (fun s => [(1,.int .u64 stamp),(2,.int .i64 code),(3,.pointer (some ⟨b0,0,none⟩)),(11,.slice t.pa t.parts.length t.pc),(12,.int .i64 t.parts.length),(7,.slice s.2.1 s.2.2.2.length s.2.2.1),(13,.int .i64 s.1)])
   (fun s => slO 155 17 s.2.1 s.2.2.2.length s.2.2.1 (s.2.2.2.flatMap mailC) :: pt b0 (cl t.cells 121) :: roM M :: L)
   (fun s => s.1 ≤ t.parts.length ∧ s.2.2.2 = (t.parts.take s.1).map fun p => decM p t.txn stamp code) (fun s => t.parts.length - s.1) (0,none,0,[]) ⟨rfl,rfl,rfl,rfl,rfl,rfl,rfl,trivial⟩ slO_nil ⟨by omega,by simp⟩ ?_
  rintro ⟨k,a3,c3,us⟩ ⟨hk,hus⟩
  dsimp only at hk hus ⊢
  have hul : us.length = k := by rw [hus,List.length_map,List.length_take];omega
  by_cases hlt : k < t.parts.length
  ·obtain ⟨q,hq⟩ := mem_get hlt
   obtain ⟨b,oo,hia,cr⟩ := SlM.cm1 (g := I64) ht.p hq rfl
   rw [hia]
   refine Q.r ?_;(repeat (intro b1;refine Q.r ?_))
   refine S.cr rfl (Rdecide_spec q t.txn stamp code _) ?_
   rintro _ _ ⟨rfl,rfl⟩
   refine Q.r ?_;(repeat (intro b1;refine Q.r ?_))
   refine S.app rfl rfl (SrcS.sl RdC.row (by rfl) (by rfl)) (by rfl) (by omega) (by omega) (fun a7 c7 => ?_)
   refine Q.r ?_;(repeat (intro b1;refine Q.r ?_))
   refine ⟨(k + 1,a7,c7,us ++ [decM q t.txn stamp code]),⟨rfl,rfl,rfl,rfl,rfl,congrArg some (by simp),rfl,trivial⟩,?_,⟨by dsimp only;omega,?_⟩,by dsimp only;omega⟩
   ·dsimp only
    rw [len_snoc,flat_snoc]
    exact Go.SX.Ent.go
   ·dsimp only
    rw [take_snoc hq,List.map_append,← hus]
    rfl
  ·have hke : k = t.parts.length := by omega
   subst hke
   rw [List.take_length] at hus
   refine Q.r ?_;(repeat (intro b1;refine Q.r ?_))
   exact ⟨(a3,c3,us),⟨rfl,rfl,rfl,rfl,trivial⟩,by exact Go.SX.Ent.go,hus⟩
 rintro ⟨a3,c3,us⟩ hus
 dsimp only at hus ⊢
 have hul : us.length = t.parts.length := by rw [hus,List.length_map]
 refine Q.r ?_;(repeat (intro b1;refine Q.r ?_))
 refine S.cr rfl (Rreply_spec t.who t.batch stamp code _) ?_
 rintro _ _ ⟨rfl,rfl⟩
 refine Q.r ?_;(repeat (intro b1;refine Q.r ?_))
 refine S.app rfl rfl (SrcS.sl RdC.row (by rfl) (by rfl)) (by rfl) (by omega) (by omega) (fun a7 c7 => ?_)
 refine Q.r ?_;(repeat (intro b1;refine Q.r ?_))
 refine N.r1 (RV.tmp rfl RV.nil) ?_ ⟨a7,c7,by rw [hul],rfl⟩
 have e : (toldM t.abs stamp code).flatMap mailC = us.flatMap mailC ++ mailC (repM t.who t.batch stamp code) := by
  unfold toldM
  rw [List.flatMap_append,hus]
  simp
 rw [e,hul]
 exact Go.SX.Ent.go
theorem RPrepare_spec (p : Nat) (j : JG) (ta : Option Addr) (tc : Nat) (ts : List TV) (da : Option Addr) (dc : Nat) (ds : List (Int × Int)) (t : TV) (q : Int) (M : Nat → Option Obj) (L : List HP) (ht : okT M t) (s1 : 1 ≤ j.shards) (s2 : j.shards ≤ 4) :
  CallsS Tryz.prog 103 [.pointer (some ⟨p,0,none⟩),t.val,.int .i64 q] (rgP p j ta tc ts da dc ds :: roM M :: L) (fun r L' => ∃ (m : NV) (M' : Nat → Option Obj),r = .agg (mcells (q,m)).toArray ∧ leM M M' ∧ okN M' m ∧ (q,m.abs) = prepM j.shards t.abs q ∧ L' = rgP p j ta tc ts da dc ds :: roM M' :: L) := by
 refine CallsS.of_body Tryz.func103 rfl rfl rfl ?_
 have hol := ht.ol
 have hpl := ht.pl
 refine Q.r ?_;(repeat (intro b1;refine Q.r ?_))
 rename_i b0 b6
 revert b1
 intro b7
 refine swp_cutB (σ := Option Addr × Nat × List OV) (fun s => [(2,.int .i64 q),(6,.pointer (some ⟨b6,0,none⟩)),(7,.pointer (some ⟨b7,0,none⟩))])
  (fun s => pt b7 (cl (⟨3,t.txn,0,0,t.after,0,0,0,0,0,0,0,t.pa,t.pc,t.parts,s.1,s.2.1,s.2.2,none,0,[],none,0,[]⟩ : NV).cells 39) :: slO 77 2 s.1 s.2.2.length s.2.1 (s.2.2.flatMap OV.cells) :: pt b6 (cl (mcells (0,NA.zero.nv)) 155) :: rgP p j ta tc ts da dc ds :: roM M :: L)
  (fun s => s.2.2 = t.ops.filter fun o => decide (homeP j.shards o.id = q)) ?_ ?_
 ·refine swp_loop (σ := Nat × Option Addr × Nat × List OV) (fun s => [(0,.pointer (some ⟨p,0,none⟩)),(2,.int .i64 q),(6,.pointer (some ⟨b6,0,none⟩)),(7,.pointer (some ⟨b7,0,none⟩)),(18,.slice t.oa t.ops.length t.oc),(19,.int .i64 t.ops.length),(20,.int .i64 s.1)])
   (fun s => pt b7 (cl (⟨3,t.txn,0,0,t.after,0,0,0,0,0,0,0,t.pa,t.pc,t.parts,s.2.1,s.2.2.1,s.2.2.2,none,0,[],none,0,[]⟩ : NV).cells 39) :: slO 77 2 s.2.1 s.2.2.2.length s.2.2.1 (s.2.2.2.flatMap OV.cells) :: pt b6 (cl (mcells (0,NA.zero.nv)) 155) :: rgP p j ta tc ts da dc ds :: roM M :: L)
   (fun s => s.1 ≤ t.ops.length ∧ s.2.2.2 = (t.ops.take s.1).filter fun o => decide (homeP j.shards o.id = q)) (fun s => t.ops.length - s.1) (0,none,0,[]) ⟨rfl,rfl,rfl,rfl,rfl,rfl,rfl,trivial⟩ (Ent.trans (slO_nil (t := 77) (sz := 2)) (by exact Go.SX.Ent.go)) ⟨by omega,rfl⟩ ?_
  rintro ⟨k,a3,c3,us⟩ ⟨hk,hus⟩
  dsimp only at hk hus ⊢
  have hul : us.length ≤ t.ops.length := by
   rw [hus];exact Nat.le_trans (List.length_filter_le _ _) (by rw [List.length_take];omega)
  have hul2 : us.length ≤ 1000000 := Nat.le_trans hul hol
  clear hul
  by_cases hlt : k < t.ops.length
  ·obtain ⟨o,ho⟩ := mem_get hlt
   obtain ⟨b,oo,hia,cr⟩ := SlM.cm (g := OV.cells) (fun _ => rfl) ht.o ho rfl
   rw [hia]
   refine Q.r ?_;(repeat (intro b1;refine Q.r ?_))
   refine S.c1 (A := rgP p j ta tc ts da dc ds) rfl (Rhome_spec p j ta tc ts da dc ds o.id _ s1 s2) ?_
   rintro _ _ ⟨rfl,rfl⟩
   have hnext : (t.ops.take (k + 1)).filter (fun o => decide (homeP j.shards o.id = q)) = us ++ if homeP j.shards o.id = q then [o] else [] := by
    rw [take_snoc ho,List.filter_append,← hus,List.filter_cons,List.filter_nil]
    by_cases hm : homeP j.shards o.id = q
    ·rw [decide_eq_true hm,if_pos hm];rfl
    ·rw [decide_eq_false hm,if_neg hm];rfl
   by_cases hm : homeP j.shards o.id = q
   ·rw [if_pos hm] at hnext
    refine Q.r ?_;(repeat (intro b1;refine Q.r ?_))
    refine S.app rfl rfl (SrcS.sl RdC.row (by rfl) (by rfl)) (by rfl) (by dsimp only;omega) (by dsimp only;omega) (fun a7 c7 => ?_)
    refine Q.r ?_;(repeat (intro b1;refine Q.r ?_))
    refine ⟨(k + 1,a7,c7,us ++ [o]),⟨rfl,rfl,rfl,rfl,rfl,rfl,rfl,trivial⟩,?_,⟨by dsimp only;omega,hnext.symm⟩,by dsimp only;omega⟩
    dsimp only [NV.cells]
    rw [len_snoc,flat_snoc]
    exact Go.SX.Ent.go
   ·rw [if_neg hm,List.append_nil] at hnext
    refine Q.r ?_;(repeat (intro b1;refine Q.r ?_))
    refine ⟨(k + 1,a3,c3,us),⟨rfl,rfl,rfl,rfl,rfl,rfl,rfl,trivial⟩,by exact Go.SX.Ent.go,⟨by dsimp only;omega,hnext.symm⟩,by dsimp only;omega⟩
  ·have hke : k = t.ops.length := by omega
   subst hke
   rw [List.take_length] at hus
   refine Q.r ?_;(repeat (intro b1;refine Q.r ?_))
   exact ⟨(a3,c3,us),⟨rfl,rfl,rfl,trivial⟩,by exact Go.SX.Ent.go,hus⟩
 rintro ⟨a3,c3,us⟩ hus
 dsimp only at hus ⊢
 refine swp_abs a3 (fun M1 hl1 hs1 => ?_)
 have ht1 := ht.mono hl1
 refine Q.r ?_;(repeat (intro b1;refine Q.r ?_))
 refine N.r1 (by apply RV.cellN;rfl;exact RdC.row;rfl;exact RV.nil) ?_ ⟨⟨3,t.txn,0,0,t.after,0,0,0,0,0,0,0,t.pa,t.pc,t.parts,a3,c3,us,none,0,[],none,0,[]⟩,M1,rfl,hl1,⟨ht1.p,⟨hs1,fun o ho => ?_⟩,SlM.nil0,SlM.nil0,fun o ho => by cases ho⟩,?_,rfl⟩
 ·exact Go.SX.Ent.go
 ·rw [hus] at ho
  exact ht1.ov o (List.mem_filter.1 ho).1
 ·rw [hus]
  show (q,_) = (q,_)
  refine congrArg (Prod.mk q) ?_
  show NA.mk _ _ _ _ _ _ _ _ _ _ _ _ _ _ _ _ = NA.mk _ _ _ _ _ _ _ _ _ _ _ _ _ _ _ _
  rw [List.filter_map];rfl
theorem TV_one (xs : List TV) : (xs.flatMap TV.cells).all (·.oneCell') = true := by simp [Value.oneCell']
abbrev slT (a : Option Addr) (c : Nat) (ts : List TV) : HP := slO 121 9 a ts.length c (ts.flatMap TV.cells)
theorem eraseIdx_eq {α : Type} (l : List α) (k : Nat) : l.eraseIdx k = l.take k ++ l.drop (k + 1) := List.eraseIdx_eq_take_drop_succ ..
theorem Rremove_spec (p : Nat) (j : JG) (ta : Option Addr) (tc : Nat) (ts : List TV) (da : Option Addr) (dc : Nat) (ds : List (Int × Int)) (k : Nat) (M : Nat → Option Obj) (L : List HP) (h : SlM M ta ts.length 9 (ts.flatMap TV.cells)) (hc : ts.length ≤ tc) (hn : ts.length ≤ 1000000) (hk : k < ts.length) :
  CallsS Tryz.prog 75 [.pointer (some ⟨p,0,none⟩),.int .i64 k] (rgP p j ta tc ts da dc ds :: roM M :: L) (fun r L' => ∃ (a' : Option Addr) (c' : Nat),r = .tuple #[] ∧ L' = slT a' c' (ts.eraseIdx k) :: rgP p j a' c' (ts.eraseIdx k) da dc ds :: roM M :: L) := by
 refine CallsS.of_body Tryz.func75 rfl rfl rfl ?_
 have hlen : (ts.eraseIdx k).length = k + (ts.length - (k + 1)) := by rw [eraseIdx_eq];simp;omega
 have hcells : (ts.eraseIdx k).flatMap TV.cells = (ts.flatMap TV.cells).take (k * 9) ++ (ts.flatMap TV.cells).drop ((k + 1) * 9) := by
  rw [flat_take (sz := 9) (fun _ => rfl),flat_drop (sz := 9) (fun _ => rfl),eraseIdx_eq,List.flatMap_append]
 unfold slT rgP
 rw [hlen,hcells]
 have hat : ts.length = 0 ∨ ∃ b o,ta = some ⟨b,o,none⟩ := by
  rcases h.2 with h0 | ⟨b,o,_,_,_,h0,_⟩
  ·exact .inl h0
  ·exact .inr ⟨b,o,h0⟩
 refine Q.r ?_;(repeat (intro b1;refine Q.r ?_))
 refine Q.dgo [true] [1,8,16,19] [19] [0,2,3,4,5,6,7,9,10,11,12,13,14,15,1,8,16,17,18,19] ?_
 refine Q.rd ?_;(repeat (intro b1;refine Q.rd ?_))
 refine D.yp rfl rfl rfl (Y.slT (h := k) rfl rfl rfl (by omega)) ?_
 refine Q.rd ?_;(repeat (intro b1;refine Q.rd ?_))
 refine D.yp rfl rfl rfl (Y.slFa (l := k + 1) rfl rfl (by omega) (by omega) hat) ?_
 refine Q.rd ?_;(repeat (intro b1;refine Q.rd ?_))
 refine D.e rfl rfl rfl ?_
 first | refine opsS_ent (slO_fold (sz := 9) (m := 0) rfl) ?_ | refine opsS_ent (Ent.trans (Ent.perm (.swap _ _ _)) (slO_fold (sz := 9) (m := 0) rfl)) ?_
 refine S.app0 rfl rfl rfl (SrcS.rd (RdS.take (k := k) h.rd (by omega)) (by rw [flat_take (sz := 9) (fun _ => rfl)];exact TV_one _)) (by rfl) (by omega) (by omega) (fun a6 c6 => ?_)
 repeat (first | (refine GQ.y ?_;refine Q.y ?_) | refine Q.go ?_ | (refine GQ.g ?_;refine Q.gq ?_) | (refine GQ.s ?_;refine Q.st ?_))
 refine Q.rd ?_;(repeat (intro b1;refine Q.rd ?_))
 refine D.e rfl rfl rfl ?_
 refine S.app rfl rfl (SrcS.rd (RdS.fromA (l := k + 1) h.rd (by omega) hc) (by rw [flat_drop (sz := 9) (fun _ => rfl)];exact TV_one _)) (by rfl) (by omega) (by omega) (fun a8 c8 => ?_)
 repeat (first | (refine GQ.y ?_;refine Q.y ?_) | refine Q.go ?_ | (refine GQ.g ?_;refine Q.gq ?_) | (refine GQ.s ?_;refine Q.st ?_))
 refine Q.rd ?_;(repeat (intro b1;refine Q.rd ?_))
 refine Q.dc rfl rfl rfl rfl ?_
 refine Q.r ?_;(repeat (intro b1;refine Q.r ?_))
 refine Q.rd ?_;(repeat (intro b1;refine Q.rd ?_))
 refine N.n0 RV.nil ?_ ⟨a8,c8,rfl,rfl⟩
 exact Go.SX.Ent.go
theorem Rinsert_spec (p : Nat) (j : JG) (ta : Option Addr) (tc : Nat) (ts : List TV) (da : Option Addr) (dc : Nat) (ds : List (Int × Int)) (t : TV) (M : Nat → Option Obj) (L : List HP) (h : SlM M ta ts.length 9 (ts.flatMap TV.cells)) (hc : ts.length ≤ tc) (hn : ts.length ≤ 1000000) :
  CallsS Tryz.prog 73 [.pointer (some ⟨p,0,none⟩),t.val] (rgP p j ta tc ts da dc ds :: roM M :: L) (fun r L' => ∃ (a' : Option Addr) (c' : Nat),r = .tuple #[] ∧ L' = slT a' c' (insT ts t) :: rgP p j a' c' (insT ts t) da dc ds :: roM M :: L) := by
 refine CallsS.of_body Tryz.func73 rfl rfl rfl ?_
 refine Q.r ?_;(repeat (intro b1;refine Q.r ?_))
 revert b1
 intro b0
 refine swp_cutB (σ := Nat) (fun k => [(0,.pointer (some ⟨p,0,none⟩)),(3,.pointer (some ⟨b0,0,none⟩)),(4,.int .i64 k)]) (fun _ => pt b0 (cl t.cells 121) :: rgP p j ta tc ts da dc ds :: roM M :: L)
  (fun k => k ≤ ts.length ∧ (∀ u ∈ ts.take k,u.txn < t.txn) ∧ ∀ u,ts[k]? = some u → ¬ u.txn < t.txn) ?_ ?_
 ·refine swp_loop (σ := Nat) (fun k => [(0,.pointer (some ⟨p,0,none⟩)),(3,.pointer (some ⟨b0,0,none⟩)),(4,.int .i64 k)]) (fun _ => pt b0 (cl t.cells 121) :: rgP p j ta tc ts da dc ds :: roM M :: L)
   (fun k => k ≤ ts.length ∧ ∀ u ∈ ts.take k,u.txn < t.txn) (fun k => ts.length - k) 0 ⟨rfl,rfl,rfl,trivial⟩ (Ent.refl _) ⟨by omega,by simp⟩ ?_
  rintro k ⟨hk,hall⟩
  by_cases hlt : k < ts.length
  ·obtain ⟨q,hq⟩ := mem_get hlt
   obtain ⟨b,oo,hia,cr⟩ := SlM.cm (g := TV.cells) (fun _ => rfl) h hq rfl
   rw [hia]
   by_cases he : q.txn < t.txn
   ·refine Q.r ?_;(repeat (intro b1;refine Q.r ?_))
    refine D.start [] [] [0,1,2,3,4,5,6,7,8,9,10,11,12,13,14,15,16,17,18,19] _ [] rfl (by kernel_rfl) rfl (by kernel_rfl) NoPanic.no (Ent.refl _) ?_
    refine Q.rd ?_;(repeat (intro b1;refine Q.rd ?_))
    refine Q.r ?_;(repeat (intro b1;refine Q.r ?_))
    refine ⟨k + 1,⟨rfl,rfl,rfl,trivial⟩,Ent.refl _,⟨by omega,?_⟩,by omega⟩
    rw [take_snoc hq]
    intro u hu
    rcases List.mem_append.1 hu with hu | hu
    ·exact hall u hu
    ·obtain rfl := List.mem_singleton.1 hu
     exact he
   ·refine Q.r ?_;(repeat (intro b1;refine Q.r ?_))
    refine D.start [] [] [0,1,2,3,4,5,6,7,8,9,10,11,12,13,14,15,16,17,18,19] _ [] rfl (by kernel_rfl) rfl (by kernel_rfl) NoPanic.no (Ent.refl _) ?_
    refine Q.rd ?_;(repeat (intro b1;refine Q.rd ?_))
    refine Q.r ?_;(repeat (intro b1;refine Q.r ?_))
    refine ⟨k,⟨rfl,rfl,rfl,trivial⟩,Ent.refl _,hk,hall,fun u hu => ?_⟩
    rw [hq] at hu
    cases hu
    exact he
  ·refine Q.r ?_;(repeat (intro b1;refine Q.r ?_))
   refine D.start [] [] [0,1,2,3,4,5,6,7,8,9,10,11,12,13,14,15,16,17,18,19] _ [] rfl (by kernel_rfl) rfl (by kernel_rfl) NoPanic.no (Ent.refl _) ?_
   refine Q.rd ?_;(repeat (intro b1;refine Q.rd ?_))
   refine Q.r ?_;(repeat (intro b1;refine Q.r ?_))
   refine ⟨k,⟨rfl,rfl,rfl,trivial⟩,Ent.refl _,hk,hall,fun u hu => ?_⟩
   have := (List.getElem?_eq_some_iff.1 hu).1
   omega
 rintro k ⟨hk,hall,hnx⟩
 have hat : ts.length = 0 ∨ ∃ b o,ta = some ⟨b,o,none⟩ := by
  rcases h.2 with h0 | ⟨b,o,_,_,_,h0,_⟩
  ·exact .inl h0
  ·exact .inr ⟨b,o,h0⟩
 have hI := insT_eq hall hnx
 have hlen : (insT ts t).length = k + 1 + (ts.length - k) := by rw [hI];simp;omega
 have hcells : (insT ts t).flatMap TV.cells = (ts.flatMap TV.cells).take (k * 9) ++ t.cells ++ (ts.flatMap TV.cells).drop (k * 9) := by
  rw [flat_take (sz := 9) (fun _ => rfl),flat_drop (sz := 9) (fun _ => rfl),hI,List.flatMap_append,List.flatMap_cons,List.append_assoc]
 unfold slT rgP
 rw [hlen,hcells]
 refine Q.r ?_;(repeat (intro b1;refine Q.r ?_))
 refine Q.dgo [true,true] [1,8,10,11,18,21] [21] [0,2,3,4,5,6,7,9,12,13,14,15,16,17,99999,0,0,0,0,0,0,0] ?_
 refine Q.rd ?_;(repeat (intro b1;refine Q.rd ?_))
 refine D.yp rfl rfl rfl (Y.slT (h := k) rfl rfl rfl (by omega)) ?_
 refine Q.rd ?_;(repeat (intro b1;refine Q.rd ?_))
 refine D.yp rfl rfl rfl (Y.slFa (l := k) rfl rfl rfl hk hat) ?_
 refine Q.rd ?_;(repeat (intro b1;refine Q.rd ?_))
 refine D.two 1 10 [99999,0,0,0,0,0,0] [1,8,11,18,19,20,21] (by kernel_rfl) rfl rfl rfl rfl (by kernel_rfl) (by kernel_rfl) ?_ ?_
 ·refine GQ.a ?_
  refine Q.al (fun bz => ?_)
  repeat (first | (refine GQ.y ?_;refine Q.y ?_) | refine Q.go ?_ | (refine GQ.g ?_;refine Q.gq ?_) | (refine GQ.s ?_;refine Q.st ?_))
  refine Q.rd ?_;(repeat (intro b1;refine Q.rd ?_))
  refine D.two 8 10 [10,11,18,19,20,21] [8,11,18,19,20,21] (by kernel_rfl) rfl rfl rfl rfl (by kernel_rfl) (by kernel_rfl) ?_ ?_
  ·first | refine opsS_ent (slO_fold (sz := 9) (m := 0) rfl) ?_ | refine opsS_ent (Ent.trans (Ent.perm (.swap _ _ _)) (slO_fold (sz := 9) (m := 0) rfl)) ?_
   refine S.app0 rfl rfl rfl (SrcS.rd (RdS.take (k := k) h.rd (by omega)) (by rw [flat_take (sz := 9) (fun _ => rfl)];exact TV_one _)) (by rfl) (by omega) (by omega) (fun a6 c6 => ?_)
   repeat (first | (refine GQ.y ?_;refine Q.y ?_) | refine Q.go ?_ | (refine GQ.g ?_;refine Q.gq ?_) | (refine GQ.s ?_;refine Q.st ?_))
   refine Q.rd ?_;(repeat (intro b1;refine Q.rd ?_))
   refine D.e rfl rfl rfl ?_
   refine S.app rfl rfl (SrcS.sl RdC.row (by rfl) (by rfl)) (by rfl) (by omega) (by omega) (fun a7 c7 => ?_)
   repeat (first | (refine GQ.y ?_;refine Q.y ?_) | refine Q.go ?_ | (refine GQ.g ?_;refine Q.gq ?_) | (refine GQ.s ?_;refine Q.st ?_))
   refine Q.rd ?_;(repeat (intro b1;refine Q.rd ?_))
   refine D.e rfl rfl rfl ?_
   refine S.app rfl rfl (SrcS.rd (RdS.fromA (l := k) h.rd (by omega) hc) (by rw [flat_drop (sz := 9) (fun _ => rfl)];exact TV_one _)) (by rfl) (by omega) (by omega) (fun a8 c8 => ?_)
   repeat (first | (refine GQ.y ?_;refine Q.y ?_) | refine Q.go ?_ | (refine GQ.g ?_;refine Q.gq ?_) | (refine GQ.s ?_;refine Q.st ?_))
   refine Q.rd ?_;(repeat (intro b1;refine Q.rd ?_))
   refine Q.dc rfl rfl rfl rfl ?_
   refine Q.r ?_;(repeat (intro b1;refine Q.r ?_))
   refine Q.rd ?_;(repeat (intro b1;refine Q.rd ?_))
   refine N.n0 RV.nil ?_ ⟨a8,c8,rfl,rfl⟩
   exact Go.SX.Ent.go
  ·refine GQ.a ?_
   refine Q.al (fun b8 => ?_)
   repeat (first | (refine GQ.y ?_;refine Q.y ?_) | refine Q.go ?_ | (refine GQ.g ?_;refine Q.gq ?_) | (refine GQ.s ?_;refine Q.st ?_))
   refine Q.rd ?_;(repeat (intro b1;refine Q.rd ?_))
   refine D.e rfl rfl rfl ?_
   first | refine opsS_ent (slO_fold (sz := 9) (m := 0) rfl) ?_ | refine opsS_ent (Ent.trans (Ent.perm (.swap _ _ _)) (slO_fold (sz := 9) (m := 0) rfl)) ?_
   refine S.app0 rfl rfl rfl (SrcS.rd (RdS.take (k := k) h.rd (by omega)) (by rw [flat_take (sz := 9) (fun _ => rfl)];exact TV_one _)) (by rfl) (by omega) (by omega) (fun a6 c6 => ?_)
   repeat (first | (refine GQ.y ?_;refine Q.y ?_) | refine Q.go ?_ | (refine GQ.g ?_;refine Q.gq ?_) | (refine GQ.s ?_;refine Q.st ?_))
   refine Q.rd ?_;(repeat (intro b1;refine Q.rd ?_))
   refine D.e rfl rfl rfl ?_
   refine S.app rfl rfl (SrcS.sl RdC.row (by rfl) (by rfl)) (by rfl) (by omega) (by omega) (fun a7 c7 => ?_)
   repeat (first | (refine GQ.y ?_;refine Q.y ?_) | refine Q.go ?_ | (refine GQ.g ?_;refine Q.gq ?_) | (refine GQ.s ?_;refine Q.st ?_))
   refine Q.rd ?_;(repeat (intro b1;refine Q.rd ?_))
   refine D.e rfl rfl rfl ?_
   refine S.app rfl rfl (SrcS.rd (RdS.fromA (l := k) h.rd (by omega) hc) (by rw [flat_drop (sz := 9) (fun _ => rfl)];exact TV_one _)) (by rfl) (by omega) (by omega) (fun a8 c8 => ?_)
   repeat (first | (refine GQ.y ?_;refine Q.y ?_) | refine Q.go ?_ | (refine GQ.g ?_;refine Q.gq ?_) | (refine GQ.s ?_;refine Q.st ?_))
   refine Q.rd ?_;(repeat (intro b1;refine Q.rd ?_))
   refine Q.dc rfl rfl rfl rfl ?_
   refine Q.r ?_;(repeat (intro b1;refine Q.r ?_))
   refine Q.rd ?_;(repeat (intro b1;refine Q.rd ?_))
   refine N.n0 RV.nil ?_ ⟨a8,c8,rfl,rfl⟩
   exact Go.SX.Ent.go
 ·refine GQ.a ?_
  refine Q.al (fun b8 => ?_)
  repeat (first | (refine GQ.y ?_;refine Q.y ?_) | refine Q.go ?_ | (refine GQ.g ?_;refine Q.gq ?_) | (refine GQ.s ?_;refine Q.st ?_))
  refine Q.rd ?_;(repeat (intro b1;refine Q.rd ?_))
  refine D.e rfl rfl rfl ?_
  first | refine opsS_ent (slO_fold (sz := 9) (m := 0) rfl) ?_ | refine opsS_ent (Ent.trans (Ent.perm (.swap _ _ _)) (slO_fold (sz := 9) (m := 0) rfl)) ?_
  refine S.app0 rfl rfl rfl (SrcS.rd (RdS.take (k := k) h.rd (by omega)) (by rw [flat_take (sz := 9) (fun _ => rfl)];exact TV_one _)) (by rfl) (by omega) (by omega) (fun a6 c6 => ?_)
  repeat (first | (refine GQ.y ?_;refine Q.y ?_) | refine Q.go ?_ | (refine GQ.g ?_;refine Q.gq ?_) | (refine GQ.s ?_;refine Q.st ?_))
  refine Q.rd ?_;(repeat (intro b1;refine Q.rd ?_))
  refine D.e rfl rfl rfl ?_
  refine S.app rfl rfl (SrcS.sl RdC.row (by rfl) (by rfl)) (by rfl) (by omega) (by omega) (fun a7 c7 => ?_)
  repeat (first | (refine GQ.y ?_;refine Q.y ?_) | refine Q.go ?_ | (refine GQ.g ?_;refine Q.gq ?_) | (refine GQ.s ?_;refine Q.st ?_))
  refine Q.rd ?_;(repeat (intro b1;refine Q.rd ?_))
  refine D.e rfl rfl rfl ?_
  refine S.app rfl rfl (SrcS.rd (RdS.fromA (l := k) h.rd (by omega) hc) (by rw [flat_drop (sz := 9) (fun _ => rfl)];exact TV_one _)) (by rfl) (by omega) (by omega) (fun a8 c8 => ?_)
  repeat (first | (refine GQ.y ?_;refine Q.y ?_) | refine Q.go ?_ | (refine GQ.g ?_;refine Q.gq ?_) | (refine GQ.s ?_;refine Q.st ?_))
  refine Q.rd ?_;(repeat (intro b1;refine Q.rd ?_))
  refine Q.dc rfl rfl rfl rfl ?_
  refine Q.r ?_;(repeat (intro b1;refine Q.r ?_))
  refine Q.rd ?_;(repeat (intro b1;refine Q.rd ?_))
  refine N.n0 RV.nil ?_ ⟨a8,c8,rfl,rfl⟩
  exact Go.SX.Ent.go
theorem insD_snoc {l : List (Int × Int)} {d e : Int × Int} : insD (l ++ [e]) d = if e.1 < d.1 then l.filter (fun u => decide (u.1 < d.1)) ++ [e] ++ d :: l.filter (fun u => decide (d.1 < u.1)) else if d.1 < e.1 then insD l d ++ [e] else insD l d := by
 unfold insD
 rw [List.filter_append,List.filter_append,List.filter_cons,List.filter_cons,List.filter_nil]
 by_cases h1 : e.1 < d.1
 ·have h2 : ¬ d.1 < e.1 := by omega
  simp [h1,h2]
 ·by_cases h2 : d.1 < e.1
  ·simp [h1,h2]
  ·simp [h1,h2]
theorem Rset_spec (p : Nat) (j : JG) (ta : Option Addr) (tc : Nat) (ts : List TV) (da : Option Addr) (dc : Nat) (ds : List (Int × Int)) (b s : Int) (M : Nat → Option Obj) (L : List HP) (h : SlM M da ds.length 2 (ds.flatMap dC)) (hs : (ds.map (·.1)).Pairwise (· < ·)) (hn : ds.length ≤ 1000000) :
  CallsS Tryz.prog 74 [.pointer (some ⟨p,0,none⟩),.int .u64 b,.int .u64 s] (rgP p j ta tc ts da dc ds :: roM M :: L) (fun r L' => ∃ (a' : Option Addr) (c' : Nat),r = .tuple #[] ∧ L' = slO 142 2 a' (insD ds (b,s)).length c' ((insD ds (b,s)).flatMap dC) :: rgP p j ta tc ts a' c' (insD ds (b,s)) :: roM M :: L) := by
 refine CallsS.of_body Tryz.func74 rfl rfl rfl ?_
 refine Q.r ?_;(repeat (intro b1;refine Q.r ?_))
 refine swp_cutB (σ := Option Addr × Nat × List (Int × Int) × Bool) (fun s2 => [(0,.pointer (some ⟨p,0,none⟩)),(1,.int .u64 b),(2,.int .u64 s),(6,.slice s2.1 s2.2.2.1.length s2.2.1),(7,.bool s2.2.2.2)])
  (fun s2 => slO 142 2 s2.1 s2.2.2.1.length s2.2.1 (s2.2.2.1.flatMap dC) :: rgP p j ta tc ts da dc ds :: roM M :: L)
  (fun s2 => (s2.2.2.2 = false ∧ s2.2.2.1 = ds ∧ ∀ u ∈ ds,u.1 < b) ∨ (s2.2.2.2 = true ∧ s2.2.2.1 = insD ds (b,s))) ?_ ?_
 ·refine swp_loop (σ := Nat × Option Addr × Nat × List (Int × Int) × Bool) (fun s2 => [(0,.pointer (some ⟨p,0,none⟩)),(1,.int .u64 b),(2,.int .u64 s),(13,.slice da ds.length dc),(14,.int .i64 ds.length),(6,.slice s2.2.1 s2.2.2.2.1.length s2.2.2.1),(7,.bool s2.2.2.2.2),(15,.int .i64 s2.1)])
   (fun s2 => slO 142 2 s2.2.1 s2.2.2.2.1.length s2.2.2.1 (s2.2.2.2.1.flatMap dC) :: rgP p j ta tc ts da dc ds :: roM M :: L)
   (fun s2 => s2.1 ≤ ds.length ∧ ((s2.2.2.2.2 = false ∧ s2.2.2.2.1 = ds.take s2.1 ∧ ∀ u ∈ ds.take s2.1,u.1 < b) ∨ (s2.2.2.2.2 = true ∧ s2.2.2.2.1 = insD (ds.take s2.1) (b,s) ∧ ∃ u ∈ ds.take s2.1,b ≤ u.1)) ∧ s2.2.2.2.1.length ≤ s2.1 + 1) (fun s2 => ds.length - s2.1) (0,none,0,[],false) ⟨rfl,rfl,rfl,rfl,rfl,rfl,rfl,rfl,trivial⟩ slO_nil ⟨by omega,.inl ⟨rfl,rfl,by simp⟩,by simp⟩ ?_
  rintro ⟨k,a3,c3,us,fl⟩ ⟨hk,hus,hul⟩
  dsimp only at hk hus hul ⊢
  by_cases hlt : k < ds.length
  ·obtain ⟨d,hd⟩ := mem_get hlt
   obtain ⟨bb,oo,hia,cr⟩ := SlM.cm (g := dC) (fun _ => rfl) h hd rfl
   rw [hia]
   have hbig : (∃ u ∈ ds.take k,b ≤ u.1) → b < d.1 := by
    rintro ⟨u,hu,hub⟩
    have e := split_at hd
    rw [e,List.map_append,List.map_cons,List.pairwise_append] at hs
    have := hs.2.2 u.1 (List.mem_map_of_mem hu) d.1 List.mem_cons_self
    omega
   have hsn : ds.take (k + 1) = ds.take k ++ [d] := take_snoc hd
   rcases hus with ⟨rfl,rfl,hall⟩ | ⟨rfl,rfl,hex⟩
   ·have hf1 : (ds.take k).filter (fun u => decide (u.1 < b)) = ds.take k := List.filter_eq_self.2 fun u hu => by simpa using hall u hu
    have hf2 : (ds.take k).filter (fun u => decide (b < u.1)) = [] := List.filter_eq_nil_iff.2 fun u hu => by have := hall u hu;simp;omega
    have hi0 : insD (ds.take k) (b,s) = ds.take k ++ [(b,s)] := by unfold insD;rw [hf1,hf2]
    have htl : (ds.take k).length ≤ 1000000 := by rw [List.length_take];omega
    by_cases h1 : d.1 < b
    ·have hne : ¬ d.1 = b := by omega
     refine Q.r ?_;(repeat (intro b1;refine Q.r ?_))
     refine S.app rfl rfl (SrcS.sl RdC.row (by rfl) (by rfl)) (by rfl) (by omega) (by omega) (fun a7 c7 => ?_)
     refine Q.r ?_;(repeat (intro b1;refine Q.r ?_))
     refine ⟨(k + 1,a7,c7,ds.take k ++ [d],false),⟨rfl,rfl,rfl,rfl,rfl,congrArg some (by simp),rfl,rfl,trivial⟩,?_,⟨by dsimp only;omega,.inl ⟨rfl,hsn.symm,?_⟩,by dsimp only;rw [len_snoc];omega⟩,by dsimp only;omega⟩
     ·dsimp only
      rw [len_snoc,flat_snoc]
      exact Go.SX.Ent.go
     ·dsimp only
      rw [hsn]
      intro u hu
      rcases List.mem_append.1 hu with hu | hu
      ·exact hall u hu
      ·obtain rfl := List.mem_singleton.1 hu
       exact h1
    ·by_cases h2 : d.1 = b
     ·refine Q.r ?_;(repeat (intro b1;refine Q.r ?_))
      refine S.app rfl rfl (SrcS.sl RdC.row (by rfl) (by rfl)) (by rfl) (by omega) (by omega) (fun a7 c7 => ?_)
      refine Q.r ?_;(repeat (intro b1;refine Q.r ?_))
      refine ⟨(k + 1,a7,c7,ds.take k ++ [(b,s)],true),⟨rfl,rfl,rfl,rfl,rfl,congrArg some (by simp),rfl,rfl,trivial⟩,?_,⟨by dsimp only;omega,.inr ⟨rfl,?_,d,?_,?_⟩,by dsimp only;rw [len_snoc];omega⟩,by dsimp only;omega⟩
      ·dsimp only
       rw [len_snoc,flat_snoc]
       exact Go.SX.Ent.go
      ·dsimp only
       rw [hsn,insD_snoc,if_neg (by dsimp only;omega),if_neg (by dsimp only;omega),hi0]
      ·dsimp only;rw [hsn];simp
      ·omega
     ·refine Q.r ?_;(repeat (intro b1;refine Q.r ?_))
      refine S.app rfl rfl (SrcS.sl RdC.row (by rfl) (by rfl)) (by rfl) (by omega) (by omega) (fun a7 c7 => ?_)
      refine Q.r ?_;(repeat (intro b1;refine Q.r ?_))
      refine S.app rfl rfl (SrcS.sl RdC.row (by rfl) (by rfl)) (by rfl) (by omega) (by omega) (fun a8 c8 => ?_)
      refine Q.r ?_;(repeat (intro b1;refine Q.r ?_))
      refine ⟨(k + 1,a8,c8,ds.take k ++ [(b,s)] ++ [d],true),⟨rfl,rfl,rfl,rfl,rfl,congrArg some (by simp),rfl,rfl,trivial⟩,?_,⟨by dsimp only;omega,.inr ⟨rfl,?_,d,?_,?_⟩,?_⟩,by dsimp only;omega⟩
      ·dsimp only
       rw [len_snoc,flat_snoc,len_snoc,flat_snoc]
       exact Go.SX.Ent.go
      ·dsimp only
       rw [hsn,insD_snoc,if_neg (by dsimp only;omega),if_pos (by dsimp only;omega),hi0]
      ·dsimp only;rw [hsn];simp
      ·omega
      ·dsimp only
       rw [len_snoc,len_snoc,List.length_take];omega
   ·have hbd := hbig hex
    have hne : ¬ d.1 = b := by omega
    have hne2 : ¬ d.1 < b := by omega
    have hul2 : (insD (ds.take k) (b,s)).length ≤ 1000001 := by omega
    refine Q.r ?_;(repeat (intro b1;refine Q.r ?_))
    refine S.app rfl rfl (SrcS.sl RdC.row (by rfl) (by rfl)) (by rfl) (by omega) (by omega) (fun a7 c7 => ?_)
    refine Q.r ?_;(repeat (intro b1;refine Q.r ?_))
    refine ⟨(k + 1,a7,c7,insD (ds.take k) (b,s) ++ [d],true),⟨rfl,rfl,rfl,rfl,rfl,congrArg some (by simp),rfl,rfl,trivial⟩,?_,⟨by dsimp only;omega,.inr ⟨rfl,?_,?_⟩,by dsimp only;rw [len_snoc];omega⟩,by dsimp only;omega⟩
    ·dsimp only
     rw [len_snoc,flat_snoc]
     exact Go.SX.Ent.go
    ·dsimp only
     rw [hsn,insD_snoc,if_neg (by dsimp only;omega),if_pos (by dsimp only;omega)]
    ·obtain ⟨u,hu,hub⟩ := hex
     exact ⟨u,(by dsimp only;rw [hsn];exact List.mem_append_left _ hu),hub⟩
  ·have hke : k = ds.length := by omega
   subst hke
   rw [List.take_length] at hus
   refine Q.r ?_;(repeat (intro b1;refine Q.r ?_))
   refine ⟨(a3,c3,us,fl),⟨rfl,rfl,rfl,rfl,rfl,trivial⟩,by exact Go.SX.Ent.go,?_⟩
   rcases hus with ⟨h1,h2,h3⟩ | ⟨h1,h2,_⟩
   ·exact .inl ⟨h1,h2,h3⟩
   ·exact .inr ⟨h1,h2⟩
 rintro ⟨a3,c3,us,fl⟩ hus
 dsimp only at hus ⊢
 rcases hus with ⟨rfl,hu,hall⟩ | ⟨rfl,rfl⟩
 ·replace hu := hu.symm
  subst hu
  have hf1 : ds.filter (fun u => decide (u.1 < b)) = ds := List.filter_eq_self.2 fun u hu => by simpa using hall u hu
  have hf2 : ds.filter (fun u => decide (b < u.1)) = [] := List.filter_eq_nil_iff.2 fun u hu => by have := hall u hu;simp;omega
  have hi0 : insD ds (b,s) = ds ++ [(b,s)] := by unfold insD;rw [hf1,hf2]
  rw [hi0]
  refine Q.r ?_;(repeat (intro b1;refine Q.r ?_))
  refine S.app rfl rfl (SrcS.sl RdC.row (by rfl) (by rfl)) (by rfl) (by omega) (by omega) (fun a7 c7 => ?_)
  refine Q.r ?_;(repeat (intro b1;refine Q.r ?_))
  refine N.n0 RV.nil ?_ ⟨a7,c7,rfl,rfl⟩
  rw [len_snoc,flat_snoc]
  refine Ent.trans (M := slO 142 2 a7 (ds.length + 1) c7 (ds.flatMap dC ++ dC (b,s)) :: pt p (cl [.int .i64 j.shards,.int .i64 j.dim,.int .u64 j.epoch,.int .u64 j.seq,.int .u64 j.last,.slice ta ts.length tc,.slice a7 (ds.length + 1) c7] 33) :: roM M :: L) (by exact Go.SX.Ent.go) ?_
  unfold rgP
  rw [len_snoc]
  exact Ent.refl _
 ·refine Q.r ?_;(repeat (intro b1;refine Q.r ?_))
  exact N.n0 RV.nil (by exact Go.SX.Ent.go) ⟨a3,c3,rfl,rfl⟩
end Go.Proofs.YtiampehfpgcogaaGreatDoor
