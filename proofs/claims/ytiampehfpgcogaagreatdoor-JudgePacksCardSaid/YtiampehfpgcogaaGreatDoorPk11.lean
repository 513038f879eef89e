/- The document's Unpack. A judge that is unpacked is a judge as a walk wants it. The document's Cut. The law: what a judge packs another one unpacks; any bytes are unpacked, or are not; one that is not empty takes none. No condition. -/
import Derived.Test.YtiampehfpgcogaaGreatDoorPk10
set_option linter.unusedVariables false
set_option linter.unusedSimpArgs false
set_option linter.unusedSectionVars false
namespace Go.Proofs.YtiampehfpgcogaaGreatDoor
open Go Go.SX
attribute [local irreducible] swp opsS thenS blockS retS CallsS St Ent YieldS anyS drawS
abbrev rrP (r : Nat) (a : Option Addr) (m c : Nat) (ok : Bool) : HP := pt r (cl [.slice a m c,.bool ok] 139)
abbrev rrS (r : Nat) (a : Option Addr) (c : Nat) (s : RS) : HP := rrP r a s.bs.length c (decide (s.bad = 0))
set_option maxHeartbeats 2000000 in
set_option maxRecDepth 100000 in
theorem Rnum_spec (r : Nat) (a : Option Addr) (c : Nat) (s : RS) (most : Nat) (M : Nat → Option Obj) (L : List HP) [hM : HasM M L] (h : RK M a c s) :
  CallsS Tryz.prog 71 [.pointer (some ⟨r,0,none⟩),.int .u64 most] (rrS r a c s :: L)
   (fun v L' => v = .int .u64 (rdF most s).1 ∧ ∃ a' c',RK M a' c' (rdF most s).2 ∧ L' = rrS r a' c' (rdF most s).2 :: L) := by
 have hl := rdF_len most s
 have hT := RTake_spec a c s.bs most (rrS r a c s :: L) (h.sl.rd (hm := HasM.there)) (by have := h.b;omega)
 have hsz := takeF_size s.bs most
 unfold rdF numF at hl ⊢
 generalize takeF s.bs most = q at *
 obtain ⟨v,sz,e⟩ := q
 dsimp only at *
 refine CallsS.of_body Tryz.func71 rfl rfl rfl ?_
 refine Q.r ?_;(repeat (intro b1;refine Q.r ?_))
 refine S.cr rfl hT ?_
 rintro _ _ ⟨rfl,rfl⟩
 refine Q.r ?_;(repeat (intro b1;refine Q.r ?_))
 clear hT
 by_cases he : e = 0
 ·by_cases hd : s.bad = 0
  ·rw [if_neg (by omega),if_neg (by omega)] at hl ⊢
   unfold restV
   rw [if_neg (by show ¬ e ≠ 0;omega)]
   refine Q.r ?_;(repeat (intro b1;refine Q.r ?_))
   have hs := h.sl.fromA (l := sz) hsz h.c
   rw [Nat.mul_one,← List.map_drop] at hs
   refine N.r1 (RV.tmp rfl RV.nil) (Ent.refl _) ⟨rfl,subA a c sz 1,c - sz,⟨?_,?_,?_⟩,?_⟩
   ·dsimp only
    rw [List.length_drop]
    exact hs
   ·dsimp only
    rw [List.length_drop]
    have := h.c
    omega
   ·dsimp only at hl ⊢
    have := h.b
    omega
   ·show _ = rrP r _ (List.drop sz s.bs).length _ (decide ((0 : Int) = 0)) :: L
    rw [List.length_drop,decide_eq_true hd]
    rfl
  ·rw [if_pos hd] at hl ⊢
   refine Q.r ?_;(repeat (intro b1;refine Q.r ?_))
   exact N.r1 (RV.tmp rfl RV.nil) (Ent.refl _) ⟨rfl,a,c,h,by show _ = rrP r a s.bs.length c (decide (s.bad = 0)) :: L;rw [show decide (s.bad = 0) = false from decide_eq_false hd]⟩
 ·by_cases hd : s.bad = 0
  ·rw [if_neg (by omega),if_pos he] at hl ⊢
   refine Q.r ?_;(repeat (intro b1;refine Q.r ?_))
   refine N.r1 (RV.tmp rfl RV.nil) (Ent.refl _) ⟨rfl,a,c,⟨h.sl,h.c,h.b⟩,?_⟩
   show _ = rrP r a s.bs.length c (decide (e = 0)) :: L
   rw [show decide (e = 0) = false from decide_eq_false he]
  ·rw [if_pos hd] at hl ⊢
   refine Q.r ?_;(repeat (intro b1;refine Q.r ?_))
   exact N.r1 (RV.tmp rfl RV.nil) (Ent.refl _) ⟨rfl,a,c,h,by show _ = rrP r a s.bs.length c (decide (s.bad = 0)) :: L;rw [show decide (s.bad = 0) = false from decide_eq_false hd]⟩
theorem lastLt_get {α : Type} {f : α → Int} {ds : List α} {d : α} (h : ds[ds.length - 1]? = some d) (x : Int) : lastLt (ds.map f) x = decide (f d < x) := by
 unfold lastLt
 rw [List.getLast?_map,List.getLast?_eq_getElem?,h]
 rfl
theorem lastLt_nil {α : Type} {f : α → Int} {ds : List α} (h : ds.length = 0) (x : Int) : lastLt (ds.map f) x = true := by
 rw [List.eq_nil_of_length_eq_zero h]
 rfl
abbrev slD (a : Option Addr) (c : Nat) (ds : List (Int × Int)) : HP := slO 142 2 a ds.length c (ds.flatMap dC)
abbrev cT (x y st : Nat) (pa : Option Addr) (pc : Nat) (ps : List Int) : List Value := [.int .u64 x,.int .u64 y,.int .u64 st,.int .u64 0,.int .i64 0,.slice pa ps.length pc,.slice none 0 0,.slice none 0 0,.slice none 0 0]
abbrev JU2 (sh dim : Int) (e l : Nat) : JG := ⟨sh,dim,e,0,l,[],[]⟩
set_option maxHeartbeats 8000000 in
set_option maxRecDepth 100000 in
theorem RUnpack_spec (M : Nat → Option Obj) (sh dim : Int) (a : Option Addr) (c : Nat) (bs : List UInt8) (L : List HP) (hs : SlM M a bs.length 1 (bs.map B)) (hc : bs.length ≤ c) (hb : bs.length ≤ 100000) (h1 : 1 ≤ sh) (h2 : sh ≤ 4) :
  CallsS Tryz.prog 23 [.int .i64 sh,.int .i64 dim,.slice a bs.length c] (roM M :: L) (fun v L' => ∃ M',leM M M' ∧ ((refU sh dim bs = none ∧ v = .pointer none ∧ L' = roM M' :: L) ∨ ∃ y x,refU sh dim bs = some y ∧ v = .pointer (some ⟨x,0,none⟩) ∧ L' = rgH M' x y :: roM M' :: L)) := by
 refine CallsS.of_body Tryz.func23 rfl rfl rfl ?_
 refine Q.r ?_;(repeat (intro b1;refine Q.r ?_))
 revert b1
 intro r
 refine opsS_ent (L' := rrS r a c ⟨bs,0,true⟩ :: roM M :: L) (Ent.refl _) ?_
 have hk0 : RK M a c ⟨bs,0,true⟩ := ⟨hs,hc,hb⟩
 refine S.c1 (A := rrS r a c ⟨bs,0,true⟩) rfl (Rnum_spec r a c ⟨bs,0,true⟩ 1099511627776 M _ hk0) ?_
 rintro _ _ ⟨rfl,a2,c2,hk1,rfl⟩
 have eh : hdF bs = ((rdF 1099511627776 ⟨bs,0,true⟩).1,(rdF 1099511627776 (rdF 1099511627776 ⟨bs,0,true⟩).2).1,(rdF 1099511627776 (rdF 1099511627776 ⟨bs,0,true⟩).2).2) := rfl
 have hLe0 := (rdF_le 1099511627776 ⟨bs,0,true⟩).1
 generalize rdF 1099511627776 ⟨bs,0,true⟩ = x1 at *
 obtain ⟨e,z1⟩ := x1
 dsimp only at *
 have hLe := (rdF_le 1099511627776 z1).1
 refine Q.r ?_;(repeat (intro b1;refine Q.r ?_))
 refine S.c1 (A := rrS r a2 c2 z1) rfl (Rnum_spec r a2 c2 z1 1099511627776 M _ hk1) ?_
 rintro _ _ ⟨rfl,a3,c3,hk2,rfl⟩
 generalize rdF 1099511627776 z1 = x2 at *
 obtain ⟨l,z2⟩ := x2
 dsimp only at *
 refine Q.r ?_;(repeat (intro b1;refine Q.r ?_))
 revert b1
 intro x
 refine S.c1 (A := rrS r a3 c3 z2) rfl (Rnum_spec r a3 c3 z2 1048576 M _ hk2) ?_
 rintro _ _ ⟨rfl,a4,c4,hk3,rfl⟩
 have hN := (rdF_le 1048576 z2).1
 have hU : refU sh dim bs = refJ sh dim e l (refD l (min (rdF 1048576 z2).1 bs.length) ((rdF 1048576 z2).2,[])) := by
  unfold refU
  rw [eh]
 generalize rdF 1048576 z2 = x3 at *
 obtain ⟨n,z3⟩ := x3
 dsimp only at *
 refine Q.r ?_;(repeat (intro b1;refine Q.r ?_))
 refine S.y (Y.cvi rfl) ?_
 rw [wrap_u64 (by omega) (by omega)]
 refine Q.r ?_;(repeat (intro b1;refine Q.r ?_))
 rw [show min (n : Int) (bs.length : Int) = ((min n bs.length : Nat) : Int) by omega]
 have hK : min n bs.length ≤ 100000 := by omega
 generalize min n bs.length = K at *
 refine swp_cutB (σ := RS × List (Int × Int) × Option Addr × Nat × Option Addr × Nat) (fun w => [(0,.int .i64 sh),(7,.pointer (some ⟨r,0,none⟩)),(8,.pointer (some ⟨x,0,none⟩))])
  (fun w => rrS r w.2.2.1 w.2.2.2.1 w.1 :: rgP x (JU2 sh dim e l) none 0 [] w.2.2.2.2.1 w.2.2.2.2.2 w.2.1 :: slD w.2.2.2.2.1 w.2.2.2.2.2 w.2.1 :: roM M :: L) (fun w => RK M w.2.2.1 w.2.2.2.1 w.1 ∧ refD l K (z3,[]) = some (w.1,w.2.1)) ?_ ?_
 ·refine swp_loop (σ := Nat × RS × List (Int × Int) × Option Addr × Nat × Option Addr × Nat) (fun w => [(0,.int .i64 sh),(7,.pointer (some ⟨r,0,none⟩)),(8,.pointer (some ⟨x,0,none⟩)),(32,.int .u64 K),(33,.int .u64 w.1)])
   (fun w => rrS r w.2.2.2.1 w.2.2.2.2.1 w.2.1 :: rgP x (JU2 sh dim e l) none 0 [] w.2.2.2.2.2.1 w.2.2.2.2.2.2 w.2.2.1 :: slD w.2.2.2.2.2.1 w.2.2.2.2.2.2 w.2.2.1 :: roM M :: L)
   (fun w => w.1 ≤ K ∧ w.2.2.1.length = w.1 ∧ RK M w.2.2.2.1 w.2.2.2.2.1 w.2.1 ∧ refD l (K - w.1) (w.2.1,w.2.2.1) = refD l K (z3,[])) (fun w => K - w.1) (0,z3,[],a4,c4,none,0) ⟨rfl,rfl,rfl,rfl,rfl,trivial⟩ (by exact Go.SX.Ent.go) ⟨Nat.zero_le _,rfl,hk3,rfl⟩ ?_
  rintro ⟨i,s,ds,a5,c5,da,dc⟩ ⟨hi,hdl,hk,hD⟩
  dsimp only at hi hdl hk hD ⊢
  by_cases hlt : i < K
  ·refine Q.r ?_;(repeat (intro b1;refine Q.r ?_))
   refine S.c1 (A := rrS r a5 c5 s) rfl (Rnum_spec r a5 c5 s 18446744073709551615 M _ hk) ?_
   rintro _ _ ⟨rfl,a6,c6,hk4,rfl⟩
   rw [show K - i = (K - (i + 1)) + 1 by omega,refD_succ] at hD
   dsimp only at hD
   generalize rdF 18446744073709551615 s = x4 at *
   obtain ⟨b,z4⟩ := x4
   dsimp only at *
   refine Q.r ?_;(repeat (intro b1;refine Q.r ?_))
   refine S.c1 (A := rrS r a6 c6 z4) rfl (Rnum_spec r a6 c6 z4 1099511627776 M _ hk4) ?_
   rintro _ _ ⟨rfl,a7,c7,hk5,rfl⟩
   generalize rdF 1099511627776 z4 = x5 at *
   obtain ⟨st,z5⟩ := x5
   dsimp only at *
   refine Q.r ?_;(repeat (intro b1;refine Q.r ?_))
   revert b1
   intro b9
   refine swp_ent (L' := pt b9 (cl [.int .u64 b,.int .u64 st] 142) :: rrS r a7 c7 z5 :: rgP x (JU2 sh dim e l) none 0 [] da dc ds :: slD da dc ds :: roM M :: L) (Ent.refl _) ?_
   refine swp_cutT (σ := Unit) (fun _ => [(0,.int .i64 sh),(7,.pointer (some ⟨r,0,none⟩)),(8,.pointer (some ⟨x,0,none⟩)),(9,.pointer (some ⟨b9,0,none⟩)),(32,.int .u64 K),(33,.int .u64 i),(74,.bool (!decide (0 < st ∧ st ≤ l ∧ lastLt (ds.map (·.1)) b = true)))])
    (fun _ => pt b9 (cl [.int .u64 b,.int .u64 st] 142) :: rrS r a7 c7 z5 :: rgP x (JU2 sh dim e l) none 0 [] da dc ds :: slD da dc ds :: roM M :: L) (fun _ => True) ?_ ?_
   ·by_cases h0 : 0 < st
    ·have h0' : ¬ (st : Int) = 0 := by omega
     by_cases h1 : st ≤ l
     ·have h1' : ¬ (l : Int) < (st : Int) := by omega
      by_cases hz : ds.length = 0
      ·refine Q.dgo [true,false,true,true] [] [] [0,1,2,3,4,5,6,7,8,9,10,11,12,13,14,15,16,17,18,19,20,21,22,23,24,25,26,27,28,29] ?_
       refine Q.rd ?_;(repeat (intro b1;refine Q.rd ?_))
       refine Q.r ?_;(repeat (intro b1;refine Q.r ?_))
       exact ⟨(),⟨rfl,rfl,rfl,rfl,rfl,rfl,congrArg some (congrArg Value.bool (by rw [decide_eq_true ⟨h0,h1,lastLt_nil hz _⟩];rfl)),trivial⟩,by exact Go.SX.Ent.go,trivial⟩
      ·refine swp_addr da (fun ha => ?_)
       obtain ⟨d0,hd0⟩ := mem_get (l := ds) (k := ds.length - 1) (by omega)
       obtain ⟨bb,oo,hia,cr⟩ := RdS.elem (g := dC) (fun _ => rfl) (RdS.own (L := [pt b9 (cl [.int .u64 b,.int .u64 st] 142),rgP x (JU2 sh dim e l) none 0 [] da dc ds,slD da dc ds]) ha (flat_len (sz := 2) (fun _ => rfl) ds)) hd0 rfl
       have hlt0 := lastLt_get (f := fun d : Int × Int => d.1) hd0 b
       have hk1' : (ds.length : Int) - 1 = ((ds.length - 1 : Nat) : Int) := by omega
       have hk2' : ds.length - 1 < ds.length := by omega
       subst hia
       refine Q.dgo [true,false,true,true] [] [] [0,1,2,3,4,5,6,7,8,9,10,11,12,13,14,15,16,17,18,19,20,21,22,23,24,25,26,27,28,29] ?_
       refine Q.rd ?_;(repeat (intro b1;refine Q.rd ?_))
       refine D.y rfl rfl rfl (by kernel_rfl) (Y.guard rfl (Y.ia (k := ds.length - 1) (m := ds.length) rfl rfl hk1' hk2')) ?_
       refine Q.rd ?_;(repeat (intro b1;refine Q.rd ?_))
       refine D.y rfl rfl rfl (by kernel_rfl) (by first | exact (Y.ldRj rfl (by first | assumption | exact RdC.sub (by assumption)) rfl) | exact Y.guard rfl (Y.ldRj rfl (by first | assumption | exact RdC.sub (by assumption)) rfl)) ?_
       refine Q.rd ?_;(repeat (intro b1;refine Q.rd ?_))
       refine Q.r ?_;(repeat (intro b1;refine Q.r ?_))
       exact ⟨(),⟨rfl,rfl,rfl,rfl,rfl,rfl,congrArg some (congrArg Value.bool (by rw [hlt0];simp [h0,h1];rw [← decide_not,decide_eq_decide];omega)),trivial⟩,by exact Go.SX.Ent.go,trivial⟩
     ·have h1' : (l : Int) < (st : Int) := by omega
      refine Q.dgo [true,false,true,true] [] [] [0,1,2,3,4,5,6,7,8,9,10,11,12,13,14,15,16,17,18,19,20,21,22,23,24,25,26,27,28,29] ?_
      refine Q.rd ?_;(repeat (intro b1;refine Q.rd ?_))
      refine Q.r ?_;(repeat (intro b1;refine Q.r ?_))
      exact ⟨(),⟨rfl,rfl,rfl,rfl,rfl,rfl,congrArg some (congrArg Value.bool (by rw [decide_eq_false fun hc => h1 hc.2.1];rfl)),trivial⟩,by exact Go.SX.Ent.go,trivial⟩
    ·have h0' : st = 0 := by omega
     subst h0'
     refine Q.dgo [true,false,true,true] [] [] [0,1,2,3,4,5,6,7,8,9,10,11,12,13,14,15,16,17,18,19,20,21,22,23,24,25,26,27,28,29] ?_
     refine Q.rd ?_;(repeat (intro b1;refine Q.rd ?_))
     refine Q.r ?_;(repeat (intro b1;refine Q.r ?_))
     exact ⟨(),⟨rfl,rfl,rfl,rfl,rfl,rfl,congrArg some (congrArg Value.bool (by rw [decide_eq_false fun hc => h0 hc.1];rfl)),trivial⟩,by exact Go.SX.Ent.go,trivial⟩
   rintro _ _
   by_cases hok : 0 < st ∧ st ≤ l ∧ lastLt (ds.map (·.1)) b = true
   ·rw [if_pos hok] at hD
    rw [decide_eq_true hok]
    refine Q.r ?_;(repeat (intro b1;refine Q.r ?_))
    refine Q.dgo [true,false,true,false] [6,7,10] [10] [0,1,2,3,4,5,6,7,8,9,10] ?_
    refine Q.rd2 ?_
    refine D.e rfl rfl rfl ?_
    refine Q.r ?_;(repeat (intro b1;refine Q.r ?_))
    refine Q.rd2 ?_
    refine D.e rfl rfl rfl ?_
    refine S.app rfl rfl (SrcS.sl RdC.row (by rfl) (by rfl)) (by rfl) (by omega) (by omega) (fun a8 c8 => ?_)
    refine Q.r ?_;(repeat (intro b1;refine Q.r ?_))
    refine Q.rd2 ?_
    refine Q.dc rfl rfl rfl rfl ?_
    refine Q.r ?_;(repeat (intro b1;refine Q.r ?_))
    refine Q.rd2 ?_
    refine Q.r ?_;(repeat (intro b1;refine Q.r ?_))
    refine S.y (Y.add rfl rfl) ?_
    rw [wrap_u64 (by omega) (by omega)]
    refine Q.r ?_;(repeat (intro b1;refine Q.r ?_))
    refine ⟨(i + 1,z5,ds ++ [((b : Int),(st : Int))],a7,c7,a8,c8),⟨rfl,rfl,rfl,rfl,congrArg some (by simp [List.filter_append]),trivial⟩,?_,⟨hlt,by dsimp only;rw [len_snoc,hdl],hk5,hD⟩,Nat.sub_succ_lt_self K i hlt⟩
    dsimp only [rgP,slD]
    rw [len_snoc,flat_snoc]
    exact Go.SX.Ent.go
   ·rw [if_neg hok] at hD
    have out : refU sh dim bs = none := by rw [hU,← hD];rfl
    rw [decide_eq_false hok]
    refine Q.r ?_;(repeat (intro b1;refine Q.r ?_))
    refine N.r1 (RV.tmp rfl RV.nil) ?_ ⟨M,leM.refl M,.inl ⟨out,rfl,rfl⟩⟩
    exact Go.SX.Ent.go
  ·have hin : i = K := by omega
   subst hin
   rw [Nat.sub_self] at hD
   refine Q.r ?_;(repeat (intro b1;refine Q.r ?_))
   exact ⟨(s,ds,a5,c5,da,dc),⟨rfl,rfl,rfl,trivial⟩,by exact Go.SX.Ent.go,hk,hD.symm⟩
 rintro ⟨s,ds,a5,c5,da,dc⟩ ⟨hk,hD⟩
 dsimp only at hk hD ⊢
 rw [hD] at hU
 unfold refJ at hU
 dsimp only at hU
 have hDi := refD_inv (last := l) K (z3,[]) (s,ds) hD
 clear hD
 refine Q.r ?_;(repeat (intro b1;refine Q.r ?_))
 refine S.c1 (A := rrS r a5 c5 s) rfl (Rnum_spec r a5 c5 s 8 M _ hk) ?_
 rintro _ _ ⟨rfl,a6,c6,hk6,rfl⟩
 have hN8 := (rdF_le 8 s).1
 have hs8 : (rdF 8 s).2.bad = 0 → s.bad = 0 := fun h => (rdF_inv h).1
 generalize rdF 8 s = x6 at *
 obtain ⟨m,z6⟩ := x6
 dsimp only at *
 refine Q.r ?_;(repeat (intro b1;refine Q.r ?_))
 refine swp_cutB (σ := RS × List TV × Option Addr × Nat × Option Addr × Nat × (Nat → Option Obj)) (fun w => [(0,.int .i64 sh),(7,.pointer (some ⟨r,0,none⟩)),(8,.pointer (some ⟨x,0,none⟩))])
  (fun w => rrS r w.2.2.1 w.2.2.2.1 w.1 :: rgP x (JU2 sh dim e l) w.2.2.2.2.1 w.2.2.2.2.2.1 w.2.1 da dc ds :: slT w.2.2.2.2.1 w.2.2.2.2.2.1 w.2.1 :: slD da dc ds :: roM w.2.2.2.2.2.2 :: L) (fun w => RK w.2.2.2.2.2.2 w.2.2.1 w.2.2.2.1 w.1 ∧ leM M w.2.2.2.2.2.2 ∧ (∀ t ∈ w.2.1,okT w.2.2.2.2.2.2 t ∧ okC t) ∧ refT sh.toNat l m (z6,[]) = some (w.1,w.2.1.map TV.abs)) ?_ ?_
 ·refine swp_loop (σ := Nat × RS × List TV × Option Addr × Nat × Option Addr × Nat × (Nat → Option Obj)) (fun w => [(0,.int .i64 sh),(7,.pointer (some ⟨r,0,none⟩)),(8,.pointer (some ⟨x,0,none⟩)),(87,.int .u64 m),(88,.int .u64 w.1)])
   (fun w => rrS r w.2.2.2.1 w.2.2.2.2.1 w.2.1 :: rgP x (JU2 sh dim e l) w.2.2.2.2.2.1 w.2.2.2.2.2.2.1 w.2.2.1 da dc ds :: slT w.2.2.2.2.2.1 w.2.2.2.2.2.2.1 w.2.2.1 :: slD da dc ds :: roM w.2.2.2.2.2.2.2 :: L)
   (fun w => w.1 ≤ m ∧ w.2.2.1.length = w.1 ∧ RK w.2.2.2.2.2.2.2 w.2.2.2.1 w.2.2.2.2.1 w.2.1 ∧ leM M w.2.2.2.2.2.2.2 ∧ (∀ t ∈ w.2.2.1,okT w.2.2.2.2.2.2.2 t ∧ okC t) ∧ refT sh.toNat l (m - w.1) (w.2.1,w.2.2.1.map TV.abs) = refT sh.toNat l m (z6,[])) (fun w => m - w.1) (0,z6,[],a6,c6,none,0,M) ⟨rfl,rfl,rfl,rfl,rfl,trivial⟩ (by exact Go.SX.Ent.go) ⟨Nat.zero_le _,rfl,hk6,leM.refl M,fun _ h => (by cases h),rfl⟩ ?_
  rintro ⟨i,s2,ts,a7,c7,ta,tc,M2⟩ ⟨hi,htl,hk7,hl2,hok,hT⟩
  dsimp only at hi htl hk7 hl2 hok hT ⊢
  by_cases hlt : i < m
  ·rw [show m - i = (m - (i + 1)) + 1 by omega,refT_succ] at hT
   unfold refT1 at hT
   dsimp only at hT
   refine Q.r ?_;(repeat (intro b1;refine Q.r ?_))
   refine S.c1 (A := rrS r a7 c7 s2) rfl (Rnum_spec r a7 c7 s2 18446744073709551615 M2 _ hk7) ?_
   rintro _ _ ⟨rfl,a8,c8,hk8,rfl⟩
   generalize rdF 18446744073709551615 s2 = x8 at *
   obtain ⟨tx,z8⟩ := x8
   dsimp only at *
   refine Q.r ?_;(repeat (intro b1;refine Q.r ?_))
   refine S.c1 (A := rrS r a8 c8 z8) rfl (Rnum_spec r a8 c8 z8 18446744073709551615 M2 _ hk8) ?_
   rintro _ _ ⟨rfl,a9,c9,hk9,rfl⟩
   generalize rdF 18446744073709551615 z8 = x9 at *
   obtain ⟨ty,z9⟩ := x9
   dsimp only at *
   refine Q.r ?_;(repeat (intro b1;refine Q.r ?_))
   refine S.c1 (A := rrS r a9 c9 z9) rfl (Rnum_spec r a9 c9 z9 1099511627776 M2 _ hk9) ?_
   rintro _ _ ⟨rfl,a10,c10,hk10,rfl⟩
   generalize rdF 1099511627776 z9 = x10 at *
   obtain ⟨st,z10⟩ := x10
   dsimp only at *
   refine Q.r ?_;(repeat (intro b1;refine Q.r ?_))
   revert b1
   intro bt
   refine opsS_ent (L' := rrS r a10 c10 z10 :: pt bt (cl (cT tx ty st none 0 []) 121) :: rgP x (JU2 sh dim e l) ta tc ts da dc ds :: slT ta tc ts :: slD da dc ds :: roM M2 :: L) (by exact Go.SX.Ent.go) ?_
   refine S.c1 (A := rrS r a10 c10 z10) rfl (Rnum_spec r a10 c10 z10 4 M2 _ hk10) ?_
   rintro _ _ ⟨rfl,a11,c11,hk11,rfl⟩
   have hn4 := (rdF_le 4 z10).1
   generalize rdF 4 z10 = x11 at *
   obtain ⟨np,z11⟩ := x11
   dsimp only at *
   have outT : refT sh.toNat l m (z6,[]) = none → refU sh dim bs = none := fun h => by rw [hU,h];rfl
   have hshn : ((sh.toNat : Nat) : Int) = sh := Int.toNat_of_nonneg (by omega)
   have hsw : IntKind.u64.wrap sh = ((sh.toNat : Nat) : Int) := by rw [wrap_u64 (by omega) (by omega),hshn]
   refine Q.r ?_;(repeat (intro b1;refine Q.r ?_))
   refine swp_cutB (σ := RS × List Int × Option Addr × Nat × Option Addr × Nat) (fun w => [(0,.int .i64 sh),(7,.pointer (some ⟨r,0,none⟩)),(8,.pointer (some ⟨x,0,none⟩)),(11,.pointer (some ⟨bt,0,none⟩)),(12,.int .u64 np),(87,.int .u64 m),(88,.int .u64 i)])
    (fun w => rrS r w.2.2.1 w.2.2.2.1 w.1 :: pt bt (cl (cT tx ty st w.2.2.2.2.1 w.2.2.2.2.2 w.2.1) 121) :: slO 3 1 w.2.2.2.2.1 w.2.1.length w.2.2.2.2.2 (w.2.1.map I64) :: rgP x (JU2 sh dim e l) ta tc ts da dc ds :: slT ta tc ts :: slD da dc ds :: roM M2 :: L) (fun w => RK M2 w.2.2.1 w.2.2.2.1 w.1 ∧ w.2.1.length = np ∧ refP sh.toNat np (z11,[]) = some (w.1,w.2.1)) ?_ ?_
   ·refine swp_loop (σ := Nat × RS × List Int × Option Addr × Nat × Option Addr × Nat) (fun w => [(0,.int .i64 sh),(7,.pointer (some ⟨r,0,none⟩)),(8,.pointer (some ⟨x,0,none⟩)),(11,.pointer (some ⟨bt,0,none⟩)),(12,.int .u64 np),(87,.int .u64 m),(88,.int .u64 i),(99,.int .u64 np),(100,.int .u64 w.1)])
     (fun w => rrS r w.2.2.2.1 w.2.2.2.2.1 w.2.1 :: pt bt (cl (cT tx ty st w.2.2.2.2.2.1 w.2.2.2.2.2.2 w.2.2.1) 121) :: slO 3 1 w.2.2.2.2.2.1 w.2.2.1.length w.2.2.2.2.2.2 (w.2.2.1.map I64) :: rgP x (JU2 sh dim e l) ta tc ts da dc ds :: slT ta tc ts :: slD da dc ds :: roM M2 :: L)
     (fun w => w.1 ≤ np ∧ w.2.2.1.length = w.1 ∧ RK M2 w.2.2.2.1 w.2.2.2.2.1 w.2.1 ∧ refP sh.toNat (np - w.1) (w.2.1,w.2.2.1) = refP sh.toNat np (z11,[])) (fun w => np - w.1) (0,z11,[],a11,c11,none,0) ⟨rfl,rfl,rfl,rfl,rfl,rfl,rfl,rfl,rfl,trivial⟩ (by exact Go.SX.Ent.go) ⟨Nat.zero_le _,rfl,hk11,rfl⟩ ?_
    rintro ⟨k,z,qs,a13,c13,pa,pc⟩ ⟨hkn,hql,hk13,hF⟩
    dsimp only at hkn hql hk13 hF ⊢
    by_cases hlt2 : k < np
    ·refine Q.r ?_;(repeat (intro b1;refine Q.r ?_))
     refine S.y (Y.cvi rfl) ?_
     rw [hsw]
     refine Q.r ?_;(repeat (intro b1;refine Q.r ?_))
     refine S.c1 (A := rrS r a13 c13 z) rfl (Rnum_spec r a13 c13 z sh.toNat M2 _ hk13) ?_
     rintro _ _ ⟨rfl,a14,c14,hk14,rfl⟩
     rw [show np - k = (np - (k + 1)) + 1 by omega,refP_succ] at hF
     have hv4 := (rdF_le sh.toNat z).1
     dsimp only at hF
     generalize rdF sh.toNat z = x14 at *
     obtain ⟨v,z14⟩ := x14
     dsimp only at *
     refine Q.r ?_;(repeat (intro b1;refine Q.r ?_))
     refine S.y (Y.cvi rfl) ?_
     rw [wrap_i64 (by omega) (by omega)]
     refine Q.r ?_;(repeat (intro b1;refine Q.r ?_))
     have bad : ¬ (0 < v ∧ lastLt qs v = true) → refU sh dim bs = none := fun hc => by
      rw [if_neg hc] at hF
      rw [← hF] at hT
      exact outT hT.symm
     by_cases h0 : 0 < v
     ·have h0' : ¬ (v : Int) < 1 := by omega
      by_cases hz : qs.length = 0
      ·rw [if_pos ⟨h0,by have := lastLt_nil (f := fun q : Int => q) hz v;rwa [List.map_id'] at this⟩] at hF
       refine Q.r ?_;(repeat (intro b1;refine Q.r ?_))
       refine S.app rfl rfl (SrcS.sl RdC.row (by rfl) (by rfl)) (by rfl) (by omega) (by omega) (fun a7 c7 => ?_)
       refine Q.r ?_;(repeat (intro b1;refine Q.r ?_))
       refine S.y (Y.add rfl rfl) ?_
       rw [wrap_u64 (by omega) (by omega)]
       refine Q.r ?_;(repeat (intro b1;refine Q.r ?_))
       refine ⟨(k + 1,z14,qs ++ [(v : Int)],a14,c14,a7,c7),⟨rfl,rfl,rfl,rfl,rfl,rfl,rfl,rfl,congrArg some (by simp [List.filter_append]),trivial⟩,?_,⟨hlt2,by dsimp only;rw [len_snoc,hql],hk14,hF⟩,Nat.sub_succ_lt_self np k hlt2⟩
       dsimp only [cT]
       rw [len_snoc,List.map_append,List.map_cons,List.map_nil]
       exact Go.SX.Ent.go
      ·refine opsS_addr pa (fun ha => ?_)
       obtain ⟨q0,hq0⟩ := mem_get (l := qs) (k := qs.length - 1) (by omega)
       obtain ⟨bb,oo,hia,cr⟩ := RdS.elem (g := fun q : Int => [I64 q]) (fun _ => rfl) (by rw [flat_I64];exact RdS.own (L := rrS r a14 c14 z14 :: pt bt (cl (cT tx ty st pa pc qs) 121) :: slO 3 1 pa qs.length pc (qs.map I64) :: rgP x (JU2 sh dim e l) ta tc ts da dc ds :: slT ta tc ts :: slD da dc ds :: roM M2 :: L) ha (by rw [List.length_map,Nat.mul_one])) hq0 rfl
       have hlt0 := lastLt_get (f := fun q : Int => q) hq0 v
       rw [List.map_id'] at hlt0
       have hk1' : (qs.length : Int) - 1 = ((qs.length - 1 : Nat) : Int) := by omega
       have hk2' : qs.length - 1 < qs.length := by omega
       subst hia
       by_cases h3 : q0 < v
       ·have h3' : ¬ (v : Int) ≤ q0 := by omega
        rw [if_pos ⟨h0,by rw [hlt0];exact decide_eq_true h3⟩] at hF
        refine Q.r ?_;(repeat (intro b1;refine Q.r ?_))
        refine S.y (Y.ia (k := qs.length - 1) (m := qs.length) rfl rfl hk1' hk2') ?_
        refine Q.r ?_;(repeat (intro b1;refine Q.r ?_))
        refine S.app rfl rfl (SrcS.sl RdC.row (by rfl) (by rfl)) (by rfl) (by omega) (by omega) (fun a7 c7 => ?_)
        refine Q.r ?_;(repeat (intro b1;refine Q.r ?_))
        refine S.y (Y.add rfl rfl) ?_
        rw [wrap_u64 (by omega) (by omega)]
        refine Q.r ?_;(repeat (intro b1;refine Q.r ?_))
        refine ⟨(k + 1,z14,qs ++ [(v : Int)],a14,c14,a7,c7),⟨rfl,rfl,rfl,rfl,rfl,rfl,rfl,rfl,congrArg some (by simp [List.filter_append]),trivial⟩,?_,⟨hlt2,by dsimp only;rw [len_snoc,hql],hk14,hF⟩,Nat.sub_succ_lt_self np k hlt2⟩
        dsimp only [cT]
        rw [len_snoc,List.map_append,List.map_cons,List.map_nil]
        exact Go.SX.Ent.go
       ·have h3' : (v : Int) ≤ q0 := by omega
        refine Q.r ?_;(repeat (intro b1;refine Q.r ?_))
        refine S.y (Y.ia (k := qs.length - 1) (m := qs.length) rfl rfl hk1' hk2') ?_
        refine Q.r ?_;(repeat (intro b1;refine Q.r ?_))
        refine N.r1 (RV.tmp rfl RV.nil) ?_ ⟨M2,hl2,.inl ⟨bad (fun hc => by rw [hlt0] at hc;exact h3 (of_decide_eq_true hc.2)),rfl,rfl⟩⟩
        exact Go.SX.Ent.go
     ·have h0' : v = 0 := by omega
      subst h0'
      refine Q.r ?_;(repeat (intro b1;refine Q.r ?_))
      refine N.r1 (RV.tmp rfl RV.nil) ?_ ⟨M2,hl2,.inl ⟨bad (fun hc => h0 hc.1),rfl,rfl⟩⟩
      exact Go.SX.Ent.go
    ·have hkk : k = np := by omega
     subst hkk
     rw [Nat.sub_self] at hF
     refine Q.r ?_;(repeat (intro b1;refine Q.r ?_))
     exact ⟨(z,qs,a13,c13,pa,pc),⟨rfl,rfl,rfl,rfl,rfl,rfl,rfl,trivial⟩,by exact Go.SX.Ent.go,hk13,hql,hF.symm⟩
   rintro ⟨z,ps,a13,c13,pa,pc⟩ ⟨hk13,hpl,hF⟩
   dsimp only at hk13 hpl hF ⊢
   rw [hF] at hT
   dsimp only at hT
   have hFi := refP_inv (sh := sh.toNat) np (z11,[]) (z,ps) hF
   clear hF
   refine swp_abs pa (fun M3 hl3 hs3 => ?_)
   have hmm : (ts.map TV.abs).map TR.txn = ts.map fun t => t.txn := List.map_map
   rw [hmm] at hT
   refine Q.r ?_;(repeat (intro b1;refine Q.r ?_))
   refine swp_ent (L' := rrS r a13 c13 z :: pt bt (cl (cT tx ty st pa pc ps) 121) :: rgP x (JU2 sh dim e l) ta tc ts da dc ds :: slT ta tc ts :: slD da dc ds :: roM M3 :: L) (by exact Go.SX.Ent.go) ?_
   refine swp_cutT (σ := Unit) (fun _ => [(0,.int .i64 sh),(7,.pointer (some ⟨r,0,none⟩)),(8,.pointer (some ⟨x,0,none⟩)),(11,.pointer (some ⟨bt,0,none⟩)),(12,.int .u64 np),(87,.int .u64 m),(88,.int .u64 i),(15,.int .i64 ts.length),(171,.bool (!decide (0 < np ∧ 0 < st ∧ st ≤ l ∧ lastLt (ts.map fun t => t.txn) tx = true)))])
    (fun _ => rrS r a13 c13 z :: pt bt (cl (cT tx ty st pa pc ps) 121) :: rgP x (JU2 sh dim e l) ta tc ts da dc ds :: slT ta tc ts :: slD da dc ds :: roM M3 :: L) (fun _ => True) ?_ ?_
   ·by_cases hn0 : 0 < np
    ·have hn0' : ¬ (np : Int) = 0 := by omega
     by_cases h0 : 0 < st
     ·have h0' : ¬ (st : Int) = 0 := by omega
      by_cases h1 : st ≤ l
      ·have h1' : ¬ (l : Int) < (st : Int) := by omega
       by_cases hz : ts.length = 0
       ·refine Q.dgo [false,true,true,true] [] [] [0,1,2,3,4,5,6,7,8,9,10,11,12,13,14,15,16,17,18,19,20,21,22,23,24,25,26,27,28,29,30,31,32,33] ?_
        refine Q.rd ?_;(repeat (intro b1;refine Q.rd ?_))
        refine Q.r ?_;(repeat (intro b1;refine Q.r ?_))
        exact ⟨(),⟨rfl,rfl,rfl,rfl,rfl,rfl,rfl,rfl,congrArg some (congrArg Value.bool (by rw [decide_eq_true ⟨hn0,h0,h1,lastLt_nil hz _⟩];rfl)),trivial⟩,by exact Go.SX.Ent.go,trivial⟩
       ·refine swp_addr ta (fun ha => ?_)
        obtain ⟨t0,ht0⟩ := mem_get (l := ts) (k := ts.length - 1) (by omega)
        obtain ⟨bb,oo,hia,cr⟩ := RdS.elem (g := TV.cells) (fun _ => rfl) (RdS.own (L := [pt bt (cl (cT tx ty st pa pc ps) 121),rgP x (JU2 sh dim e l) ta tc ts da dc ds,slT ta tc ts]) ha (flat_len (sz := 9) (fun _ => rfl) ts)) ht0 rfl
        have hlt0 := lastLt_get (f := fun t : TV => t.txn) ht0 tx
        have hk1' : (ts.length : Int) - 1 = ((ts.length - 1 : Nat) : Int) := by omega
        have hk2' : ts.length - 1 < ts.length := by omega
        subst hia
        refine Q.dgo [false,true,true,true] [] [] [0,1,2,3,4,5,6,7,8,9,10,11,12,13,14,15,16,17,18,19,20,21,22,23,24,25,26,27,28,29,30,31,32,33] ?_
        refine Q.rd ?_;(repeat (intro b1;refine Q.rd ?_))
        refine D.y rfl rfl rfl (by kernel_rfl) (Y.guard rfl (Y.ia (k := ts.length - 1) (m := ts.length) rfl rfl hk1' hk2')) ?_
        refine Q.rd ?_;(repeat (intro b1;refine Q.rd ?_))
        refine D.y rfl rfl rfl (by kernel_rfl) (by first | exact (Y.ldRj rfl (by first | assumption | exact RdC.sub (by assumption)) rfl) | exact Y.guard rfl (Y.ldRj rfl (by first | assumption | exact RdC.sub (by assumption)) rfl)) ?_
        refine Q.rd ?_;(repeat (intro b1;refine Q.rd ?_))
        refine Q.r ?_;(repeat (intro b1;refine Q.r ?_))
        exact ⟨(),⟨rfl,rfl,rfl,rfl,rfl,rfl,rfl,rfl,congrArg some (congrArg Value.bool (by rw [hlt0];simp [hn0,h0,h1];rw [← decide_not,decide_eq_decide];omega)),trivial⟩,by exact Go.SX.Ent.go,trivial⟩
      ·have h1' : (l : Int) < (st : Int) := by omega
       refine Q.dgo [false,true,true,true] [] [] [0,1,2,3,4,5,6,7,8,9,10,11,12,13,14,15,16,17,18,19,20,21,22,23,24,25,26,27,28,29,30,31,32,33] ?_
       refine Q.rd ?_;(repeat (intro b1;refine Q.rd ?_))
       refine Q.r ?_;(repeat (intro b1;refine Q.r ?_))
       exact ⟨(),⟨rfl,rfl,rfl,rfl,rfl,rfl,rfl,rfl,congrArg some (congrArg Value.bool (by rw [decide_eq_false fun hc => h1 hc.2.2.1];rfl)),trivial⟩,by exact Go.SX.Ent.go,trivial⟩
     ·have h0' : st = 0 := by omega
      subst h0'
      refine Q.dgo [false,true,true,true] [] [] [0,1,2,3,4,5,6,7,8,9,10,11,12,13,14,15,16,17,18,19,20,21,22,23,24,25,26,27,28,29,30,31,32,33] ?_
      refine Q.rd ?_;(repeat (intro b1;refine Q.rd ?_))
      refine Q.r ?_;(repeat (intro b1;refine Q.r ?_))
      exact ⟨(),⟨rfl,rfl,rfl,rfl,rfl,rfl,rfl,rfl,congrArg some (congrArg Value.bool (by rw [decide_eq_false fun hc => h0 hc.2.1];rfl)),trivial⟩,by exact Go.SX.Ent.go,trivial⟩
    ·have hn0' : np = 0 := by omega
     subst hn0'
     refine Q.dgo [false,true,true,true] [] [] [0,1,2,3,4,5,6,7,8,9,10,11,12,13,14,15,16,17,18,19,20,21,22,23,24,25,26,27,28,29,30,31,32,33] ?_
     refine Q.rd ?_;(repeat (intro b1;refine Q.rd ?_))
     refine Q.r ?_;(repeat (intro b1;refine Q.r ?_))
     exact ⟨(),⟨rfl,rfl,rfl,rfl,rfl,rfl,rfl,rfl,congrArg some (congrArg Value.bool (by rw [decide_eq_false fun hc => hn0 hc.1];rfl)),trivial⟩,by exact Go.SX.Ent.go,trivial⟩
   rintro _ _
   by_cases hcd : 0 < np ∧ 0 < st ∧ st ≤ l ∧ lastLt (ts.map fun t => t.txn) tx = true
   ·rw [if_pos hcd] at hT
    dsimp only at hT
    rw [decide_eq_true hcd]
    refine Q.r ?_;(repeat (intro b1;refine Q.r ?_))
    refine Q.dgo [false,true,true,false] [6,7,10] [10] [0,1,2,3,4,5,6,7,8,9,10] ?_
    refine Q.rd2 ?_
    refine D.e rfl rfl rfl ?_
    refine Q.r ?_;(repeat (intro b1;refine Q.r ?_))
    refine Q.rd2 ?_
    refine D.e rfl rfl rfl ?_
    refine S.app rfl rfl (SrcS.sl RdC.row (by rfl) (by rfl)) (by rfl) (by omega) (by omega) (fun ta2 tc2 => ?_)
    refine Q.r ?_;(repeat (intro b1;refine Q.r ?_))
    refine Q.rd2 ?_
    refine Q.dc rfl rfl rfl rfl ?_
    refine Q.r ?_;(repeat (intro b1;refine Q.r ?_))
    refine Q.rd2 ?_
    refine Q.r ?_;(repeat (intro b1;refine Q.r ?_))
    refine S.y (Y.add rfl rfl) ?_
    rw [wrap_u64 (by omega) (by omega)]
    refine Q.r ?_;(repeat (intro b1;refine Q.r ?_))
    refine ⟨(i + 1,z,ts ++ [TVu tx ty st pa pc ps],a13,c13,ta2,tc2,M3),⟨rfl,rfl,rfl,rfl,congrArg some (by simp [List.filter_append]),trivial⟩,?_,⟨hlt,by dsimp only;rw [len_snoc,htl],⟨hk13.sl.mono hl3,hk13.c,hk13.b⟩,hl2.trans hl3,fun t ht => ?_,?_⟩,Nat.sub_succ_lt_self m i hlt⟩
    ·dsimp only [rgP,slT]
     rw [len_snoc,flat_snoc]
     exact Go.SX.Ent.go
    ·dsimp only at ht ⊢
     rcases List.mem_append.1 ht with ht | ht
     ·exact ⟨(hok t ht).1.mono hl3,(hok t ht).2⟩
     ·rw [List.mem_singleton.1 ht]
      exact ⟨⟨hs3,SlM.nil0,SlM.nil0,SlM.nil0,fun o ho => (by cases ho),(by show ps.length ≤ _;omega),Nat.zero_le _,Nat.zero_le _,Nat.zero_le _⟩,Nat.le_refl _,Nat.le_refl _⟩
    ·dsimp only
     rw [List.map_append]
     exact hT
   ·rw [if_neg hcd] at hT
    dsimp only at hT
    rw [decide_eq_false hcd]
    refine Q.r ?_;(repeat (intro b1;refine Q.r ?_))
    refine N.r1 (RV.tmp rfl RV.nil) ?_ ⟨M3,hl2.trans hl3,.inl ⟨outT hT.symm,rfl,rfl⟩⟩
    exact Go.SX.Ent.go
  ·have him : i = m := by omega
   subst him
   rw [Nat.sub_self] at hT
   refine Q.r ?_;(repeat (intro b1;refine Q.r ?_))
   exact ⟨(s2,ts,a7,c7,ta,tc,M2),⟨rfl,rfl,rfl,trivial⟩,by exact Go.SX.Ent.go,hk7,hl2,hok,hT.symm⟩
 rintro ⟨s2,ts,a7,c7,ta,tc,M2⟩ ⟨hk7,hl2,hok,hT⟩
 dsimp only at hk7 hl2 hok hT ⊢
 have hTi := refT_inv (sh := sh.toNat) (last := l) m (z6,[]) (s2,ts.map TV.abs) hT
 rw [hT] at hU
 unfold refK at hU
 dsimp only at hU
 by_cases hb0 : s2.bad = 0
 ·by_cases hb1 : s2.bs.length = 0
  ·rw [if_pos ⟨hb0,hb1⟩] at hU
   refine swp_cap ta fun hct => swp_abs ta (fun M3 hl3 hs3 => ?_)
   refine swp_abs da (fun M4 hl4 hs4 => ?_)
   obtain ⟨i1,ts',i2,i3,i4,i5,i6⟩ := hTi hb0 List.Pairwise.nil
   obtain ⟨j1,ds',j2,j3,j4,j5,j6⟩ := hDi (hs8 i1) List.Pairwise.nil
   have hl24 := hl3.trans hl4
   have hq : RG M4 ⟨sh,dim,e,0,l,(ts.map TV.abs).map fun u => (u.txn,u),ds⟩ ta tc ts da ds :=
    ⟨h1,h2,by rw [List.map_map];exact List.Perm.refl _,by rw [List.map_map] at i6;exact i6,fun t ht => (hok t ht).1.mono hl24,fun t ht => (hok t ht).2,hs3.mono hl4,hct,List.Perm.refl _,j6,hs4⟩
   refine Q.r ?_;(repeat (intro b1;refine Q.r ?_))
   refine N.r1 (RV.tmp rfl RV.nil) ?_ ⟨M4,hl2.trans hl24,.inr ⟨_,x,hU,rfl,rfl⟩⟩
   refine Ent.trans (M := rgP x (JU2 sh dim e l) ta tc ts da dc ds :: roM M4 :: L) (by exact Go.SX.Ent.go) ?_
   exact rg_shut (dc := dc) hq
  ·rw [if_neg (fun h => hb1 h.2)] at hU
   refine Q.r ?_;(repeat (intro b1;refine Q.r ?_))
   refine N.r1 (RV.tmp rfl RV.nil) ?_ ⟨M2,hl2,.inl ⟨hU,rfl,rfl⟩⟩
   exact Go.SX.Ent.go
 ·rw [if_neg (fun h => hb0 h.1)] at hU
  refine Q.r ?_;(repeat (intro b1;refine Q.r ?_))
  refine N.r1 (RV.tmp rfl RV.nil) ?_ ⟨M2,hl2,.inl ⟨hU,rfl,rfl⟩⟩
  exact Go.SX.Ent.go
end Go.Proofs.YtiampehfpgcogaaGreatDoor
namespace Go.Proofs.YtiampehfpgcogaaGreatDoor
open Go Go.SX
theorem dnL_mem {j : JG} (hk : keysOK j.done) {u : Int × Int} (h : u ∈ dnL j) : u ∈ j.done := by
 obtain ⟨b,hb,rfl⟩ := List.mem_map.1 h
 obtain ⟨s,hs⟩ := dn_lk hb hk
 rw [hs]
 exact lk_memL hs
theorem UO.wn {j : JG} (h : UO j) (d1 : 1 ≤ j.dim) (d2 : j.dim ≤ 8) : WN (bareJ j) := by
 have hb := h.pb
 have s2 := h.s2
 have e0 := hb.e0
 have l0 := hb.l0
 have l1 := hb.l1
 have hk : keysOK ((comL j).map fun t => (t.txn,t.bare)) := by
  unfold keysOK
  rw [List.map_map]
  exact comL_nodup hb
 refine ⟨⟨⟨e0,hb.e1,Int.le_refl _,(show (0 : Int) < 1048576 by decide),l0,l1,d1,d2⟩,hk,dnL_ok hb.kd,fun u hu => ?_,fun u hu => (h.ds u (dnL_mem hb.kd hu)).2.1⟩,fun u hu => ?_,fun u hu => ?_⟩
 ·obtain ⟨t,ht,rfl⟩ := List.mem_map.1 hu
  have hT := h.ts t ht
  have hs := hT.s0
  exact ⟨rfl,hT.x0,by dsimp only;omega,hT.r,hT.pl,fun q hq => by have := hT.pb q hq;omega,List.Pairwise.nil,fun _ h => (by cases h),List.Pairwise.nil,fun _ h => (by cases h),Nat.zero_le _⟩
 ·obtain ⟨t,ht,rfl⟩ := List.mem_map.1 hu
  have hT := h.ts t ht
  have hs := hT.s1
  exact ⟨hT.x1,hT.b0,hT.b1,by dsimp only;omega,Int.le_refl _,(show (0 : Int) ≤ 1099511627776 by decide),Int.le_refl _,(show (0 : Int) < 16 by decide),fun _ h => (by cases h)⟩
 ·have hm := dnL_mem hb.kd hu
  have h1 := h.ds u hm
  have h2 := hb.d u hm
  omega
end Go.Proofs.YtiampehfpgcogaaGreatDoor
namespace Go.Proofs.YtiampehfpgcogaaGreatDoor
open Go Go.SX
attribute [local irreducible] swp opsS thenS blockS retS CallsS St Ent YieldS anyS drawS
theorem Bs_take (bs : List UInt8) (k : Nat) : (bs.map B).take (k * 1) = (bs.take k).map B := by rw [Nat.mul_one,List.map_take]
set_option maxHeartbeats 400000 in
theorem RCut_spec (a : Option Addr) (c : Nat) (bs : List UInt8) (n : Nat) (L : List HP) (h : RdS L a bs.length 1 (bs.map B)) (hc : bs.length ≤ c) (hn : n ≤ 1000000) :
  CallsS Tryz.prog 24 [.slice a bs.length c,.int .i64 n] L (fun v L' => ∃ a' c',v = .slice a' (bs.take n).length c' ∧ L' = slO 5 1 a' (bs.take n).length c' ((bs.take n).map B) :: L) := by
 refine CallsS.of_body Tryz.func24 rfl rfl rfl ?_
 repeat (first | (refine GQ.y ?_;refine Q.y ?_) | refine Q.go ?_ | (refine GQ.g ?_;refine Q.gq ?_) | (refine GQ.s ?_;refine Q.st ?_))
 refine S.bs rfl rfl rfl rfl rfl (fun b => ?_)
 refine opsS_ent (slO_fold (sz := 1) (m := 0) rfl) ?_
 repeat (first | (refine GQ.y ?_;refine Q.y ?_) | refine Q.go ?_ | (refine GQ.g ?_;refine Q.gq ?_) | (refine GQ.s ?_;refine Q.st ?_))
 have hl : (bs.take n).length = min bs.length n := by rw [List.length_take,Nat.min_comm]
 refine S.y (Y.slT (h := (bs.take n).length) rfl rfl (by rw [hl];omega) (by omega)) ?_
 repeat (first | (refine GQ.y ?_;refine Q.y ?_) | refine Q.go ?_ | (refine GQ.g ?_;refine Q.gq ?_) | (refine GQ.s ?_;refine Q.st ?_))
 have ht := h.take (k := (bs.take n).length) (by omega)
 rw [Bs_take,show bs.take (bs.take n).length = bs.take n by rw [List.length_take];simp] at ht
 refine S.app0 rfl rfl rfl (SrcS.rd ht.sub (B_one _)) (by rfl) (by omega) (by omega) (fun a' c' => ?_)
 repeat (first | (refine GQ.y ?_;refine Q.y ?_) | refine Q.go ?_ | (refine GQ.g ?_;refine Q.gq ?_) | (refine GQ.s ?_;refine Q.st ?_))
 refine N.r1 (RV.tmp rfl RV.nil) ?_ ⟨a',c',rfl,rfl⟩
 exact Go.SX.Ent.go
theorem packG_le5 {j : JG} (hw : WN j) (htl : j.tr.length ≤ 100) (hdl : j.done.length ≤ 100) : (packG j).length ≤ 100000 := by
 have e1 := hw.g.b.e1
 have l1 := hw.g.b.l1
 have hdnl : (dnL j).length = j.done.length := by unfold dnL;rw [List.length_map,sortL_len,List.length_map]
 have h1 := numI_len (z := j.epoch) (by omega)
 have h2 := numI_len (z := j.last) (by omega)
 have h3 := numI_len (z := (j.done.length : Int)) (by omega)
 have hcl : (comL j).length ≤ j.tr.length := by
  unfold comL
  refine Nat.le_trans (List.length_filter_le _ _) ?_
  rw [(trsL_perm hw.g.kt).length_eq,List.length_map];exact Nat.le_refl _
 have h4 := numI_len (z := ((comL j).length : Int)) (by omega)
 have h5 : ((dnL j).flatMap packD).length ≤ (dnL j).length * 20 := flat_le fun d hd => by
  obtain ⟨b,hb,rfl⟩ := List.mem_map.1 hd
  obtain ⟨s,hs⟩ := dn_lk hb hw.g.kd
  have hm := hw.d _ (lk_memL hs)
  refine packD_len hm.2.1 ?_
  dsimp only
  rw [hs]
  show s ≤ _
  have := hm.2.2
  dsimp only at this
  omega
 have h6 : ((comL j).flatMap packT).length ≤ (comL j).length * 80 := flat_le fun t ht => packT_len hw (trs_mem hw (List.mem_filter.1 ht).1)
 unfold packG packW
 simp only [List.length_append]
 omega
structure YOK (y : JG) (n : Nat) : Prop where
 w : WN y
 s : y.shards = 3
 d : y.dim = 2
 t : y.tr.length ≤ 8
 n : y.done.length ≤ n
theorem yok_of {bs : List UInt8} (hb : bs.length ≤ 100000) {y : JG} (h : unOK 3 2 bs) (e : unG 3 2 bs = y) (hu : UO y) (hy : bareJ y = y) : YOK y bs.length := by
 have hs : y.shards = 3 := by rw [← e];rfl
 have hd : y.dim = 2 := by rw [← e];rfl
 have hw := hu.wn (by omega) (by omega)
 rw [hy] at hw
 refine ⟨hw,hs,hd,?_,?_⟩
 ·have h1 := hu.tl
  have h2 : (bareJ y).tr.length = (comL y).length := List.length_map _
  rw [hy] at h2
  omega
 ·have := unG_len (sh := 3) (dim := 2) h.1
  rw [e] at this
  exact this
def yH (M : Nat → Option Obj) (w : Option (JG × Nat)) : HP := allH (match w with
 | none => []
 | some u => [rgH M u.2 u.1])
abbrev wV (w : Option (JG × Nat)) : Value := .pointer (w.map fun u => ⟨u.2,0,none⟩)
theorem RUnpackW (M : Nat → Option Obj) (a : Option Addr) (c : Nat) (bs : List UInt8) (L : List HP) (hs : SlM M a bs.length 1 (bs.map B)) (hc : bs.length ≤ c) (hb : bs.length ≤ 100000) :
  CallsS Tryz.prog 23 [.int .i64 3,.int .i64 2,.slice a bs.length c] (roM M :: L) (fun v L' => ∃ M' w,leM M M' ∧ refU 3 2 bs = w.map (·.1) ∧ v = wV w ∧ L' = yH M' w :: roM M' :: L) :=
 (RUnpack_spec M 3 2 a c bs L hs hc hb (by decide) (by decide)).post fun v L' hv => by
  obtain ⟨M',hl,h | ⟨y,x,h1,h2,rfl⟩⟩ := hv
  ·obtain ⟨h1,h2,rfl⟩ := h
   exact EntX.ent (Ent.shut_all (L := [])) (EntX.done ⟨M',none,hl,h1,h2,rfl⟩)
  ·exact EntX.ent (Ent.shut_all (L := [rgH M' x y])) (EntX.done ⟨M',some (y,x),hl,h1,h2,rfl⟩)
theorem unW {bs : List UInt8} (hb : bs.length ≤ 100000) {w : Option (JG × Nat)} (h : refU 3 2 bs = w.map (·.1)) :
  (w = none ∧ unE (JG0 3 2) bs = 4 ∧ unJ (JG0 3 2) bs = JG0 3 2) ∨ ∃ y z,w = some (y,z) ∧ unE (JG0 3 2) bs = 0 ∧ unJ (JG0 3 2) bs = y ∧ YOK y bs.length ∧ unOK 3 2 bs := by
 rcases ref_un (sh := 3) (dim := 2) (by decide) (by decide) hb with ⟨y,e1,e2,e3,e4,e5⟩ | ⟨e1,e2⟩
 ·rw [e1] at h
  obtain ⟨u,hu,hy⟩ := Option.map_eq_some_iff.1 h.symm
  obtain ⟨u1,u2⟩ := u
  dsimp only at hy
  subst hy
  obtain ⟨f1,f2⟩ := unE_ok (j := JG0 3 2) (bs := bs) e2 (by simp)
  exact .inr ⟨u1,u2,hu,f1,f2.trans e3,yok_of hb e2 e3 e4 e5,e2⟩
 ·rw [e1] at h
  obtain ⟨f1,f2⟩ := unE_no (j := JG0 3 2) (bs := bs) e2
  exact .inl ⟨Option.map_eq_none_iff.1 h.symm,f1,f2⟩
set_option maxHeartbeats 8000000 in
theorem JudgePacks_spec (a : Option Addr) (c : Nat) (xs : List GO) (ap : Option Addr) (cp : Nat) (bp : List UInt8) (M : Nat → Option Obj) (h : SlM M a xs.length 19 (xs.flatMap GO.cells)) (hx : ∀ o ∈ xs,GOK M o) (hn : xs.length ≤ 9223372036854775807)
  (hp : SlM M ap bp.length 1 (bp.map B)) (hpc : bp.length ≤ cp) (hpn : bp.length ≤ 9223372036854775807) (hT : TabM M) :
  CallsS Tryz.prog 7 [.slice a xs.length c,.slice ap bp.length cp] [roM M] (fun r _ => r = .bool true) := by
 refine CallsS.of_body Tryz.func7 rfl rfl rfl ?_
 refine Q.r ?_;(repeat (intro b1;refine Q.r ?_))
 refine S.cmG rfl (Gawake_spec M _ hT) ?_
 rintro _ _ ⟨M1,rfl,hl1,rfl⟩
 refine Q.r ?_;(repeat (intro b1;refine Q.r ?_))
 refine S.cr rfl (GNew_spec M1 3 2 _ (by decide) (by decide) (by decide) (by decide)) ?_
 rintro _ _ ⟨p,rfl,rfl⟩
 refine Q.r ?_;(repeat (intro b1;refine Q.r ?_))
 revert b1
 intro x
 refine swp_cutB (σ := JG × (Nat → Option Obj)) (fun s => [(1,.slice ap bp.length cp),(5,ptrG p)])
  (fun s => jdgH s.2 p s.1 :: roM s.2 :: []) (fun s => LS s.1 xs.length ∧ leM M s.2) ?_ ?_
 ·refine swp_loop (σ := Nat × JG × (Nat → Option Obj)) (fun s => [(1,.slice ap bp.length cp),(5,ptrG p),(7,.pointer (some ⟨x,0,none⟩)),(27,.slice a xs.length c),(28,.int .i64 xs.length),(29,.int .i64 s.1)])
   (fun s => jdgH s.2.2 p s.2.1 :: rgH s.2.2 x s.2.1 :: roM s.2.2 :: []) (fun s => s.1 ≤ xs.length ∧ LS s.2.1 s.1 ∧ leM M s.2.2) (fun s => xs.length - s.1) (0,JG0 3 2,M1) ⟨rfl,rfl,rfl,rfl,rfl,rfl,trivial⟩ (Ent.trans (rg_new M1) (by exact Go.SX.Ent.go)) ⟨Nat.zero_le _,LS.zero,hl1⟩ ?_
  rintro ⟨k,j,M2⟩ ⟨hk,hls,hl2⟩
  dsimp only at hk hls hl2 ⊢
  by_cases hlt : k < xs.length
  ·obtain ⟨o,hq⟩ := mem_get hlt
   have hm := List.mem_of_getElem? hq
   obtain ⟨b,oo,hia,cr⟩ := SlM.cm (g := GO.cells) (fun _ => rfl) (h.mono hl2) hq rfl
   have hgo := hx o hm
   have hbb := hls.b
   have hss := hls.s
   rw [hia]
   by_cases h25 : k < 25
   ·refine Q.r ?_;(repeat (intro b1;refine Q.r ?_))
    refine S.c3 (A := jdgH M2 p j) (B := rgH M2 x j) (C := roM M2) (args := [ptrG p,.pointer (some ⟨x,0,none⟩),.agg o.cells.toArray]) rfl (Lstep_spec o p x j M2 _ hls.w (by omega) (by omega) (by omega) (by omega) (hgo.mono hl2) (hT.mono hl2)) ?_
    rintro _ _ ⟨M3,rfl,hl3,rfl⟩
    refine Q.r ?_;(repeat (intro b1;refine Q.r ?_))
    rw [← hia]
    refine ⟨(k + 1,stepG j o.d o.fr o.n.abs.few o.w,M3),⟨rfl,rfl,rfl,rfl,rfl,rfl,trivial⟩,by exact Go.SX.Ent.go,⟨by dsimp only;omega,hls.step (by omega) (few_num hgo.uu) _ _ _,hl2.trans hl3⟩,by dsimp only;omega⟩
   ·refine Q.r ?_;(repeat (intro b1;refine Q.r ?_))
    rw [← hia]
    refine ⟨(k + 1,j,M2),⟨rfl,rfl,rfl,rfl,rfl,rfl,trivial⟩,by exact Go.SX.Ent.go,⟨by dsimp only;omega,hls.skip,hl2⟩,by dsimp only;omega⟩
  ·have hke : k = xs.length := by omega
   subst hke
   refine Q.r ?_;(repeat (intro b1;refine Q.r ?_))
   exact ⟨(j,M2),⟨rfl,rfl,trivial⟩,by exact Go.SX.Ent.go,hls,hl2⟩
 rintro ⟨j,M2⟩ ⟨hls,hl2⟩
 dsimp only at hls hl2 ⊢
 have hbb := hls.b
 have hw := hls.w
 refine Q.r ?_;(repeat (intro b1;refine Q.r ?_))
 refine S.cr rfl (GNew_spec M2 3 2 _ (by decide) (by decide) (by decide) (by decide)) ?_
 rintro _ _ ⟨q,rfl,rfl⟩
 refine Q.r ?_;(repeat (intro b1;refine Q.r ?_))
 refine S.cg p rfl (GPack_spec M2 p j _ hw (by omega) (by omega)) ?_
 rintro _ _ ⟨a1,c1,M3,rfl,hl3,rfl⟩
 have hbl := packG_le5 hw (by omega) (by omega)
 generalize packG j = bs at *
 refine Q.r ?_;(repeat (intro b1;refine Q.r ?_))
 refine opsS_cap a1 fun hc1 => opsS_abs a1 (fun M4 hl4 hs4 => ?_)
 refine opsS_gm q (hl3.trans hl4) ?_
 refine S.c1 (A := roM M4) rfl (RUnpackW M4 a1 c1 bs _ hs4 hc1 hbl) ?_
 rintro _ _ ⟨M5,w,hl5,hrw,rfl,rfl⟩
 refine opsS_gm q hl5 ?_
 refine Q.r ?_;(repeat (intro b1;refine Q.r ?_))
 refine S.cg q rfl (GUnpack_spec M5 q (JG0 3 2) a1 c1 bs _ (hs4.mono hl5) (by decide) (by decide) hbl (Nat.zero_le _) (Nat.zero_le _)) ?_
 rintro _ _ ⟨rfl,M6,hl6,rfl⟩
 (repeat (first | (refine GQ.y ?_;refine Q.y ?_) | (refine GQ.a ?_;refine Q.al (fun b1 => ?_)) | (refine GQ.s ?_;refine Q.st ?_) | (refine GQ.g ?_;refine Q.gq ?_)))
 refine opsS_nil ?_
 refine N.tn ?_
 refine swp_seq ?_
 refine swp_cutT (σ := Nat → Option Obj) (fun _ => [(1,.slice ap bp.length cp),(10,ptrG q),(12,.slice a1 bs.length c1),(14,.int .i64 (unE (JG0 3 2) bs)),(69,.bool false)])
  (fun M => jdgH M q (unJ (JG0 3 2) bs) :: roM M :: []) (fun M => leM M6 M) ?_ ?_
 ·rcases unW hbl hrw with ⟨rfl,hE,hJ⟩ | ⟨y,z,rfl,hE,hJ,hY,hO⟩
  ·rw [hE]
   refine Q.r ?_;(repeat (intro b1;refine Q.r ?_))
   exact ⟨M6,⟨rfl,rfl,rfl,rfl,rfl,trivial⟩,by exact Go.SX.Ent.go,leM.refl _⟩
  ·rw [hE,hJ]
   have hYs := hY.s
   have hYt := hY.t
   have hYn := hY.n
   refine swp_ent (L' := rgH M5 z y :: jdgH M6 q y :: roM M6 :: []) (Ent.trans (M := yH M5 (some (y,z)) :: jdgH M6 q y :: roM M6 :: []) (by exact Go.SX.Ent.go) Ent.open_all) ?_
   refine swp_rgm z hl6 ?_
   refine Q.r ?_;(repeat (intro b1;refine Q.r ?_))
   refine S.c3 (A := jdgH M6 q y) (B := rgH M6 z y) (C := roM M6) rfl (Lsame_spec q z y 1 M6 _ hY.w (by omega) (by omega) (by omega) (by omega)) ?_
   rintro _ _ ⟨M7,rfl,hl7,rfl⟩
   refine Q.r ?_;(repeat (intro b1;refine Q.r ?_))
   exact ⟨M7,⟨rfl,rfl,rfl,rfl,rfl,trivial⟩,by exact Go.SX.Ent.go,hl7⟩
 rintro M7 hl7
 have hl27 := hl2.trans (hl3.trans (hl4.trans (hl5.trans (hl6.trans hl7))))
 have hs7 := hs4.mono (hl5.trans (hl6.trans hl7))
 refine Q.r ?_;(repeat (intro b1;refine Q.r ?_))
 refine S.cr rfl (RCut_spec ap cp bp 400 _ (hp.mono hl27).rd hpc (by decide)) ?_
 rintro _ _ ⟨a8,c8,rfl,rfl⟩
 have hbl2 : (bp.take 400).length ≤ 100000 := by rw [List.length_take];omega
 generalize bp.take 400 = bs2 at *
 refine Q.r ?_;(repeat (intro b1;refine Q.r ?_))
 refine opsS_cap a8 fun hc8 => opsS_abs a8 (fun M8 hl8 hs8 => ?_)
 refine opsS_gm q hl8 ?_
 refine Q.r ?_;(repeat (intro b1;refine Q.r ?_))
 refine S.cr rfl (GNew_spec M8 3 2 _ (by decide) (by decide) (by decide) (by decide)) ?_
 rintro _ _ ⟨q2,rfl,rfl⟩
 refine Q.r ?_;(repeat (intro b1;refine Q.r ?_))
 refine S.c1 (A := roM M8) rfl (RUnpackW M8 a8 c8 bs2 _ hs8 hc8 hbl2) ?_
 rintro _ _ ⟨M9,w2,hl9,hrw2,rfl,rfl⟩
 refine opsS_gm q2 hl9 ?_
 refine Q.r ?_;(repeat (intro b1;refine Q.r ?_))
 refine S.cg q2 rfl (GUnpack_spec M9 q2 (JG0 3 2) a8 c8 bs2 _ (hs8.mono hl9) (by decide) (by decide) hbl2 (Nat.zero_le _) (Nat.zero_le _)) ?_
 rintro _ _ ⟨rfl,M10,hl10,rfl⟩
 (repeat (first | (refine GQ.y ?_;refine Q.y ?_) | (refine GQ.a ?_;refine Q.al (fun b1 => ?_)) | (refine GQ.s ?_;refine Q.st ?_) | (refine GQ.g ?_;refine Q.gq ?_)))
 refine opsS_nil ?_
 refine N.tn ?_
 refine swp_seq ?_
 have hl90 := hl8.trans (hl9.trans hl10)
 refine swp_gm q (hl9.trans hl10) ?_
 refine swp_cutT (σ := Nat → Option Obj) (fun _ => [(10,ptrG q),(12,.slice a1 bs.length c1),(14,.int .i64 (unE (JG0 3 2) bs)),(103,.bool false)])
  (fun M => jdgH M q (unJ (JG0 3 2) bs) :: roM M :: []) (fun M => leM M10 M) ?_ ?_
 ·rcases unW hbl2 hrw2 with ⟨rfl,hE,hJ⟩ | ⟨y,z,rfl,hE,hJ,hY,hO⟩
  ·rw [hE]
   refine Q.r ?_;(repeat (intro b1;refine Q.r ?_))
   exact ⟨M10,⟨rfl,rfl,rfl,rfl,trivial⟩,by exact Go.SX.Ent.go,leM.refl _⟩
  ·rw [hE,hJ]
   have hYs := hY.s
   have hYt := hY.t
   have hYn := hY.n
   refine swp_ent (L' := rgH M9 z y :: jdgH M10 q2 y :: roM M10 :: jdgH M10 q (unJ (JG0 3 2) bs) :: []) (Ent.trans (M := yH M9 (some (y,z)) :: jdgH M10 q2 y :: roM M10 :: jdgH M10 q (unJ (JG0 3 2) bs) :: []) (by exact Go.SX.Ent.go) Ent.open_all) ?_
   refine swp_rgm z hl10 ?_
   refine Q.r ?_;(repeat (intro b1;refine Q.r ?_))
   refine S.c3 (A := jdgH M10 q2 y) (B := rgH M10 z y) (C := roM M10) rfl (Lsame_spec q2 z y 1 M10 _ hY.w (by omega) (by omega) (by omega) (by omega)) ?_
   rintro _ _ ⟨M11,rfl,hl11,rfl⟩
   refine opsS_gm q hl11 ?_
   refine Q.r ?_;(repeat (intro b1;refine Q.r ?_))
   exact ⟨M11,⟨rfl,rfl,rfl,rfl,trivial⟩,by exact Go.SX.Ent.go,hl11⟩
 rintro M11 hl11
 have hs11 := hs7.mono (hl90.trans hl11)
 rcases unW hbl hrw with ⟨_,hE,hJ⟩ | ⟨y,z,_,hE,hJ,hY,hO⟩
 ·rw [hE]
  refine Q.r ?_;(repeat (intro b1;refine Q.r ?_))
  exact N.r1 (RV.tmp rfl RV.nil) (Ent.refl _) rfl
 ·rw [hE,hJ]
  have hYs := hY.s
  have hYd := hY.d
  have hYt := hY.t
  have hYn := hY.n
  have hb := hY.w.g.b
  have e0 := hb.e0
  have e1 := hb.e1
  have l0 := hb.l0
  have l1 := hb.l1
  refine Q.r ?_;(repeat (intro b1;refine Q.r ?_))
  refine S.cgn q rfl (GEpoch_spec M11 q y _) ?_
  rintro _ _ ⟨rfl,rfl⟩
  refine Q.r ?_;(repeat (intro b1;refine Q.r ?_))
  refine S.cgn q rfl (GLast_spec M11 q y _) ?_
  rintro _ _ ⟨rfl,rfl⟩
  refine Q.r ?_;(repeat (intro b1;refine Q.r ?_))
  refine S.y (Y.add rfl rfl) ?_
  rw [wrap_u64 (by omega) (by omega)]
  by_cases h0 : 0 < y.epoch + y.last
  ·obtain ⟨f1,f2⟩ := unE_full (j := y) (bs := bs) (by rw [hYs,hYd];exact hO) (by omega)
   refine Q.r ?_;(repeat (intro b1;refine Q.r ?_))
   refine S.cg q rfl (GUnpack_spec M11 q y a1 c1 bs _ hs11 (by omega) (by omega) hbl (by omega) (by omega)) ?_
   rintro _ _ ⟨rfl,M12,hl12,rfl⟩
   rw [f1]
   refine Q.r ?_;(repeat (intro b1;refine Q.r ?_))
   exact N.r1 (RV.tmp rfl RV.nil) (Ent.refl _) rfl
  ·refine Q.r ?_;(repeat (intro b1;refine Q.r ?_))
   exact N.r1 (RV.tmp rfl RV.nil) (Ent.refl _) rfl
end Go.Proofs.YtiampehfpgcogaaGreatDoor
