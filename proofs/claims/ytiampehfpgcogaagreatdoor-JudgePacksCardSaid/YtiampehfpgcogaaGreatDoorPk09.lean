/- The law's step, of the judge and of the document's. What a script does to a judge; giving up. The law: what is given up is told to each part and to who asked, and is no trial any more; what is committed isn't given up. The judge: Wake. The ref's judge: Wake, Quit. The judge: Pack. The ref's judge: Pack. The law: is a judge the document's? No condition. -/
import Derived.Test.YtiampehfpgcogaaGreatDoorPk08
set_option linter.unusedVariables false
set_option linter.unusedSimpArgs false
set_option linter.unusedSectionVars false
namespace Go.Proofs.YtiampehfpgcogaaGreatDoor
open Go Go.SX
attribute [local irreducible] swp opsS thenS blockS retS CallsS St Ent YieldS anyS drawS
structure S7 where
 b9 : Nat
 b10 : Nat
 a1 : Option Addr
 c1 : Nat
 rs : List NV
 a2 : Option Addr
 c2 : Nat
 ns : List NV
 a3 : Option Addr
 c3 : Nat
 ms : List (Int × NV)
 a4 : Option Addr
 c4 : Nat
 is : List NV
 a5 : Option Addr
 c5 : Nat
 es : List (Int × NV)
 f1 : Option Addr
 d1 : Nat
 rs2 : List NV
 f2 : Option Addr
 d2 : Nat
 ns2 : List NV
 f3 : Option Addr
 d3 : Nat
 ms2 : List (Int × NV)
 f4 : Option Addr
 d4 : Nat
 is2 : List NV
 f5 : Option Addr
 d5 : Nat
 es2 : List (Int × NV)
 M : Nat → Option Obj
theorem Y.fld {P : Program} {n : Nat} {ops : List Oper} {f : Env} {A : List HP} {d : Tmp} {ty : TypeId} {pos : String} {af : Array Edge} {x : Operand} {t : TypeId} {k off sz : Nat} {fs : List (Nat × Nat × Bool)} {vs : Array Value} {v : Value} [h : StTy P t fs] (hx : ev f x = some (.agg vs)) (hf : fs[k]? = some (off,sz,false)) (hk : vs.toList[off]? = some v) : YieldS P n ops ⟨some d,.field t x k,ty,pos,af,none⟩ f A v := by
 obtain ⟨fields,hu,_,hfs⟩ := h.und
 obtain ⟨fld,h1,h2,h3,h4⟩ := hfs k off sz false hf
 refine Y.of (fun a w s => ?_)
 have hv' : vs[off]? = some v := by simpa using hk
 simp [execOp,s.eval hx,Instr.field,asAgg,part,hv',hu,h1,h2,h4]
theorem els_len {j : JG} (hW : WG j) (fr : Int) (n : NA) : (planG j fr n).els.length ≤ 5 := by
 unfold planG
 split
 ·exact Nat.zero_le _
 split
 ·unfold askG
  split
  ·exact Nat.zero_le _
  ·split
   ·exact Nat.zero_le _
   ·split <;> exact Nat.zero_le _
 split
 ·unfold voteG
  split
  ·exact Nat.zero_le _
  ·rename_i t ht
   split
   ·exact Nat.zero_le _
   split
   ·exact Nat.zero_le _
   split
   ·exact Nat.zero_le _
   split
   ·exact Nat.zero_le _
   ·have := (hW.lk ht).pl
    rw [toldM_len];omega
 split
 ·unfold ackG
  split
  ·exact Nat.zero_le _
  ·split
   ·exact Nat.zero_le _
   ·split <;> exact Nat.zero_le _
 split
 ·unfold probeG
  split
  ·exact Nat.zero_le _
  ·split <;> exact Nat.zero_le _
 ·exact Nat.zero_le _
theorem NumA.fewL {n' : NV} {n : NV} (h : NumA n.abs) (e : n'.abs = n.abs.few) : NumA n'.abs := by
 rw [e];exact ⟨h.kind,h.txn,h.batch,h.stamp,h.after,h.mark,h.query,h.id,h.k,h.ef,h.code,h.who⟩
theorem few_num {n : NA} (h : NumA n) : NumA n.few := ⟨h.kind,h.txn,h.batch,h.stamp,h.after,h.mark,h.query,h.id,h.k,h.ef,h.code,h.who⟩
theorem map_len {α β : Type} {f : α → β} {l : List α} {m : List β} (h : l.map f = m) : l.length = m.length := by rw [← h,List.length_map]
abbrev p50 (b : Nat) (a1 : Option Addr) (c1 n1 : Nat) (a2 : Option Addr) (c2 n2 : Nat) (a3 : Option Addr) (c3 n3 : Nat) (a4 : Option Addr) (c4 n4 : Nat) (a5 : Option Addr) (c5 n5 : Nat) : HP := pt b (cl [.slice a1 n1 c1,.slice a2 n2 c2,.slice a3 n3 c3,.slice a4 n4 c4,.slice a5 n5 c5] 50)
abbrev p88 (b : Nat) (a1 : Option Addr) (c1 n1 : Nat) (a2 : Option Addr) (c2 n2 : Nat) (a3 : Option Addr) (c3 n3 : Nat) (a4 : Option Addr) (c4 n4 : Nat) (a5 : Option Addr) (c5 n5 : Nat) : HP := pt b (cl [.slice a1 n1 c1,.slice a2 n2 c2,.slice a3 n3 c3,.slice a4 n4 c4,.slice a5 n5 c5] 88)
set_option maxHeartbeats 8000000 in
theorem Lstep_spec (o : GO) (p x : Nat) (j : JG) (M : Nat → Option Obj) (L : List HP) (hw : WN j) (s1 : 1 ≤ j.shards) (s2 : j.shards ≤ 4) (htl : j.tr.length ≤ 40000) (hdl : j.done.length ≤ 40000) (ho : GOK M o) (hT : TabM M) :
  CallsS Tryz.prog 10 [ptrG p,.pointer (some ⟨x,0,none⟩),.agg o.cells.toArray] (jdgH M p j :: rgH M x j :: roM M :: L) (fun r L' => ∃ M',r = .bool true ∧ leM M M' ∧ L' = jdgH M' p (stepG j o.d o.fr o.n.abs.few o.w) :: rgH M' x (stepG j o.d o.fr o.n.abs.few o.w) :: roM M' :: L) := by
 have hb := hw.g.b
 refine CallsS.of_body Tryz.func10 rfl rfl rfl ?_
 refine Q.r ?_;(repeat (intro b1;refine Q.r ?_))
 revert b1
 intro bo
 refine S.cmG (args := [o.n.val]) rfl (NFew_spec o.n M _ ho.n ho.c) ?_
 rintro _ _ ⟨n1,M1,rfl,hl1,hn1,hc1,hoc1,he1,rfl⟩
 have hN1 := few_OkN he1
 have hua1 : NumA n1.abs := NumA.fewL ho.uu he1
 refine opsS_gm p hl1 ?_
 refine opsS_rgm x hl1 ?_
 refine Q.r ?_;(repeat (intro b1;refine Q.r ?_))
 revert b1
 intro b7
 refine S.cmG (args := [n1.val]) rfl (NFew_spec n1 M1 _ hn1 hc1) ?_
 rintro _ _ ⟨n2,M2,rfl,hl2,hn2,hc2,hoc2,he2,rfl⟩
 have he21 : n2.abs = n1.abs := by rw [he2,he1,few_few]
 have e2 : n2.abs = o.n.abs.few := by rw [he21,he1]
 have hN2 := few_OkN he2
 have hua2 : NumA n2.abs := by rw [he21];exact hua1
 have hu2 : NumN n2 := hua2.nv
 have hM2 := hl1.trans hl2
 have hT2 := hT.mono hM2
 have hufew : NumA o.n.abs.few := few_num ho.uu
 refine opsS_gm p hl2 ?_
 refine opsS_rgm x hl2 ?_
 refine Q.r ?_;(repeat (intro b1;refine Q.r ?_))
 revert b1
 intro b8
 refine S.y (Y.rem rfl rfl (by decide)) ?_
 rw [Int.tmod_eq_emod_of_nonneg ho.dd.1]
 have hd0 : 0 ≤ o.d % 11 := Int.emod_nonneg _ (by decide)
 by_cases h8 : o.d % 11 = 8
 ·have hst : stepG j o.d o.fr o.n.abs.few o.w = appG j o.n.abs.few := by unfold stepG stepL;rw [if_pos h8];rfl
  rw [hst]
  refine Q.r ?_;(repeat (intro b1;refine Q.r ?_))
  refine Q.dgo [true,false,false,false,true] [2,5,10] [] [0,1,3,4,2,5,6,7,8,9,10,11,12] ?_
  refine Q.rd ?_;(repeat (intro b1;refine Q.rd ?_))
  refine D.e rfl rfl rfl ?_
  refine S.cg p (args := [ptrG p,n2.val]) rfl (GApply_spec n2 M2 p j _ hw.g hn2 hN2 hT2 hu2 (by have := hua2.txn.2;show n2.abs.txn < _;omega)) ?_
  rintro _ _ ⟨M3,rfl,hl3,rfl⟩
  refine opsS_rgm x hl3 ?_
  refine Q.r ?_;(repeat (intro b1;refine Q.r ?_))
  refine Q.rd ?_;(repeat (intro b1;refine Q.rd ?_))
  refine D.e rfl rfl rfl ?_
  refine S.crg x (args := [.pointer (some ⟨x,0,none⟩),n1.val]) rfl (RgApp_spec n1 x j M3 _ hw (by omega) (by omega) (hn1.mono (hl2.trans hl3)) hN1 hua1) ?_
  rintro _ _ ⟨M4,rfl,hl4,rfl⟩
  refine opsS_gm p hl4 ?_
  rw [e2,he1]
  refine Q.r ?_;(repeat (intro b1;refine Q.r ?_))
  refine Q.rd ?_;(repeat (intro b1;refine Q.rd ?_))
  refine Q.dT rfl rfl rfl ?_ (by simp)
  refine Q.rd ?_;(repeat (intro b1;refine Q.rd ?_))
  refine D.e rfl rfl rfl ?_
  refine S.guard rfl ?_
  refine S.cr (args := [n2.val,n1.val]) rfl (Same12_spec n2 n1 _ (hn2.mono (hl3.trans hl4)).rd (hn1.mono (hl2.trans (hl3.trans hl4))).rd hN2 hN1 he21) ?_
  rintro _ _ ⟨rfl,rfl⟩
  refine Q.r ?_;(repeat (intro b1;refine Q.r ?_))
  refine Q.rd ?_;(repeat (intro b1;refine Q.rd ?_))
  refine Q.r ?_;(repeat (intro b1;refine Q.r ?_))
  refine N.r1 (RV.tmp rfl RV.nil) ?_ ⟨M4,rfl,hM2.trans (hl3.trans hl4),rfl⟩
  exact Go.SX.Ent.go
 by_cases h9 : o.d % 11 = 9
 ·have hst : stepG j o.d o.fr o.n.abs.few o.w = appL j (quitG j).notes := by unfold stepG stepL;rw [if_neg h8,if_pos h9]
  have hqo := quit_ok hw
  rw [hst]
  refine Q.r ?_;(repeat (intro b1;refine Q.r ?_))
  refine S.cg p rfl ((GQuit_spec M2 p j _ hw.g (by omega)).post fun _ _ h => planGR.of0 h) ?_
  rintro _ _ ⟨a1,c1,rs,a2,c2,ns,a3,c3,ms,a4,c4,is,a5,c5,es,M3,rfl,hl3,⟨o1,o2,o3,o4,o5⟩,⟨q1,q2,q3,q4,q5⟩,rfl⟩
  refine opsS_rgm x hl3 ?_
  have hnl : ns.length ≤ j.tr.length := by rw [map_len q2];exact hqo.2.1
  refine Q.r ?_;(repeat (intro b1;refine Q.r ?_))
  refine S.y (Y.fld rfl rfl rfl) ?_
  refine Q.r ?_;(repeat (intro b1;refine Q.r ?_))
  refine S.c3 (A := jdgH M3 p j) (B := rgH M3 x j) (C := roM M3) rfl (Lapply_spec a2 c2 ns p x j M3 _ o2 (fun n hn => ⟨(hqo.1 _ (q2 ▸ List.mem_map_of_mem hn)).1,OkN.of (hqo.1 _ (q2 ▸ List.mem_map_of_mem hn)).2⟩) hw (by omega) (by omega) (hT2.mono hl3)) ?_
  rintro _ _ ⟨M4,rfl,hl4,rfl⟩
  rw [q2]
  refine Q.r ?_;(repeat (intro b1;refine Q.r ?_))
  refine N.r1 (RV.tmp rfl RV.nil) ?_ ⟨M4,rfl,hM2.trans (hl3.trans hl4),rfl⟩
  exact Go.SX.Ent.go
 by_cases h10 : o.d % 11 = 10
 ·have hst : stepG j o.d o.fr o.n.abs.few o.w = appL j [epochN (j.epoch + 1)] := by unfold stepG stepL;rw [if_neg h8,if_neg h9,if_pos h10]
  rw [hst]
  have e0 := hb.e0
  have e1 := hb.e1
  refine Q.r ?_;(repeat (intro b1;refine Q.r ?_))
  refine S.cgn p rfl (GEpoch_spec M2 p j _) ?_
  rintro _ _ ⟨rfl,rfl⟩
  refine Q.r ?_;(repeat (intro b1;refine Q.r ?_))
  refine S.y (Y.add rfl rfl) ?_
  rw [show IntKind.u64.wrap (j.epoch + 1) = j.epoch + 1 from wrap_u64 (by omega) (by omega)]
  refine Q.r ?_;(repeat (intro b1;refine Q.r ?_))
  refine opsS_ent (slO_fold (sz := 16) (m := 1) rfl) ?_
  refine opsS_abs (some ⟨b1,0,none⟩) (fun M3 hl3 hs3 => ?_)
  refine opsS_gm p hl3 ?_
  refine opsS_rgm x hl3 ?_
  have hne : NumA (epochN (j.epoch + 1)) := NumA.of (show (0 : Int) ≤ 16 by decide) (show (16 : Int) ≤ 255 by decide) (Int.le_refl _) (show (0 : Int) ≤ 18446744073709551615 by decide) (Int.le_refl _) (show (0 : Int) ≤ 18446744073709551615 by decide) (Int.le_refl _) (show (0 : Int) ≤ 18446744073709551615 by decide) (Int.le_refl _) (show (0 : Int) ≤ 18446744073709551615 by decide) (show (0 : Int) ≤ 9223372036854775807 by decide) (show 0 ≤ j.epoch + 1 by omega) (show j.epoch + 1 ≤ _ by omega) rfl rfl rfl rfl rfl
  refine S.c3 (A := jdgH M3 p j) (B := rgH M3 x j) (C := roM M3) rfl (Lapply_spec (some ⟨b1,0,none⟩) 1 [(epochN (j.epoch + 1)).nv] p x j M3 _ ⟨hs3,fun m hm => (by rw [List.mem_singleton.1 hm];exact okN.nv _)⟩ (fun n hn => (by rw [List.mem_singleton.1 hn];exact ⟨hne,OkN.of (OkA.bare (Nat.zero_le _) rfl rfl rfl)⟩)) hw (by rw [List.length_singleton];omega) (by rw [List.length_singleton];omega) (hT2.mono hl3)) ?_
  rintro _ _ ⟨M4,rfl,hl4,rfl⟩
  rw [show [(epochN (j.epoch + 1)).nv].map NV.abs = [epochN (j.epoch + 1)] from rfl]
  refine Q.r ?_;(repeat (intro b1;refine Q.r ?_))
  refine N.r1 (RV.tmp rfl RV.nil) ?_ ⟨M4,rfl,hM2.trans (hl3.trans hl4),rfl⟩
  exact Go.SX.Ent.go
 have hpn := plan_ok hw s1 s2 hufew o.fr
 have hone := plan_ones j o.fr o.n.abs.few
 have hml := mail_len hw.g s1 s2 o.fr o.n.abs.few
 have hel := els_len hw.g o.fr o.n.abs.few
 refine Q.r ?_;(repeat (intro b1;refine Q.r ?_))
 refine swp_cutT (σ := S7) (fun s => [(0,ptrG p),(1,.pointer (some ⟨x,0,none⟩)),(5,.pointer (some ⟨bo,0,none⟩)),(7,.pointer (some ⟨b7,0,none⟩)),(8,.pointer (some ⟨b8,0,none⟩)),(9,.pointer (some ⟨s.b9,0,none⟩)),(10,.pointer (some ⟨s.b10,0,none⟩))])
  (fun s => p50 s.b9 s.a1 s.c1 s.rs.length s.a2 s.c2 s.ns.length s.a3 s.c3 s.ms.length s.a4 s.c4 s.is.length s.a5 s.c5 s.es.length :: p88 s.b10 s.f1 s.d1 s.rs2.length s.f2 s.d2 s.ns2.length s.f3 s.d3 s.ms2.length s.f4 s.d4 s.is2.length s.f5 s.d5 s.es2.length :: pt b8 (cl n2.cells 52) :: pt b7 (cl n1.cells 39) :: pt bo (cl o.cells 41) :: jdgH s.M p j :: rgH s.M x j :: roM s.M :: L)
  (fun s => P5 s.M (planG j o.fr o.n.abs.few) s.a1 s.rs s.a2 s.ns s.a3 s.ms s.a4 s.is s.a5 s.es ∧ P5 s.M (planG j o.fr o.n.abs.few) s.f1 s.rs2 s.f2 s.ns2 s.f3 s.ms2 s.f4 s.is2 s.f5 s.es2 ∧ leM M2 s.M) ?_ ?_
 ·
  refine Q.dgo [true,false,false,false,true,true] [4,9,10,11,12,13] [] [0,1,2,3,5,6,7,8,99999,0,0,0,0,0] ?_
  refine Q.rd2 ?_
  refine D.three 4 10 11 [99999,0,0,0,0] [99999,0,0,0,0] [99999,0,0,0,0] (by kernel_rfl) rfl rfl rfl rfl rfl rfl (by kernel_rfl) (by kernel_rfl) (by kernel_rfl) ?_ ?_ ?_
  ·refine S.cg p (args := [ptrG p,.int .i64 o.fr,n2.val]) rfl (GPlan_spec n2 M2 p j o.fr _ hb hn2 hN2 (hT.mono hM2) hu2.kind) ?_
   rintro _ _ ⟨a1,c1,rs,a2,c2,ns,a3,c3,ms,a4,c4,is,a5,c5,es,M3,rfl,hl3,⟨o1,o2,o3,o4,o5⟩,⟨q1,q2,q3,q4,q5⟩,rfl⟩
   refine opsS_rgm x hl3 ?_
   refine Q.r ?_;(repeat (intro b1;refine Q.r ?_))
   refine Q.rd2 ?_
   refine D.three 9 10 11 [99999,0,0,0] [99999,0,0,0] [99999,0,0,0] (by kernel_rfl) rfl rfl rfl rfl rfl rfl (by kernel_rfl) (by kernel_rfl) (by kernel_rfl) ?_ ?_ ?_
   ·refine S.crg x (args := [.pointer (some ⟨x,0,none⟩),.int .i64 o.fr,n1.val]) rfl (RgDo_spec n1 M3 x j o.fr _ hw (by omega) (by omega) (hn1.mono (hl2.trans hl3)) hN1 hoc1 hua1) ?_
    rintro _ _ ⟨f1,d1,rs2,f2,d2,ns2,f3,d3,ms2,f4,d4,is2,f5,d5,es2,M4,rfl,hl4,⟨o1',o2',o3',o4',o5'⟩,⟨q1',q2',q3',q4',q5'⟩,rfl⟩
    refine opsS_gm p hl4 ?_
    refine Q.r ?_;(repeat (intro b1;refine Q.r ?_))
    refine Q.rd2 ?_
    refine D.two 10 11 [11,12,13] [10,12,13] (by kernel_rfl) rfl rfl rfl rfl (by kernel_rfl) (by kernel_rfl) ?_ ?_
    ·refine GQ.a ?_
     refine Q.al (fun b9 => ?_)
     refine Q.r ?_;(repeat (intro b1;refine Q.r ?_))
     refine Q.rd2 ?_
     refine D.e rfl rfl rfl ?_
     refine GQ.a ?_
     refine Q.al (fun b10 => ?_)
     refine Q.r ?_;(repeat (intro b1;refine Q.r ?_))
     refine Q.rd2 ?_
     refine D.e rfl rfl rfl ?_
     refine Q.r ?_;(repeat (intro b1;refine Q.r ?_))
     refine Q.rd2 ?_
     refine D.e rfl rfl rfl ?_
     refine Q.r ?_;(repeat (intro b1;refine Q.r ?_))
     refine Q.rd2 ?_
     refine Q.rd2 ?_
     have hp5 : P5 M4 (planG j o.fr o.n.abs.few) a1 rs a2 ns a3 ms a4 is a5 es := ⟨o1.mono hl4,o2.mono hl4,o3.mono hl4,o4.mono hl4,o5.mono hl4,e2 ▸ q1,e2 ▸ q2,e2 ▸ q3,e2 ▸ q4,e2 ▸ q5⟩
     have hp5' : P5 M4 (planG j o.fr o.n.abs.few) f1 rs2 f2 ns2 f3 ms2 f4 is2 f5 es2 := ⟨o1',o2',o3',o4',o5',he1 ▸ q1',he1 ▸ q2',he1 ▸ q3',he1 ▸ q4',he1 ▸ q5'⟩
     refine N.tn ⟨⟨b9,b10,a1,c1,rs,a2,c2,ns,a3,c3,ms,a4,c4,is,a5,c5,es,f1,d1,rs2,f2,d2,ns2,f3,d3,ms2,f4,d4,is2,f5,d5,es2,M4⟩,⟨rfl,rfl,rfl,rfl,rfl,rfl,rfl,trivial⟩,?_,hp5,hp5',hl3.trans hl4⟩
     (try dsimp only);exact Go.SX.Ent.go
    ·refine GQ.a ?_
     refine Q.al (fun b10 => ?_)
     refine Q.r ?_;(repeat (intro b1;refine Q.r ?_))
     refine Q.rd2 ?_
     refine D.e rfl rfl rfl ?_
     refine GQ.a ?_
     refine Q.al (fun b9 => ?_)
     refine Q.r ?_;(repeat (intro b1;refine Q.r ?_))
     refine Q.rd2 ?_
     refine D.e rfl rfl rfl ?_
     refine Q.r ?_;(repeat (intro b1;refine Q.r ?_))
     refine Q.rd2 ?_
     refine D.e rfl rfl rfl ?_
     refine Q.r ?_;(repeat (intro b1;refine Q.r ?_))
     refine Q.rd2 ?_
     refine Q.rd2 ?_
     have hp5 : P5 M4 (planG j o.fr o.n.abs.few) a1 rs a2 ns a3 ms a4 is a5 es := ⟨o1.mono hl4,o2.mono hl4,o3.mono hl4,o4.mono hl4,o5.mono hl4,e2 ▸ q1,e2 ▸ q2,e2 ▸ q3,e2 ▸ q4,e2 ▸ q5⟩
     have hp5' : P5 M4 (planG j o.fr o.n.abs.few) f1 rs2 f2 ns2 f3 ms2 f4 is2 f5 es2 := ⟨o1',o2',o3',o4',o5',he1 ▸ q1',he1 ▸ q2',he1 ▸ q3',he1 ▸ q4',he1 ▸ q5'⟩
     refine N.tn ⟨⟨b9,b10,a1,c1,rs,a2,c2,ns,a3,c3,ms,a4,c4,is,a5,c5,es,f1,d1,rs2,f2,d2,ns2,f3,d3,ms2,f4,d4,is2,f5,d5,es2,M4⟩,⟨rfl,rfl,rfl,rfl,rfl,rfl,rfl,trivial⟩,?_,hp5,hp5',hl3.trans hl4⟩
     (try dsimp only);exact Go.SX.Ent.go
   ·refine GQ.a ?_
    refine Q.al (fun b9 => ?_)
    refine Q.r ?_;(repeat (intro b1;refine Q.r ?_))
    refine Q.rd2 ?_
    refine D.two 9 11 [11,12,13] [9,12,13] (by kernel_rfl) rfl rfl rfl rfl (by kernel_rfl) (by kernel_rfl) ?_ ?_
    ·refine S.crg x (args := [.pointer (some ⟨x,0,none⟩),.int .i64 o.fr,n1.val]) rfl (RgDo_spec n1 M3 x j o.fr _ hw (by omega) (by omega) (hn1.mono (hl2.trans hl3)) hN1 hoc1 hua1) ?_
     rintro _ _ ⟨f1,d1,rs2,f2,d2,ns2,f3,d3,ms2,f4,d4,is2,f5,d5,es2,M4,rfl,hl4,⟨o1',o2',o3',o4',o5'⟩,⟨q1',q2',q3',q4',q5'⟩,rfl⟩
     refine opsS_gm p hl4 ?_
     refine Q.r ?_;(repeat (intro b1;refine Q.r ?_))
     refine Q.rd2 ?_
     refine D.e rfl rfl rfl ?_
     refine GQ.a ?_
     refine Q.al (fun b10 => ?_)
     refine Q.r ?_;(repeat (intro b1;refine Q.r ?_))
     refine Q.rd2 ?_
     refine D.e rfl rfl rfl ?_
     refine Q.r ?_;(repeat (intro b1;refine Q.r ?_))
     refine Q.rd2 ?_
     refine D.e rfl rfl rfl ?_
     refine Q.r ?_;(repeat (intro b1;refine Q.r ?_))
     refine Q.rd2 ?_
     refine Q.rd2 ?_
     have hp5 : P5 M4 (planG j o.fr o.n.abs.few) a1 rs a2 ns a3 ms a4 is a5 es := ⟨o1.mono hl4,o2.mono hl4,o3.mono hl4,o4.mono hl4,o5.mono hl4,e2 ▸ q1,e2 ▸ q2,e2 ▸ q3,e2 ▸ q4,e2 ▸ q5⟩
     have hp5' : P5 M4 (planG j o.fr o.n.abs.few) f1 rs2 f2 ns2 f3 ms2 f4 is2 f5 es2 := ⟨o1',o2',o3',o4',o5',he1 ▸ q1',he1 ▸ q2',he1 ▸ q3',he1 ▸ q4',he1 ▸ q5'⟩
     refine N.tn ⟨⟨b9,b10,a1,c1,rs,a2,c2,ns,a3,c3,ms,a4,c4,is,a5,c5,es,f1,d1,rs2,f2,d2,ns2,f3,d3,ms2,f4,d4,is2,f5,d5,es2,M4⟩,⟨rfl,rfl,rfl,rfl,rfl,rfl,rfl,trivial⟩,?_,hp5,hp5',hl3.trans hl4⟩
     (try dsimp only);exact Go.SX.Ent.go
    ·refine GQ.a ?_
     refine Q.al (fun b10 => ?_)
     refine Q.r ?_;(repeat (intro b1;refine Q.r ?_))
     refine Q.rd2 ?_
     refine D.e rfl rfl rfl ?_
     refine S.crg x (args := [.pointer (some ⟨x,0,none⟩),.int .i64 o.fr,n1.val]) rfl (RgDo_spec n1 M3 x j o.fr _ hw (by omega) (by omega) (hn1.mono (hl2.trans hl3)) hN1 hoc1 hua1) ?_
     rintro _ _ ⟨f1,d1,rs2,f2,d2,ns2,f3,d3,ms2,f4,d4,is2,f5,d5,es2,M4,rfl,hl4,⟨o1',o2',o3',o4',o5'⟩,⟨q1',q2',q3',q4',q5'⟩,rfl⟩
     refine opsS_gm p hl4 ?_
     refine Q.r ?_;(repeat (intro b1;refine Q.r ?_))
     refine Q.rd2 ?_
     refine D.e rfl rfl rfl ?_
     refine Q.r ?_;(repeat (intro b1;refine Q.r ?_))
     refine Q.rd2 ?_
     refine D.e rfl rfl rfl ?_
     refine Q.r ?_;(repeat (intro b1;refine Q.r ?_))
     refine Q.rd2 ?_
     refine Q.rd2 ?_
     have hp5 : P5 M4 (planG j o.fr o.n.abs.few) a1 rs a2 ns a3 ms a4 is a5 es := ⟨o1.mono hl4,o2.mono hl4,o3.mono hl4,o4.mono hl4,o5.mono hl4,e2 ▸ q1,e2 ▸ q2,e2 ▸ q3,e2 ▸ q4,e2 ▸ q5⟩
     have hp5' : P5 M4 (planG j o.fr o.n.abs.few) f1 rs2 f2 ns2 f3 ms2 f4 is2 f5 es2 := ⟨o1',o2',o3',o4',o5',he1 ▸ q1',he1 ▸ q2',he1 ▸ q3',he1 ▸ q4',he1 ▸ q5'⟩
     refine N.tn ⟨⟨b9,b10,a1,c1,rs,a2,c2,ns,a3,c3,ms,a4,c4,is,a5,c5,es,f1,d1,rs2,f2,d2,ns2,f3,d3,ms2,f4,d4,is2,f5,d5,es2,M4⟩,⟨rfl,rfl,rfl,rfl,rfl,rfl,rfl,trivial⟩,?_,hp5,hp5',hl3.trans hl4⟩
     (try dsimp only);exact Go.SX.Ent.go
   ·refine GQ.a ?_
    refine Q.al (fun b10 => ?_)
    refine Q.r ?_;(repeat (intro b1;refine Q.r ?_))
    refine Q.rd2 ?_
    refine D.two 9 10 [10,12,13] [9,12,13] (by kernel_rfl) rfl rfl rfl rfl (by kernel_rfl) (by kernel_rfl) ?_ ?_
    ·refine S.crg x (args := [.pointer (some ⟨x,0,none⟩),.int .i64 o.fr,n1.val]) rfl (RgDo_spec n1 M3 x j o.fr _ hw (by omega) (by omega) (hn1.mono (hl2.trans hl3)) hN1 hoc1 hua1) ?_
     rintro _ _ ⟨f1,d1,rs2,f2,d2,ns2,f3,d3,ms2,f4,d4,is2,f5,d5,es2,M4,rfl,hl4,⟨o1',o2',o3',o4',o5'⟩,⟨q1',q2',q3',q4',q5'⟩,rfl⟩
     refine opsS_gm p hl4 ?_
     refine Q.r ?_;(repeat (intro b1;refine Q.r ?_))
     refine Q.rd2 ?_
     refine D.e rfl rfl rfl ?_
     refine GQ.a ?_
     refine Q.al (fun b9 => ?_)
     refine Q.r ?_;(repeat (intro b1;refine Q.r ?_))
     refine Q.rd2 ?_
     refine D.e rfl rfl rfl ?_
     refine Q.r ?_;(repeat (intro b1;refine Q.r ?_))
     refine Q.rd2 ?_
     refine D.e rfl rfl rfl ?_
     refine Q.r ?_;(repeat (intro b1;refine Q.r ?_))
     refine Q.rd2 ?_
     refine Q.rd2 ?_
     have hp5 : P5 M4 (planG j o.fr o.n.abs.few) a1 rs a2 ns a3 ms a4 is a5 es := ⟨o1.mono hl4,o2.mono hl4,o3.mono hl4,o4.mono hl4,o5.mono hl4,e2 ▸ q1,e2 ▸ q2,e2 ▸ q3,e2 ▸ q4,e2 ▸ q5⟩
     have hp5' : P5 M4 (planG j o.fr o.n.abs.few) f1 rs2 f2 ns2 f3 ms2 f4 is2 f5 es2 := ⟨o1',o2',o3',o4',o5',he1 ▸ q1',he1 ▸ q2',he1 ▸ q3',he1 ▸ q4',he1 ▸ q5'⟩
     refine N.tn ⟨⟨b9,b10,a1,c1,rs,a2,c2,ns,a3,c3,ms,a4,c4,is,a5,c5,es,f1,d1,rs2,f2,d2,ns2,f3,d3,ms2,f4,d4,is2,f5,d5,es2,M4⟩,⟨rfl,rfl,rfl,rfl,rfl,rfl,rfl,trivial⟩,?_,hp5,hp5',hl3.trans hl4⟩
     (try dsimp only);exact Go.SX.Ent.go
    ·refine GQ.a ?_
     refine Q.al (fun b9 => ?_)
     refine Q.r ?_;(repeat (intro b1;refine Q.r ?_))
     refine Q.rd2 ?_
     refine D.e rfl rfl rfl ?_
     refine S.crg x (args := [.pointer (some ⟨x,0,none⟩),.int .i64 o.fr,n1.val]) rfl (RgDo_spec n1 M3 x j o.fr _ hw (by omega) (by omega) (hn1.mono (hl2.trans hl3)) hN1 hoc1 hua1) ?_
     rintro _ _ ⟨f1,d1,rs2,f2,d2,ns2,f3,d3,ms2,f4,d4,is2,f5,d5,es2,M4,rfl,hl4,⟨o1',o2',o3',o4',o5'⟩,⟨q1',q2',q3',q4',q5'⟩,rfl⟩
     refine opsS_gm p hl4 ?_
     refine Q.r ?_;(repeat (intro b1;refine Q.r ?_))
     refine Q.rd2 ?_
     refine D.e rfl rfl rfl ?_
     refine Q.r ?_;(repeat (intro b1;refine Q.r ?_))
     refine Q.rd2 ?_
     refine D.e rfl rfl rfl ?_
     refine Q.r ?_;(repeat (intro b1;refine Q.r ?_))
     refine Q.rd2 ?_
     refine Q.rd2 ?_
     have hp5 : P5 M4 (planG j o.fr o.n.abs.few) a1 rs a2 ns a3 ms a4 is a5 es := ⟨o1.mono hl4,o2.mono hl4,o3.mono hl4,o4.mono hl4,o5.mono hl4,e2 ▸ q1,e2 ▸ q2,e2 ▸ q3,e2 ▸ q4,e2 ▸ q5⟩
     have hp5' : P5 M4 (planG j o.fr o.n.abs.few) f1 rs2 f2 ns2 f3 ms2 f4 is2 f5 es2 := ⟨o1',o2',o3',o4',o5',he1 ▸ q1',he1 ▸ q2',he1 ▸ q3',he1 ▸ q4',he1 ▸ q5'⟩
     refine N.tn ⟨⟨b9,b10,a1,c1,rs,a2,c2,ns,a3,c3,ms,a4,c4,is,a5,c5,es,f1,d1,rs2,f2,d2,ns2,f3,d3,ms2,f4,d4,is2,f5,d5,es2,M4⟩,⟨rfl,rfl,rfl,rfl,rfl,rfl,rfl,trivial⟩,?_,hp5,hp5',hl3.trans hl4⟩
     (try dsimp only);exact Go.SX.Ent.go
  ·refine GQ.a ?_
   refine Q.al (fun b9 => ?_)
   refine Q.r ?_;(repeat (intro b1;refine Q.r ?_))
   refine Q.rd2 ?_
   refine D.two 4 11 [99999,0,0,0] [4,9,12,13] (by kernel_rfl) rfl rfl rfl rfl (by kernel_rfl) (by kernel_rfl) ?_ ?_
   ·refine S.cg p (args := [ptrG p,.int .i64 o.fr,n2.val]) rfl (GPlan_spec n2 M2 p j o.fr _ hb hn2 hN2 (hT.mono hM2) hu2.kind) ?_
    rintro _ _ ⟨a1,c1,rs,a2,c2,ns,a3,c3,ms,a4,c4,is,a5,c5,es,M3,rfl,hl3,⟨o1,o2,o3,o4,o5⟩,⟨q1,q2,q3,q4,q5⟩,rfl⟩
    refine opsS_rgm x hl3 ?_
    refine Q.r ?_;(repeat (intro b1;refine Q.r ?_))
    refine Q.rd2 ?_
    refine D.two 9 11 [11,12,13] [9,12,13] (by kernel_rfl) rfl rfl rfl rfl (by kernel_rfl) (by kernel_rfl) ?_ ?_
    ·refine S.crg x (args := [.pointer (some ⟨x,0,none⟩),.int .i64 o.fr,n1.val]) rfl (RgDo_spec n1 M3 x j o.fr _ hw (by omega) (by omega) (hn1.mono (hl2.trans hl3)) hN1 hoc1 hua1) ?_
     rintro _ _ ⟨f1,d1,rs2,f2,d2,ns2,f3,d3,ms2,f4,d4,is2,f5,d5,es2,M4,rfl,hl4,⟨o1',o2',o3',o4',o5'⟩,⟨q1',q2',q3',q4',q5'⟩,rfl⟩
     refine opsS_gm p hl4 ?_
     refine Q.r ?_;(repeat (intro b1;refine Q.r ?_))
     refine Q.rd2 ?_
     refine D.e rfl rfl rfl ?_
     refine GQ.a ?_
     refine Q.al (fun b10 => ?_)
     refine Q.r ?_;(repeat (intro b1;refine Q.r ?_))
     refine Q.rd2 ?_
     refine D.e rfl rfl rfl ?_
     refine Q.r ?_;(repeat (intro b1;refine Q.r ?_))
     refine Q.rd2 ?_
     refine D.e rfl rfl rfl ?_
     refine Q.r ?_;(repeat (intro b1;refine Q.r ?_))
     refine Q.rd2 ?_
     refine Q.rd2 ?_
     have hp5 : P5 M4 (planG j o.fr o.n.abs.few) a1 rs a2 ns a3 ms a4 is a5 es := ⟨o1.mono hl4,o2.mono hl4,o3.mono hl4,o4.mono hl4,o5.mono hl4,e2 ▸ q1,e2 ▸ q2,e2 ▸ q3,e2 ▸ q4,e2 ▸ q5⟩
     have hp5' : P5 M4 (planG j o.fr o.n.abs.few) f1 rs2 f2 ns2 f3 ms2 f4 is2 f5 es2 := ⟨o1',o2',o3',o4',o5',he1 ▸ q1',he1 ▸ q2',he1 ▸ q3',he1 ▸ q4',he1 ▸ q5'⟩
     refine N.tn ⟨⟨b9,b10,a1,c1,rs,a2,c2,ns,a3,c3,ms,a4,c4,is,a5,c5,es,f1,d1,rs2,f2,d2,ns2,f3,d3,ms2,f4,d4,is2,f5,d5,es2,M4⟩,⟨rfl,rfl,rfl,rfl,rfl,rfl,rfl,trivial⟩,?_,hp5,hp5',hl3.trans hl4⟩
     (try dsimp only);exact Go.SX.Ent.go
    ·refine GQ.a ?_
     refine Q.al (fun b10 => ?_)
     refine Q.r ?_;(repeat (intro b1;refine Q.r ?_))
     refine Q.rd2 ?_
     refine D.e rfl rfl rfl ?_
     refine S.crg x (args := [.pointer (some ⟨x,0,none⟩),.int .i64 o.fr,n1.val]) rfl (RgDo_spec n1 M3 x j o.fr _ hw (by omega) (by omega) (hn1.mono (hl2.trans hl3)) hN1 hoc1 hua1) ?_
     rintro _ _ ⟨f1,d1,rs2,f2,d2,ns2,f3,d3,ms2,f4,d4,is2,f5,d5,es2,M4,rfl,hl4,⟨o1',o2',o3',o4',o5'⟩,⟨q1',q2',q3',q4',q5'⟩,rfl⟩
     refine opsS_gm p hl4 ?_
     refine Q.r ?_;(repeat (intro b1;refine Q.r ?_))
     refine Q.rd2 ?_
     refine D.e rfl rfl rfl ?_
     refine Q.r ?_;(repeat (intro b1;refine Q.r ?_))
     refine Q.rd2 ?_
     refine D.e rfl rfl rfl ?_
     refine Q.r ?_;(repeat (intro b1;refine Q.r ?_))
     refine Q.rd2 ?_
     refine Q.rd2 ?_
     have hp5 : P5 M4 (planG j o.fr o.n.abs.few) a1 rs a2 ns a3 ms a4 is a5 es := ⟨o1.mono hl4,o2.mono hl4,o3.mono hl4,o4.mono hl4,o5.mono hl4,e2 ▸ q1,e2 ▸ q2,e2 ▸ q3,e2 ▸ q4,e2 ▸ q5⟩
     have hp5' : P5 M4 (planG j o.fr o.n.abs.few) f1 rs2 f2 ns2 f3 ms2 f4 is2 f5 es2 := ⟨o1',o2',o3',o4',o5',he1 ▸ q1',he1 ▸ q2',he1 ▸ q3',he1 ▸ q4',he1 ▸ q5'⟩
     refine N.tn ⟨⟨b9,b10,a1,c1,rs,a2,c2,ns,a3,c3,ms,a4,c4,is,a5,c5,es,f1,d1,rs2,f2,d2,ns2,f3,d3,ms2,f4,d4,is2,f5,d5,es2,M4⟩,⟨rfl,rfl,rfl,rfl,rfl,rfl,rfl,trivial⟩,?_,hp5,hp5',hl3.trans hl4⟩
     (try dsimp only);exact Go.SX.Ent.go
   ·refine GQ.a ?_
    refine Q.al (fun b10 => ?_)
    refine Q.r ?_;(repeat (intro b1;refine Q.r ?_))
    refine Q.rd2 ?_
    refine D.e rfl rfl rfl ?_
    refine S.cg p (args := [ptrG p,.int .i64 o.fr,n2.val]) rfl (GPlan_spec n2 M2 p j o.fr _ hb hn2 hN2 (hT.mono hM2) hu2.kind) ?_
    rintro _ _ ⟨a1,c1,rs,a2,c2,ns,a3,c3,ms,a4,c4,is,a5,c5,es,M3,rfl,hl3,⟨o1,o2,o3,o4,o5⟩,⟨q1,q2,q3,q4,q5⟩,rfl⟩
    refine opsS_rgm x hl3 ?_
    refine Q.r ?_;(repeat (intro b1;refine Q.r ?_))
    refine Q.rd2 ?_
    refine D.e rfl rfl rfl ?_
    refine S.crg x (args := [.pointer (some ⟨x,0,none⟩),.int .i64 o.fr,n1.val]) rfl (RgDo_spec n1 M3 x j o.fr _ hw (by omega) (by omega) (hn1.mono (hl2.trans hl3)) hN1 hoc1 hua1) ?_
    rintro _ _ ⟨f1,d1,rs2,f2,d2,ns2,f3,d3,ms2,f4,d4,is2,f5,d5,es2,M4,rfl,hl4,⟨o1',o2',o3',o4',o5'⟩,⟨q1',q2',q3',q4',q5'⟩,rfl⟩
    refine opsS_gm p hl4 ?_
    refine Q.r ?_;(repeat (intro b1;refine Q.r ?_))
    refine Q.rd2 ?_
    refine D.e rfl rfl rfl ?_
    refine Q.r ?_;(repeat (intro b1;refine Q.r ?_))
    refine Q.rd2 ?_
    refine D.e rfl rfl rfl ?_
    refine Q.r ?_;(repeat (intro b1;refine Q.r ?_))
    refine Q.rd2 ?_
    refine Q.rd2 ?_
    have hp5 : P5 M4 (planG j o.fr o.n.abs.few) a1 rs a2 ns a3 ms a4 is a5 es := ⟨o1.mono hl4,o2.mono hl4,o3.mono hl4,o4.mono hl4,o5.mono hl4,e2 ▸ q1,e2 ▸ q2,e2 ▸ q3,e2 ▸ q4,e2 ▸ q5⟩
    have hp5' : P5 M4 (planG j o.fr o.n.abs.few) f1 rs2 f2 ns2 f3 ms2 f4 is2 f5 es2 := ⟨o1',o2',o3',o4',o5',he1 ▸ q1',he1 ▸ q2',he1 ▸ q3',he1 ▸ q4',he1 ▸ q5'⟩
    refine N.tn ⟨⟨b9,b10,a1,c1,rs,a2,c2,ns,a3,c3,ms,a4,c4,is,a5,c5,es,f1,d1,rs2,f2,d2,ns2,f3,d3,ms2,f4,d4,is2,f5,d5,es2,M4⟩,⟨rfl,rfl,rfl,rfl,rfl,rfl,rfl,trivial⟩,?_,hp5,hp5',hl3.trans hl4⟩
    (try dsimp only);exact Go.SX.Ent.go
  ·refine GQ.a ?_
   refine Q.al (fun b10 => ?_)
   refine Q.r ?_;(repeat (intro b1;refine Q.r ?_))
   refine Q.rd2 ?_
   refine D.two 4 10 [99999,0,0,0] [4,9,12,13] (by kernel_rfl) rfl rfl rfl rfl (by kernel_rfl) (by kernel_rfl) ?_ ?_
   ·refine S.cg p (args := [ptrG p,.int .i64 o.fr,n2.val]) rfl (GPlan_spec n2 M2 p j o.fr _ hb hn2 hN2 (hT.mono hM2) hu2.kind) ?_
    rintro _ _ ⟨a1,c1,rs,a2,c2,ns,a3,c3,ms,a4,c4,is,a5,c5,es,M3,rfl,hl3,⟨o1,o2,o3,o4,o5⟩,⟨q1,q2,q3,q4,q5⟩,rfl⟩
    refine opsS_rgm x hl3 ?_
    refine Q.r ?_;(repeat (intro b1;refine Q.r ?_))
    refine Q.rd2 ?_
    refine D.two 9 10 [10,12,13] [9,12,13] (by kernel_rfl) rfl rfl rfl rfl (by kernel_rfl) (by kernel_rfl) ?_ ?_
    ·refine S.crg x (args := [.pointer (some ⟨x,0,none⟩),.int .i64 o.fr,n1.val]) rfl (RgDo_spec n1 M3 x j o.fr _ hw (by omega) (by omega) (hn1.mono (hl2.trans hl3)) hN1 hoc1 hua1) ?_
     rintro _ _ ⟨f1,d1,rs2,f2,d2,ns2,f3,d3,ms2,f4,d4,is2,f5,d5,es2,M4,rfl,hl4,⟨o1',o2',o3',o4',o5'⟩,⟨q1',q2',q3',q4',q5'⟩,rfl⟩
     refine opsS_gm p hl4 ?_
     refine Q.r ?_;(repeat (intro b1;refine Q.r ?_))
     refine Q.rd2 ?_
     refine D.e rfl rfl rfl ?_
     refine GQ.a ?_
     refine Q.al (fun b9 => ?_)
     refine Q.r ?_;(repeat (intro b1;refine Q.r ?_))
     refine Q.rd2 ?_
     refine D.e rfl rfl rfl ?_
     refine Q.r ?_;(repeat (intro b1;refine Q.r ?_))
     refine Q.rd2 ?_
     refine D.e rfl rfl rfl ?_
     refine Q.r ?_;(repeat (intro b1;refine Q.r ?_))
     refine Q.rd2 ?_
     refine Q.rd2 ?_
     have hp5 : P5 M4 (planG j o.fr o.n.abs.few) a1 rs a2 ns a3 ms a4 is a5 es := ⟨o1.mono hl4,o2.mono hl4,o3.mono hl4,o4.mono hl4,o5.mono hl4,e2 ▸ q1,e2 ▸ q2,e2 ▸ q3,e2 ▸ q4,e2 ▸ q5⟩
     have hp5' : P5 M4 (planG j o.fr o.n.abs.few) f1 rs2 f2 ns2 f3 ms2 f4 is2 f5 es2 := ⟨o1',o2',o3',o4',o5',he1 ▸ q1',he1 ▸ q2',he1 ▸ q3',he1 ▸ q4',he1 ▸ q5'⟩
     refine N.tn ⟨⟨b9,b10,a1,c1,rs,a2,c2,ns,a3,c3,ms,a4,c4,is,a5,c5,es,f1,d1,rs2,f2,d2,ns2,f3,d3,ms2,f4,d4,is2,f5,d5,es2,M4⟩,⟨rfl,rfl,rfl,rfl,rfl,rfl,rfl,trivial⟩,?_,hp5,hp5',hl3.trans hl4⟩
     (try dsimp only);exact Go.SX.Ent.go
    ·refine GQ.a ?_
     refine Q.al (fun b9 => ?_)
     refine Q.r ?_;(repeat (intro b1;refine Q.r ?_))
     refine Q.rd2 ?_
     refine D.e rfl rfl rfl ?_
     refine S.crg x (args := [.pointer (some ⟨x,0,none⟩),.int .i64 o.fr,n1.val]) rfl (RgDo_spec n1 M3 x j o.fr _ hw (by omega) (by omega) (hn1.mono (hl2.trans hl3)) hN1 hoc1 hua1) ?_
     rintro _ _ ⟨f1,d1,rs2,f2,d2,ns2,f3,d3,ms2,f4,d4,is2,f5,d5,es2,M4,rfl,hl4,⟨o1',o2',o3',o4',o5'⟩,⟨q1',q2',q3',q4',q5'⟩,rfl⟩
     refine opsS_gm p hl4 ?_
     refine Q.r ?_;(repeat (intro b1;refine Q.r ?_))
     refine Q.rd2 ?_
     refine D.e rfl rfl rfl ?_
     refine Q.r ?_;(repeat (intro b1;refine Q.r ?_))
     refine Q.rd2 ?_
     refine D.e rfl rfl rfl ?_
     refine Q.r ?_;(repeat (intro b1;refine Q.r ?_))
     refine Q.rd2 ?_
     refine Q.rd2 ?_
     have hp5 : P5 M4 (planG j o.fr o.n.abs.few) a1 rs a2 ns a3 ms a4 is a5 es := ⟨o1.mono hl4,o2.mono hl4,o3.mono hl4,o4.mono hl4,o5.mono hl4,e2 ▸ q1,e2 ▸ q2,e2 ▸ q3,e2 ▸ q4,e2 ▸ q5⟩
     have hp5' : P5 M4 (planG j o.fr o.n.abs.few) f1 rs2 f2 ns2 f3 ms2 f4 is2 f5 es2 := ⟨o1',o2',o3',o4',o5',he1 ▸ q1',he1 ▸ q2',he1 ▸ q3',he1 ▸ q4',he1 ▸ q5'⟩
     refine N.tn ⟨⟨b9,b10,a1,c1,rs,a2,c2,ns,a3,c3,ms,a4,c4,is,a5,c5,es,f1,d1,rs2,f2,d2,ns2,f3,d3,ms2,f4,d4,is2,f5,d5,es2,M4⟩,⟨rfl,rfl,rfl,rfl,rfl,rfl,rfl,trivial⟩,?_,hp5,hp5',hl3.trans hl4⟩
     (try dsimp only);exact Go.SX.Ent.go
   ·refine GQ.a ?_
    refine Q.al (fun b9 => ?_)
    refine Q.r ?_;(repeat (intro b1;refine Q.r ?_))
    refine Q.rd2 ?_
    refine D.e rfl rfl rfl ?_
    refine S.cg p (args := [ptrG p,.int .i64 o.fr,n2.val]) rfl (GPlan_spec n2 M2 p j o.fr _ hb hn2 hN2 (hT.mono hM2) hu2.kind) ?_
    rintro _ _ ⟨a1,c1,rs,a2,c2,ns,a3,c3,ms,a4,c4,is,a5,c5,es,M3,rfl,hl3,⟨o1,o2,o3,o4,o5⟩,⟨q1,q2,q3,q4,q5⟩,rfl⟩
    refine opsS_rgm x hl3 ?_
    refine Q.r ?_;(repeat (intro b1;refine Q.r ?_))
    refine Q.rd2 ?_
    refine D.e rfl rfl rfl ?_
    refine S.crg x (args := [.pointer (some ⟨x,0,none⟩),.int .i64 o.fr,n1.val]) rfl (RgDo_spec n1 M3 x j o.fr _ hw (by omega) (by omega) (hn1.mono (hl2.trans hl3)) hN1 hoc1 hua1) ?_
    rintro _ _ ⟨f1,d1,rs2,f2,d2,ns2,f3,d3,ms2,f4,d4,is2,f5,d5,es2,M4,rfl,hl4,⟨o1',o2',o3',o4',o5'⟩,⟨q1',q2',q3',q4',q5'⟩,rfl⟩
    refine opsS_gm p hl4 ?_
    refine Q.r ?_;(repeat (intro b1;refine Q.r ?_))
    refine Q.rd2 ?_
    refine D.e rfl rfl rfl ?_
    refine Q.r ?_;(repeat (intro b1;refine Q.r ?_))
    refine Q.rd2 ?_
    refine D.e rfl rfl rfl ?_
    refine Q.r ?_;(repeat (intro b1;refine Q.r ?_))
    refine Q.rd2 ?_
    refine Q.rd2 ?_
    have hp5 : P5 M4 (planG j o.fr o.n.abs.few) a1 rs a2 ns a3 ms a4 is a5 es := ⟨o1.mono hl4,o2.mono hl4,o3.mono hl4,o4.mono hl4,o5.mono hl4,e2 ▸ q1,e2 ▸ q2,e2 ▸ q3,e2 ▸ q4,e2 ▸ q5⟩
    have hp5' : P5 M4 (planG j o.fr o.n.abs.few) f1 rs2 f2 ns2 f3 ms2 f4 is2 f5 es2 := ⟨o1',o2',o3',o4',o5',he1 ▸ q1',he1 ▸ q2',he1 ▸ q3',he1 ▸ q4',he1 ▸ q5'⟩
    refine N.tn ⟨⟨b9,b10,a1,c1,rs,a2,c2,ns,a3,c3,ms,a4,c4,is,a5,c5,es,f1,d1,rs2,f2,d2,ns2,f3,d3,ms2,f4,d4,is2,f5,d5,es2,M4⟩,⟨rfl,rfl,rfl,rfl,rfl,rfl,rfl,trivial⟩,?_,hp5,hp5',hl3.trans hl4⟩
    (try dsimp only);exact Go.SX.Ent.go
 rintro ⟨b9,b10,a1,c1,rs,a2,c2,ns,a3,c3,ms,a4,c4,is,a5,c5,es,f1,d1,rs2,f2,d2,ns2,f3,d3,ms2,f4,d4,is2,f5,d5,es2,M3⟩ ⟨hp5,hp5',hl3⟩
 dsimp only at hp5 hp5' hl3 ⊢
 generalize hpl : planG j o.fr o.n.abs.few = pl at *
 have l1 := map_len hp5.er
 have l2 := map_len hp5.en
 have l3 := map_len hp5.em
 have l4 := map_len hp5.ei
 have l5 := map_len hp5.ee
 refine Q.r ?_;(repeat (intro b1;refine Q.r ?_))
 refine Q.dgo [true,true,true,true] [1,3,8] [] [0,2,1,3,4,5,6,7,8,9,10] ?_
 refine Q.rd ?_;(repeat (intro b1;refine Q.rd ?_))
 refine D.e rfl rfl rfl ?_
 refine S.cmG (args := [lP5 a1 c1 rs.length a2 c2 ns.length a3 c3 ms.length a4 c4 is.length a5 c5 es.length]) rfl (Lplan_spec a1 c1 rs a2 c2 ns a3 c3 ms a4 c4 is a5 c5 es M3 _ hp5.r hp5.n hp5.m hp5.i hp5.e (by omega) (by omega) (by omega) (by omega) (by omega)) ?_
 rintro _ _ ⟨g1,h1,g2,h2,g3,h3,g4,h4,g5,h5,rfl,rfl⟩
 refine opsS_abs g1 (fun N1 k1 z1 => ?_)
 refine opsS_abs g2 (fun N2 k2 z2 => ?_)
 refine opsS_abs g3 (fun N3 k3 z3 => ?_)
 refine opsS_abs g4 (fun N4 k4 z4 => ?_)
 refine opsS_abs g5 (fun N5 k5 z5 => ?_)
 have k45 := k5
 have k35 := k4.trans k45
 have k25 := k3.trans k35
 have k15 := k2.trans k25
 have k05 := k1.trans k15
 refine opsS_gm p k05 ?_
 refine opsS_rgm x k05 ?_
 have hq5 : P5 N5 pl g1 rs g2 ns g3 ms g4 is g5 es := ⟨⟨z1.mono k15,fun n hn => (hp5.r.2 n hn).mono k05⟩,⟨z2.mono k25,fun n hn => (hp5.n.2 n hn).mono k05⟩,⟨z3.mono k35,fun n hn => (hp5.m.2 n hn).mono k05⟩,⟨z4.mono k45,fun n hn => (hp5.i.2 n hn).mono k05⟩,⟨z5,fun n hn => (hp5.e.2 n hn).mono k05⟩,hp5.er,hp5.en,hp5.em,hp5.ei,hp5.ee⟩
 have hr5 := hp5.mono k05
 have hl25 := hl3.trans k05
 refine Q.r ?_;(repeat (intro b1;refine Q.r ?_))
 refine Q.rd ?_;(repeat (intro b1;refine Q.rd ?_))
 refine D.e rfl rfl rfl ?_
 refine S.cmG (args := [lP5 g1 h1 rs.length g2 h2 ns.length g3 h3 ms.length g4 h4 is.length g5 h5 es.length,lP5 f1 d1 rs2.length f2 d2 ns2.length f3 d3 ms2.length f4 d4 is2.length f5 d5 es2.length]) rfl (SamePlan15_spec g1 h1 rs g2 h2 ns g3 h3 ms g4 h4 is g5 h5 es f1 d1 rs2 f2 d2 ns2 f3 d3 ms2 f4 d4 is2 f5 d5 es2 N5 pl _ hq5 (hp5'.mono k05) hpn ⟨by omega,by omega,by omega,by omega,by omega⟩) ?_
 rintro _ _ ⟨rfl,rfl⟩
 refine Q.r ?_;(repeat (intro b1;refine Q.r ?_))
 refine Q.rd ?_;(repeat (intro b1;refine Q.rd ?_))
 refine D.e rfl rfl rfl ?_
 refine S.guard rfl ?_
 refine S.cr (args := [n2.val,n1.val]) rfl (Same12_spec n2 n1 _ (hn2.mono hl25).rd (hn1.mono (hl2.trans hl25)).rd hN2 hN1 he21) ?_
 rintro _ _ ⟨rfl,rfl⟩
 refine Q.r ?_;(repeat (intro b1;refine Q.r ?_))
 refine Q.rd ?_;(repeat (intro b1;refine Q.rd ?_))
 have hu1 : ∀ n ∈ rs,NumA n.abs ∧ OkN n := fun n hn => ⟨(hpn.r _ (hp5.er ▸ List.mem_map_of_mem hn)).1,OkN.of (hpn.r _ (hp5.er ▸ List.mem_map_of_mem hn)).2⟩
 have hu2' : ∀ n ∈ ns,NumA n.abs ∧ OkN n := fun n hn => ⟨(hpn.n _ (hp5.en ▸ List.mem_map_of_mem hn)).1,OkN.of (hpn.n _ (hp5.en ▸ List.mem_map_of_mem hn)).2⟩
 have hu4 : ∀ n ∈ is,NumA n.abs ∧ OkN n := fun n hn => ⟨(hpn.i _ (hp5.ei ▸ List.mem_map_of_mem hn)).1,OkN.of (hpn.i _ (hp5.ei ▸ List.mem_map_of_mem hn)).2⟩
 have hTN := hT2.mono hl25
 by_cases hcond : o.w = false ∧ 0 < rs.length
 ·have hst : stepG j o.d o.fr o.n.abs.few o.w = appL j pl.inst := by
   unfold stepG stepL
   rw [if_neg h8,if_neg h9,if_neg h10,hpl,if_pos ⟨hcond.1,by omega⟩]
  rw [hst]
  have hrl := hcond.2
  have hww := hcond.1
  refine Q.r ?_;(repeat (intro b1;refine Q.r ?_))
  refine S.c3 (A := jdgH N5 p j) (B := rgH N5 x j) (C := roM N5) rfl (Lapply_spec a4 c4 is p x j N5 _ hr5.i hu4 hw (by omega) (by omega) hTN) ?_
  rintro _ _ ⟨M6,rfl,hl6,rfl⟩
  rw [hr5.ei]
  refine Q.r ?_;(repeat (intro b1;refine Q.r ?_))
  refine N.r1 (RV.tmp rfl RV.nil) ?_ ⟨M6,rfl,hM2.trans (hl25.trans hl6),rfl⟩
  exact Go.SX.Ent.go
 ·have hst : stepG j o.d o.fr o.n.abs.few o.w = appL (appL j pl.rec_) pl.notes := by
   unfold stepG stepL
   rw [if_neg h8,if_neg h9,if_neg h10,hpl,if_neg (fun h => hcond ⟨h.1,by omega⟩)]
   exact List.foldl_append ..
  rw [hst]
  have hok1 := appL_ok (j := j) (l := rs.map NV.abs) hw (fun r hr => by obtain ⟨w,hw,rfl⟩ := List.mem_map.1 hr;exact (hu1 w hw).1)
  rw [hr5.er] at hok1
  obtain ⟨hj1,hj2,hj3,_⟩ := hok1
  by_cases hww : o.w = false
  ·have hrl : ¬ 0 < rs.length := fun h => hcond ⟨hww,h⟩
   refine Q.r ?_;(repeat (intro b1;refine Q.r ?_))
   refine S.c3 (A := jdgH N5 p j) (B := rgH N5 x j) (C := roM N5) rfl (Lapply_spec a1 c1 rs p x j N5 _ hr5.r hu1 hw (by omega) (by omega) hTN) ?_
   rintro _ _ ⟨M6,rfl,hl6,rfl⟩
   rw [hr5.er]
   refine Q.r ?_;(repeat (intro b1;refine Q.r ?_))
   first | refine S.c3 (A := jdgH M6 p (appL j pl.rec_)) (B := rgH M6 x (appL j pl.rec_)) (C := roM M6) rfl (Lapply_spec a2 c2 ns p x (appL j pl.rec_) M6 _ (hr5.n.mono hl6) hu2' hj1 (by omega) (by omega) (hTN.mono hl6)) ?_ | (refine S.guard rfl ?_;refine S.c3 (A := jdgH M6 p (appL j pl.rec_)) (B := rgH M6 x (appL j pl.rec_)) (C := roM M6) rfl (Lapply_spec a2 c2 ns p x (appL j pl.rec_) M6 _ (hr5.n.mono hl6) hu2' hj1 (by omega) (by omega) (hTN.mono hl6)) ?_)
   rintro _ _ ⟨M7,rfl,hl7,rfl⟩
   rw [hr5.en]
   refine Q.r ?_;(repeat (intro b1;refine Q.r ?_))
   refine N.r1 (RV.tmp rfl RV.nil) ?_ ⟨M7,rfl,hM2.trans (hl25.trans (hl6.trans hl7)),rfl⟩
   exact Go.SX.Ent.go
  ·have hww : o.w = true := by simpa using hww
   refine Q.r ?_;(repeat (intro b1;refine Q.r ?_))
   refine S.c3 (A := jdgH N5 p j) (B := rgH N5 x j) (C := roM N5) rfl (Lapply_spec a1 c1 rs p x j N5 _ hr5.r hu1 hw (by omega) (by omega) hTN) ?_
   rintro _ _ ⟨M6,rfl,hl6,rfl⟩
   rw [hr5.er]
   refine Q.r ?_;(repeat (intro b1;refine Q.r ?_))
   first | refine S.c3 (A := jdgH M6 p (appL j pl.rec_)) (B := rgH M6 x (appL j pl.rec_)) (C := roM M6) rfl (Lapply_spec a2 c2 ns p x (appL j pl.rec_) M6 _ (hr5.n.mono hl6) hu2' hj1 (by omega) (by omega) (hTN.mono hl6)) ?_ | (refine S.guard rfl ?_;refine S.c3 (A := jdgH M6 p (appL j pl.rec_)) (B := rgH M6 x (appL j pl.rec_)) (C := roM M6) rfl (Lapply_spec a2 c2 ns p x (appL j pl.rec_) M6 _ (hr5.n.mono hl6) hu2' hj1 (by omega) (by omega) (hTN.mono hl6)) ?_)
   rintro _ _ ⟨M7,rfl,hl7,rfl⟩
   rw [hr5.en]
   refine Q.r ?_;(repeat (intro b1;refine Q.r ?_))
   refine N.r1 (RV.tmp rfl RV.nil) ?_ ⟨M7,rfl,hM2.trans (hl25.trans (hl6.trans hl7)),rfl⟩
   exact Go.SX.Ent.go
end Go.Proofs.YtiampehfpgcogaaGreatDoor
namespace Go.Proofs.YtiampehfpgcogaaGreatDoor
open Go Go.SX
theorem app_gone {j : JG} {x : Int} : (appG j (goneN x)).tr.length ≤ j.tr.length ∧ (appG j (goneN x)).done = j.done := by
 by_cases hE : appGE j (goneN x) = 0
 ·rw [appGe hE (.inr rfl)]
  exact ⟨delL_len _ _,rfl⟩
 ·rw [appGno hE]
  exact ⟨Nat.le_refl _,rfl⟩
theorem appL_gone : ∀ (l : List Int) (j : JG),(appL j (l.map goneN)).tr.length ≤ j.tr.length ∧ (appL j (l.map goneN)).done = j.done
 | [],j => ⟨Nat.le_refl _,rfl⟩
 | x :: l,j => by
  obtain ⟨h1,h2⟩ := appL_gone l (appG j (goneN x))
  obtain ⟨h3,h4⟩ := app_gone (j := j) (x := x)
  exact ⟨Nat.le_trans h1 h3,h2.trans h4⟩
theorem epoch_num {j : JG} (h : WN j) : NumA (epochN (j.epoch + 1)) := by
 have e0 := h.g.b.e0
 have e1 := h.g.b.e1
 have z : (0 : Int) ≤ 18446744073709551615 := by decide
 exact NumA.of (show (0 : Int) ≤ 16 by decide) (show (16 : Int) ≤ 255 by decide) (Int.le_refl _) z (Int.le_refl _) z (Int.le_refl _) z (Int.le_refl _) z (show (0 : Int) ≤ 9223372036854775807 by decide) (show 0 ≤ j.epoch + 1 by omega) (show j.epoch + 1 ≤ _ by omega) rfl rfl rfl rfl rfl
theorem step_ok {j : JG} (h : WN j) (s1 : 1 ≤ j.shards) (s2 : j.shards ≤ 4) {n : NA} (u : NumA n) (d fr : Int) (w : Bool) :
  WN (stepG j d fr n w) ∧ (stepG j d fr n w).tr.length ≤ j.tr.length + 2 ∧ (stepG j d fr n w).done.length ≤ j.done.length + 2 ∧ (stepG j d fr n w).shards = j.shards ∧ (stepG j d fr n w).dim = j.dim := by
 have hp := plan_ok h s1 s2 u fr
 have ho := plan_ones j fr n
 unfold stepG stepL
 split
 ·obtain ⟨a,b,c,e,f⟩ := appL_ok (l := [n]) h (fun r hr => by rw [List.mem_singleton.1 hr];exact u)
  rw [List.length_singleton] at b c
  exact ⟨a,by omega,by omega,e,f⟩
 split
 ·obtain ⟨a,_,_,e,f⟩ := appL_ok (l := (quitG j).notes) h (fun r hr => ((quit_ok h).1 r hr).1)
  have hm : (quitG j).notes = ((quitL j (sortL (j.tr.map (·.1)))).map (·.txn)).map goneN := by rw [List.map_map];rfl
  obtain ⟨g1,g2⟩ := appL_gone ((quitL j (sortL (j.tr.map (·.1)))).map (·.txn)) j
  rw [← hm] at g1 g2
  exact ⟨a,Nat.le_trans g1 (Nat.le_add_right _ _),by rw [g2];exact Nat.le_add_right _ _,e,f⟩
 split
 ·obtain ⟨a,b,c,e,f⟩ := appL_ok (l := [epochN (j.epoch + 1)]) h (fun r hr => by rw [List.mem_singleton.1 hr];exact epoch_num h)
  rw [List.length_singleton] at b c
  exact ⟨a,by omega,by omega,e,f⟩
 split
 ·obtain ⟨a,b,c,e,f⟩ := appL_ok (l := (planG j fr n).inst) h (fun r hr => (hp.i r hr).1)
  exact ⟨a,by omega,by omega,e,f⟩
 ·obtain ⟨a,b,c,e,f⟩ := appL_ok (l := (planG j fr n).rec_ ++ (planG j fr n).notes) h (fun r hr => by
   rcases List.mem_append.1 hr with hr | hr
   ·exact (hp.r r hr).1
   ·exact (hp.n r hr).1)
  rw [List.length_append] at b c
  exact ⟨a,by omega,by omega,e,f⟩
structure LS (j : JG) (k : Nat) : Prop where
 w : WN j
 s : j.shards = 3
 dm : j.dim = 2
 t : j.tr.length ≤ 2 * min k 40
 d : j.done.length ≤ 2 * min k 40
theorem LS.zero : LS (JG0 3 2) 0 := ⟨⟨WG.zero (by decide) (by decide),fun _ h => (by cases h),fun _ h => (by cases h)⟩,rfl,rfl,Nat.zero_le _,Nat.zero_le _⟩
theorem LS.step {j : JG} {k : Nat} (h : LS j k) (hk : k < 40) {n : NA} (u : NumA n) (d fr : Int) (w : Bool) : LS (stepG j d fr n w) (k + 1) := by
 have h1 := h.s
 obtain ⟨a,b,c,e,f⟩ := step_ok h.w (by omega) (by omega) u d fr w
 have ht := h.t
 have hd := h.d
 exact ⟨a,by omega,by rw [f];exact h.dm,by omega,by omega⟩
theorem LS.skip {j : JG} {k : Nat} (h : LS j k) : LS j (k + 1) := by
 have ht := h.t
 have hd := h.d
 exact ⟨h.w,h.s,h.dm,by omega,by omega⟩
theorem LS.b {j : JG} {k : Nat} (h : LS j k) : j.tr.length ≤ 80 ∧ j.done.length ≤ 80 := by
 have ht := h.t
 have hd := h.d
 omega
def trsL (j : JG) : List TR := (sortL (j.tr.map (·.1))).filterMap fun x => lkL j.tr x
theorem trsL_perm {j : JG} (hk : keysOK j.tr) : (trsL j).Perm (j.tr.map (·.2)) := by
 unfold trsL
 refine ((sortL_perm _).filterMap _).trans ?_
 have : ∀ l : List (Int × TR),(∀ u ∈ l,u ∈ j.tr) → (l.map (·.1)).filterMap (fun x => lkL j.tr x) = l.map (·.2) := by
  intro l
  induction l with
  | nil => exact fun _ => rfl
  | cons u l ih =>
   intro hl
   rw [List.map_cons,List.filterMap_cons,(lkL_iff hk).2 (hl u List.mem_cons_self),List.map_cons,← ih fun v hv => hl v (List.mem_cons_of_mem _ hv)]
 rw [this j.tr fun _ h => h]
theorem trialsL (j : JG) : trialsG j = (trsL j).map bareT := by
 unfold trialsG trsL
 rw [List.map_filterMap]
theorem trials_len {j : JG} (hk : keysOK j.tr) : (trialsG j).length = j.tr.length := by
 rw [trialsL,List.length_map,(trsL_perm hk).length_eq,List.length_map]
def open0 (t : TR) : Bool := decide (t.stamp = 0)
theorem quit_trs (j : JG) : quitL j (sortL (j.tr.map (·.1))) = (trsL j).filter open0 := rfl
def quitX (j : JG) : List Int := ((trsL j).filter open0).map (·.txn)
theorem quit_notes (j : JG) : (quitG j).notes = (quitX j).map goneN := by
 show ((quitL j _).map _) = _
 rw [quit_trs];unfold quitX;rw [List.map_map];rfl
def cntQ (l : List TR) : Nat := (l.filter open0).length
def sumQ (l : List TR) : Nat := ((l.filter open0).map fun t => t.parts.length + 1).sum
theorem cntQ_bare (l : List TR) : cntQ (l.map bareT) = cntQ l := by
 unfold cntQ;rw [List.filter_map,List.length_map];rfl
theorem sumQ_bare (l : List TR) : sumQ (l.map bareT) = sumQ l := by
 unfold sumQ;rw [List.filter_map,List.map_map];rfl
theorem cnt_quit (j : JG) : (quitG j).notes.length = cntQ (trialsG j) := by
 rw [trialsL,cntQ_bare,quit_notes];unfold quitX cntQ;rw [List.length_map,List.length_map]
theorem sum_quit (j : JG) : (quitG j).mail.length = sumQ (trialsG j) := by
 rw [trialsL,sumQ_bare]
 show ((quitL j _).flatMap _).length = _
 rw [quit_trs];unfold sumQ
 rw [List.length_flatMap]
 congr 1
 exact List.map_congr_left fun t _ => toldM_len _ _ _
end Go.Proofs.YtiampehfpgcogaaGreatDoor
namespace Go.Proofs.YtiampehfpgcogaaGreatDoor
open Go Go.SX
attribute [local irreducible] swp opsS thenS blockS retS CallsS St Ent YieldS anyS drawS
theorem rg_new {p : Nat} (M : Nat → Option Obj) {L : List HP} : Ent (pt p (cl [.int .i64 3,.int .i64 2,.int .u64 0,.int .u64 0,.int .u64 0,.slice none 0 0,.slice none 0 0] 33) :: L) (rgH M p (JG0 3 2) :: L) :=
 rg_shut (p := p) (j := JG0 3 2) (ta := none) (tc := 0) (ts := []) (da := none) (dc := 0) (ds := []) ⟨by decide,by decide,List.Perm.refl _,List.Pairwise.nil,fun _ h => (by cases h),fun _ h => (by cases h),SlM.nil0,Nat.le_refl _,List.Perm.refl _,List.Pairwise.nil,SlM.nil0⟩
def wakeQ (s : Int) (t : TR) (q : Int) : List (Int × NA) := if t.stamp = 0 ∧ q ∉ t.yes then [prepM s t q] else if 0 < t.stamp ∧ q ∉ t.acked then [decM q t.txn t.stamp 0] else []
def wakeT (s : Int) (t : TR) : List (Int × NA) := t.parts.flatMap (wakeQ s t)
def wakeL (j : JG) (xs : List Int) : List (Int × NA) := (xs.filterMap fun x => lkL j.tr x).flatMap (wakeT j.shards)
def wakeG (j : JG) : List (Int × NA) := wakeL j (sortL (j.tr.map (·.1)))
theorem wakeL_snoc {j : JG} {xs : List Int} {i : Nat} {x : Int} {t : TR} (hx : xs[i]? = some x) (ht : lkL j.tr x = some t) : wakeL j (xs.take (i + 1)) = wakeL j (xs.take i) ++ wakeT j.shards t := by
 unfold wakeL
 rw [take_snoc hx,List.filterMap_append,List.filterMap_cons,ht,List.flatMap_append]
 simp
theorem RdS.row1g {L : List HP} {b n : Nat} {l : List Value} {t : TypeId} [h : FindB b L (cl l t)] (hl : l.length = n) : RdS L (some ⟨b,0,none⟩) n 1 l := ⟨by rw [hl,Nat.mul_one],.inr ⟨b,0,rfl,RdC.row⟩⟩
abbrev mabs (m : Int × NV) : Int × NA := (m.1,m.2.abs)
set_option maxHeartbeats 4000000 in
theorem GWake_spec (M : Nat → Option Obj) (p : Nat) (j : JG) (L : List HP) (hw : WG j) (hn : j.tr.length ≤ 100000) :
  CallsS Tryz.prog 56 [ptrG p] (jdgH M p j :: roM M :: L)
   (fun r L' => ∃ (a : Option Addr) (c : Nat) (ms : List (Int × NV)) (M' : Nat → Option Obj),r = .slice a ms.length c ∧ leM M M' ∧ (∀ m ∈ ms,okN M' m.2) ∧ ms.map mabs = wakeG j ∧ L' = slO 54 17 a ms.length c (ms.flatMap mcells) :: jdgH M' p j :: roM M' :: L) := by
 refine CallsS.of_body Tryz.func56 rfl rfl rfl ?_
 refine Q.r ?_;(repeat (intro b1;refine Q.r ?_))
 refine S.cgn p rfl (Gtxns_spec M p j _ (by omega)) ?_
 rintro _ _ ⟨a,c,rfl,rfl⟩
 have hsl : (sortL (j.tr.map (·.1))).length = j.tr.length := by rw [(sortL_perm _).length_eq,List.length_map]
 refine Q.r ?_;(repeat (intro b1;refine Q.r ?_))
 refine swp_abs a (fun M1 hl1 hs1 => ?_)
 refine swp_gm p hl1 ?_
 refine swp_loop (σ := Nat × Option Addr × Nat × List (Int × NV) × (Nat → Option Obj)) (fun s => [(0,ptrG p),(12,.slice a j.tr.length c),(13,.int .i64 j.tr.length),(3,.slice s.2.1 s.2.2.2.1.length s.2.2.1),(14,.int .i64 s.1)])
  (fun s => slO 54 17 s.2.1 s.2.2.2.1.length s.2.2.1 (s.2.2.2.1.flatMap mcells) :: jdgH s.2.2.2.2 p j :: roM s.2.2.2.2 :: L)
  (fun s => s.1 ≤ j.tr.length ∧ leM M1 s.2.2.2.2 ∧ (∀ m ∈ s.2.2.2.1,okN s.2.2.2.2 m.2) ∧ s.2.2.2.1.map mabs = wakeL j ((sortL (j.tr.map (·.1))).take s.1) ∧ s.2.2.2.1.length ≤ s.1 * 1000001) (fun s => j.tr.length - s.1) (0,none,0,[],M1) ⟨rfl,rfl,rfl,rfl,rfl,trivial⟩ (Ent.trans slO_nil (by exact Go.SX.Ent.go)) ⟨Nat.zero_le _,leM.refl M1,fun _ h => (by cases h),rfl,Nat.zero_le _⟩ ?_
 rintro ⟨i,a3,c3,ms,M2⟩ ⟨hi,hl2,hmo,hms,hml⟩
 dsimp only at hi hl2 hmo hms hml ⊢
 by_cases hlt : i < j.tr.length
 ·obtain ⟨x,hx⟩ := mem_get (l := sortL (j.tr.map (·.1))) (k := i) (by omega)
  obtain ⟨t,ht⟩ := sort_lk (List.mem_of_getElem? hx) hw.kt
  obtain ⟨ba,oa,haa,cr⟩ := SlM.cm1 (g := U64) (hs1.mono hl2) hx hsl.symm
  rw [haa]
  refine swp_jdg p (fun mt md ts hq => ?_)
  have hlk := lk_tr hq.tr x
  rw [ht] at hlk
  refine Q.rn ?_;(repeat (intro b1;refine Q.rn ?_))
  refine S.y (Y.lk false rfl rfl (fun w => Tryz.zeroValue96 w)) ?_
  cases hz : lkL (α := Nat × TV) ts x with
  | none => rw [hz] at hlk;cases hlk
  | some u =>
   rw [hz] at hlk
   obtain ⟨k,hkk⟩ := lk_idx hz
   have hok := hq.ok _ (List.mem_of_getElem? hkk)
   have htu : t = u.2.abs := Option.some.inj hlk
   have hpl : u.2.parts.length ≤ 1000000 := hok.pl
   dsimp only
   refine Q.rn ?_;(repeat (intro b1;refine Q.rn ?_))
   refine opsS_trs hkk ?_
   refine Q.rn ?_;(repeat (intro b1;refine Q.rn ?_))
   refine swp_loop (σ := Nat × Option Addr × Nat × List (Int × NV) × (Nat → Option Obj)) (fun s => [(0,ptrG p),(6,ptT u),(12,.slice (some ⟨ba,oa,none⟩) j.tr.length c),(13,.int .i64 j.tr.length),(14,.int .i64 i),(28,.slice u.2.pa u.2.parts.length u.2.pc),(29,.int .i64 u.2.parts.length),(3,.slice s.2.1 s.2.2.2.1.length s.2.2.1),(30,.int .i64 s.1)])
    (fun s => slO 54 17 s.2.1 s.2.2.2.1.length s.2.2.1 (s.2.2.2.1.flatMap mcells) :: oneT u :: trsH (ts.eraseIdx k) :: gP p j mt md :: gT mt ts :: gD md j.done :: roM s.2.2.2.2 :: L)
    (fun s => s.1 ≤ u.2.parts.length ∧ leM M2 s.2.2.2.2 ∧ (∀ m ∈ s.2.2.2.1,okN s.2.2.2.2 m.2) ∧ s.2.2.2.1.map mabs = wakeL j ((sortL (j.tr.map (·.1))).take i) ++ (u.2.parts.take s.1).flatMap (wakeQ j.shards u.2.abs) ∧ s.2.2.2.1.length ≤ i * 1000001 + s.1) (fun s => u.2.parts.length - s.1) (0,a3,c3,ms,M2) ⟨rfl,rfl,rfl,rfl,rfl,rfl,rfl,rfl,rfl,trivial⟩ (by exact Go.SX.Ent.go) ⟨Nat.zero_le _,leM.refl M2,hmo,by simpa using hms,Nat.le_trans hml (Nat.le_add_right _ _)⟩ ?_
   rintro ⟨n,a5,c5,ns,M3⟩ ⟨hn1,hl3,hno,hns,hnl⟩
   dsimp only at hn1 hl3 hno hns hnl ⊢
   have hnb : ns.length ≤ 100001000000 := by
    have h1 : i * 1000001 ≤ 99999 * 1000001 := Nat.mul_le_mul_right _ (by omega)
    omega
   by_cases hnt : n < u.2.parts.length
   ·obtain ⟨q,hq1⟩ := mem_get hnt
    obtain ⟨bp,op,hpa,cp⟩ := SlM.cm1 (g := I64) (hok.p.mono hl3) hq1 rfl
    rw [hpa]
    have hstn : 0 ≤ u.2.stamp := by have := (hw.lk ht).st;rw [htu] at this;exact this
    by_cases hs : u.2.stamp = 0
    ·refine Q.rn ?_;(repeat (intro b1;refine Q.rn ?_))
     first | refine S.cr rfl (ContainsP_spec u.2.ya u.2.yc u.2.yes q _ (hok.y.mono hl3).rd hok.yl) ?_ | (refine S.guard rfl ?_;refine S.cr rfl (ContainsP_spec u.2.ya u.2.yc u.2.yes q _ (hok.y.mono hl3).rd hok.yl) ?_)
     rintro _ _ ⟨rfl,rfl⟩
     by_cases hm : q ∈ u.2.yes
     ·have hwq : wakeQ j.shards u.2.abs q = [] := by
       unfold wakeQ
       rw [if_neg (fun h => h.2 hm),if_neg (fun h => by have h1 : 0 < u.2.stamp := h.1;omega)]
      rw [decide_eq_true hm]
      refine Q.rn ?_;(repeat (intro b1;refine Q.rn ?_))
      refine ⟨(n + 1,a5,c5,ns,M3),⟨rfl,rfl,rfl,rfl,rfl,rfl,rfl,rfl,rfl,trivial⟩,by exact Go.SX.Ent.go,⟨hnt,hl3,hno,?_,?_⟩,?_⟩
      ·dsimp only
       rw [hns,take_snoc hq1,List.flatMap_append,List.flatMap_cons,hwq];simp
      ·exact Nat.le_succ_of_le hnl
      ·show u.2.parts.length - (n + 1) < u.2.parts.length - n
       omega
     ·have hwq : wakeQ j.shards u.2.abs q = [prepM j.shards u.2.abs q] := by
       unfold wakeQ
       rw [if_pos ⟨hs,hm⟩]
      rw [decide_eq_false hm]
      refine Q.rn ?_;(repeat (intro b1;refine Q.rn ?_))
      refine S.c3 (A := gP p j mt md) (B := oneT u) (C := roM M3) rfl (Gprepare_spec p j mt md u q M3 _ (hok.mono hl3) hq.s1 hq.s2) ?_
      rintro _ _ ⟨m,M4,rfl,hl4,hm4,hma,rfl⟩
      refine Q.rn ?_;(repeat (intro b1;refine Q.rn ?_))
      refine S.app rfl rfl (SrcS.sl RdC.row (by rfl) (by rfl)) (by rfl) (by omega) (by omega) (fun a7 c7 => ?_)
      refine Q.rn ?_;(repeat (intro b1;refine Q.rn ?_))
      refine ⟨(n + 1,a7,c7,ns ++ [(q,m)],M4),⟨rfl,rfl,rfl,rfl,rfl,by rw [← hpa];rfl,rfl,congrArg some (by simp),rfl,trivial⟩,?_,⟨hnt,hl3.trans hl4,fun w hw => ?_,?_,?_⟩,Nat.sub_succ_lt_self u.2.parts.length n hnt⟩
      ·dsimp only
       rw [len_snoc,flat_snoc]
       exact Go.SX.Ent.go
      ·rcases List.mem_append.1 hw with hw | hw
       ·exact (hno w hw).mono hl4
       ·rw [List.mem_singleton] at hw;subst hw;exact hm4
      ·dsimp only
       rw [List.map_append,hns,take_snoc hq1,List.flatMap_append,List.flatMap_cons,hwq,List.append_assoc]
       exact congrArg (fun z => _ ++ (_ ++ [z])) hma
      ·dsimp only
       rw [len_snoc];omega
    ·have hs0 : 0 < u.2.stamp := by omega
     refine Q.rn ?_;(repeat (intro b1;refine Q.rn ?_))
     refine S.cr rfl (ContainsP_spec u.2.ka u.2.kc u.2.acked q _ (hok.k.mono hl3).rd hok.kl) ?_
     rintro _ _ ⟨rfl,rfl⟩
     by_cases hm : q ∈ u.2.acked
     ·have hwq : wakeQ j.shards u.2.abs q = [] := by
       unfold wakeQ
       rw [if_neg (fun h => hs h.1),if_neg (fun h => h.2 hm)]
      rw [decide_eq_true hm]
      refine Q.rn ?_;(repeat (intro b1;refine Q.rn ?_))
      refine ⟨(n + 1,a5,c5,ns,M3),⟨rfl,rfl,rfl,rfl,rfl,rfl,rfl,rfl,rfl,trivial⟩,by exact Go.SX.Ent.go,⟨hnt,hl3,hno,?_,?_⟩,Nat.sub_succ_lt_self u.2.parts.length n hnt⟩
      ·dsimp only
       rw [hns,take_snoc hq1,List.flatMap_append,List.flatMap_cons,hwq];simp
      ·exact Nat.le_succ_of_le hnl
     ·have hwq : wakeQ j.shards u.2.abs q = [decM q u.2.txn u.2.stamp 0] := by
       unfold wakeQ
       rw [if_neg (fun h => hs h.1),if_pos ⟨hs0,hm⟩]
      rw [decide_eq_false hm]
      refine Q.rn ?_;(repeat (intro b1;refine Q.rn ?_))
      refine Q.dgo [false,true] [12,13,14] [] [0,1,2,3,4,5,6,7,8,9,10,11,12,13,14,15] ?_
      refine Q.rdn ?_;(repeat (intro b1;refine Q.rdn ?_))
      refine D.e rfl rfl rfl ?_
      refine S.cr rfl (Gdecide_spec u.2.txn u.2.stamp 0 (some ⟨b1,0,none⟩) 1 [q] _ (RdS.row1g rfl) (show 1 ≤ 1000000 by decide)) ?_
      rintro _ _ ⟨a9,c9,rfl,rfl⟩
      rw [List.length_singleton]
      refine Q.rn ?_;(repeat (intro b1;refine Q.rn ?_))
      refine Q.rdn ?_;(repeat (intro b1;refine Q.rdn ?_))
      refine D.e rfl rfl rfl ?_
      refine opsS_addr a9 (fun h9 => ?_)
      refine S.app rfl rfl (SrcS.rd (RdS.own h9 (by rw [flat_len (sz := 17) (fun _ => rfl)];rfl)) (mails_one _)) (by rfl) (by omega) (by omega) (fun a8 c8 => ?_)
      refine Q.rn ?_;(repeat (intro b1;refine Q.rn ?_))
      refine Q.rdn ?_;(repeat (intro b1;refine Q.rdn ?_))
      refine Q.rn ?_;(repeat (intro b1;refine Q.rn ?_))
      refine ⟨(n + 1,a8,c8,ns ++ [((decM q u.2.txn u.2.stamp 0).1,(decM q u.2.txn u.2.stamp 0).2.nv)],M3),⟨rfl,rfl,rfl,rfl,rfl,by rw [← hpa];rfl,rfl,congrArg some (by simp),rfl,trivial⟩,?_,⟨hnt,hl3,fun w hw => ?_,?_,?_⟩,Nat.sub_succ_lt_self u.2.parts.length n hnt⟩
      ·dsimp only
       rw [len_snoc,flat_snoc]
       have e9 : List.map (fun p => decM p u.2.txn u.2.stamp 0) [q] = [decM q u.2.txn u.2.stamp 0] := rfl
       rw [e9]
       refine Ent.trans (M := slO 54 17 a8 (ns.length + 1) c8 (ns.flatMap mcells ++ [decM q u.2.txn u.2.stamp 0].flatMap mailC) :: oneT u :: trsH (ts.eraseIdx k) :: gP p j mt md :: gT mt ts :: gD md j.done :: roM M3 :: L) (by exact Go.SX.Ent.go) ?_
       rw [List.flatMap_cons,List.flatMap_nil,List.append_nil]
       exact Ent.refl _
      ·rcases List.mem_append.1 hw with hw | hw
       ·exact hno w hw
       ·rw [List.mem_singleton] at hw;subst hw;exact okN.nv _
      ·dsimp only
       rw [List.map_append,hns,take_snoc hq1,List.flatMap_append,List.flatMap_cons,hwq,List.append_assoc]
       rfl
      ·dsimp only
       rw [len_snoc];omega
   ·have hne : n = u.2.parts.length := by omega
    rw [hne,List.take_length] at hns
    refine Q.rn ?_;(repeat (intro b1;refine Q.rn ?_))
    refine ⟨(i + 1,a5,c5,ns,M3),⟨rfl,rfl,rfl,rfl,rfl,trivial⟩,?_,⟨hlt,hl2.trans hl3,hno,?_,?_⟩,Nat.sub_succ_lt_self j.tr.length i hlt⟩
    ·dsimp only
     exact Ent.trans (gclose1 (p := p) (mt := mt) (md := md) hkk (hq.mono hl3)) (by exact Go.SX.Ent.go)
    ·dsimp only
     rw [hns,wakeL_snoc hx ht,htu];rfl
    ·dsimp only
     have h1 : ns.length ≤ i * 1000001 + u.2.parts.length := by omega
     have h2 : (i + 1) * 1000001 = i * 1000001 + 1000001 := Nat.succ_mul ..
     omega
 ·have hie : i = (sortL (j.tr.map (·.1))).length := by omega
  rw [hie,List.take_length] at hms
  refine Q.rn ?_;(repeat (intro b1;refine Q.rn ?_))
  exact N.r1 (RV.tmp rfl RV.nil) (Ent.refl _) ⟨a3,c3,ms,M2,rfl,hl1.trans hl2,hmo,hms,rfl⟩
theorem RG.trs {M : Nat → Option Obj} {j : JG} {ta da : Option Addr} {tc : Nat} {ts : List TV} {ds : List (Int × Int)} (h : RG M j ta tc ts da ds) (hk : keysOK j.tr) : trsL j = ts.map TV.abs := h.abs hk
set_option maxHeartbeats 4000000 in
theorem RgWake_spec (M : Nat → Option Obj) (p : Nat) (j : JG) (L : List HP) (hw : WN j) (htl : j.tr.length ≤ 100000) :
  CallsS Tryz.prog 57 [.pointer (some ⟨p,0,none⟩)] (rgH M p j :: roM M :: L)
   (fun r L' => ∃ (a : Option Addr) (c : Nat) (ms : List (Int × NV)) (M' : Nat → Option Obj),r = .slice a ms.length c ∧ leM M M' ∧ (∀ m ∈ ms,okN M' m.2) ∧ ms.map mabs = wakeG j ∧ L' = slO 155 17 a ms.length c (ms.flatMap mcells) :: rgH M' p j :: roM M' :: L) := by
 refine calls_rg fun ta tc ts da dc ds hq => ?_
 have hts : ts.length ≤ 100000 := by rw [hq.len];exact htl
 have hwk : wakeG j = (ts.map TV.abs).flatMap (wakeT j.shards) := by rw [← hq.trs hw.g.kt];rfl
 have hst : ∀ v ∈ ts,0 ≤ v.stamp := fun v hv => (hw.g.lk (hq.has hw.g.kt hv)).st
 refine CallsS.of_body Tryz.func57 rfl rfl rfl ?_
 refine Q.r ?_;(repeat (intro b1;refine Q.r ?_))
 refine swp_loop (σ := Nat × Option Addr × Nat × List (Int × NV) × (Nat → Option Obj)) (fun s => [(0,.pointer (some ⟨p,0,none⟩)),(13,.slice ta ts.length tc),(14,.int .i64 ts.length),(3,.slice s.2.1 s.2.2.2.1.length s.2.2.1),(15,.int .i64 s.1)])
  (fun s => slO 155 17 s.2.1 s.2.2.2.1.length s.2.2.1 (s.2.2.2.1.flatMap mcells) :: rgP p j ta tc ts da dc ds :: roM s.2.2.2.2 :: L)
  (fun s => s.1 ≤ ts.length ∧ leM M s.2.2.2.2 ∧ (∀ m ∈ s.2.2.2.1,okN s.2.2.2.2 m.2) ∧ s.2.2.2.1.map mabs = ((ts.take s.1).map TV.abs).flatMap (wakeT j.shards) ∧ s.2.2.2.1.length ≤ s.1 * 1000001) (fun s => ts.length - s.1) (0,none,0,[],M) ⟨rfl,rfl,rfl,rfl,rfl,trivial⟩ (Ent.trans (slO_nil (t := 155) (sz := 17)) (by exact Go.SX.Ent.go)) ⟨Nat.zero_le _,leM.refl M,fun _ h => (by cases h),rfl,Nat.zero_le _⟩ ?_
 rintro ⟨i,a3,c3,ms,M2⟩ ⟨hi,hl2,hmo,hms,hml⟩
 dsimp only at hi hl2 hmo hms hml ⊢
 by_cases hlt : i < ts.length
 ·obtain ⟨u,hu⟩ := mem_get hlt
  have hum := List.mem_of_getElem? hu
  have hok := (hq.ok u hum).mono hl2
  have hu0 := hst u hum
  have hpl := hok.pl
  obtain ⟨bt,ot,hta,ct⟩ := SlM.cm (g := TV.cells) (fun _ => rfl) (hq.tS.mono hl2) hu rfl
  rw [hta]
  refine Q.r ?_;(repeat (intro b1;refine Q.r ?_))
  revert b1
  intro b5
  refine swp_loop (σ := Nat × Option Addr × Nat × List (Int × NV) × (Nat → Option Obj)) (fun s => [(0,.pointer (some ⟨p,0,none⟩)),(5,.pointer (some ⟨b5,0,none⟩)),(13,.slice (some ⟨bt,ot,none⟩) ts.length tc),(14,.int .i64 ts.length),(15,.int .i64 i),(20,.slice u.pa u.parts.length u.pc),(21,.int .i64 u.parts.length),(3,.slice s.2.1 s.2.2.2.1.length s.2.2.1),(22,.int .i64 s.1)])
   (fun s => pt b5 (cl u.cells 121) :: slO 155 17 s.2.1 s.2.2.2.1.length s.2.2.1 (s.2.2.2.1.flatMap mcells) :: rgP p j ta tc ts da dc ds :: roM s.2.2.2.2 :: L)
   (fun s => s.1 ≤ u.parts.length ∧ leM M2 s.2.2.2.2 ∧ (∀ m ∈ s.2.2.2.1,okN s.2.2.2.2 m.2) ∧ s.2.2.2.1.map mabs = ((ts.take i).map TV.abs).flatMap (wakeT j.shards) ++ (u.parts.take s.1).flatMap (wakeQ j.shards u.abs) ∧ s.2.2.2.1.length ≤ i * 1000001 + s.1) (fun s => u.parts.length - s.1) (0,a3,c3,ms,M2) ⟨rfl,rfl,rfl,rfl,rfl,rfl,rfl,rfl,rfl,trivial⟩ (by rw [← hta];exact Go.SX.Ent.go) ⟨Nat.zero_le _,leM.refl M2,hmo,by simpa using hms,Nat.le_trans hml (Nat.le_add_right _ _)⟩ ?_
  rintro ⟨n,a5,c5,ns,M3⟩ ⟨hn1,hl3,hno,hns,hnl⟩
  dsimp only at hn1 hl3 hno hns hnl ⊢
  have hnb : ns.length ≤ 100001000000 := by
   have h1 : i * 1000001 ≤ 99999 * 1000001 := Nat.mul_le_mul_right _ (by omega)
   omega
  by_cases hnt : n < u.parts.length
  ·obtain ⟨q,hq1⟩ := mem_get hnt
   obtain ⟨bp,op,hpa,cp⟩ := SlM.cm1 (g := I64) (hok.p.mono hl3) hq1 rfl
   have skip : wakeQ j.shards u.abs q = [] → ns.map mabs = ((ts.take i).map TV.abs).flatMap (wakeT j.shards) ++ (u.parts.take (n + 1)).flatMap (wakeQ j.shards u.abs) := fun hwq => by
    rw [hns,take_snoc hq1,List.flatMap_append,List.flatMap_cons,hwq];simp
   have one : ∀ m : Int × NV,wakeQ j.shards u.abs q = [mabs m] → (ns ++ [m]).map mabs = ((ts.take i).map TV.abs).flatMap (wakeT j.shards) ++ (u.parts.take (n + 1)).flatMap (wakeQ j.shards u.abs) := fun m hwq => by
    rw [List.map_append,hns,take_snoc hq1,List.flatMap_append,List.flatMap_cons,hwq,List.append_assoc];rfl
   rw [hpa]
   by_cases hs : u.stamp = 0
   ·refine Q.r ?_;(repeat (intro b1;refine Q.r ?_))
    refine S.cr rfl (Ris_spec u.ya u.yc u.yes q _ (hok.y.mono hl3).rd hok.yl) ?_
    rintro _ _ ⟨rfl,rfl⟩
    by_cases hm : q ∈ u.yes
    ·have hwq : wakeQ j.shards u.abs q = [] := by
      unfold wakeQ
      rw [if_neg (fun h => h.2 hm),if_neg (fun h => by have h1 : 0 < u.stamp := h.1;omega)]
     rw [decide_eq_true hm]
     refine Q.r ?_;(repeat (intro b1;refine Q.r ?_))
     refine ⟨(n + 1,a5,c5,ns,M3),⟨rfl,rfl,rfl,rfl,rfl,by rw [← hpa];rfl,rfl,rfl,rfl,trivial⟩,by exact Go.SX.Ent.go,⟨hnt,hl3,hno,skip hwq,Nat.le_succ_of_le hnl⟩,Nat.sub_succ_lt_self u.parts.length n hnt⟩
    ·have hwq : wakeQ j.shards u.abs q = [prepM j.shards u.abs q] := by
      unfold wakeQ
      rw [if_pos ⟨hs,hm⟩]
     rw [decide_eq_false hm]
     refine Q.r ?_;(repeat (intro b1;refine Q.r ?_))
     refine S.c2 (A := rgP p j ta tc ts da dc ds) (B := roM M3) (args := [.pointer (some ⟨p,0,none⟩),u.val,.int .i64 q]) rfl (RPrepare_spec p j ta tc ts da dc ds u q M3 _ (hok.mono hl3) hq.s1 hq.s2) ?_
     rintro _ _ ⟨m,M4,rfl,hl4,hm4,hma,rfl⟩
     refine Q.r ?_;(repeat (intro b1;refine Q.r ?_))
     refine S.app rfl rfl (SrcS.sl RdC.row (by rfl) (by rfl)) (by rfl) (by omega) (by omega) (fun a7 c7 => ?_)
     refine Q.r ?_;(repeat (intro b1;refine Q.r ?_))
     refine ⟨(n + 1,a7,c7,ns ++ [(q,m)],M4),⟨rfl,rfl,rfl,rfl,rfl,by rw [← hpa];rfl,rfl,congrArg some (by simp),rfl,trivial⟩,?_,⟨hnt,hl3.trans hl4,fun w hw => ?_,one _ (by rw [hwq];exact congrArg (fun z => [z]) hma.symm),by dsimp only;rw [len_snoc];omega⟩,Nat.sub_succ_lt_self u.parts.length n hnt⟩
     ·dsimp only
      rw [len_snoc,flat_snoc]
      exact Go.SX.Ent.go
     ·rcases List.mem_append.1 hw with hw | hw
      ·exact (hno w hw).mono hl4
      ·rw [List.mem_singleton] at hw;subst hw;exact hm4
   ·have hs0 : 0 < u.stamp := by omega
    refine Q.r ?_;(repeat (intro b1;refine Q.r ?_))
    refine S.cr rfl (Ris_spec u.ka u.kc u.acked q _ (hok.k.mono hl3).rd hok.kl) ?_
    rintro _ _ ⟨rfl,rfl⟩
    by_cases hm : q ∈ u.acked
    ·have hwq : wakeQ j.shards u.abs q = [] := by
      unfold wakeQ
      rw [if_neg (fun h => hs h.1),if_neg (fun h => h.2 hm)]
     rw [decide_eq_true hm]
     refine Q.r ?_;(repeat (intro b1;refine Q.r ?_))
     refine ⟨(n + 1,a5,c5,ns,M3),⟨rfl,rfl,rfl,rfl,rfl,by rw [← hpa];rfl,rfl,rfl,rfl,trivial⟩,by exact Go.SX.Ent.go,⟨hnt,hl3,hno,skip hwq,Nat.le_succ_of_le hnl⟩,Nat.sub_succ_lt_self u.parts.length n hnt⟩
    ·have hwq : wakeQ j.shards u.abs q = [decM q u.txn u.stamp 0] := by
      unfold wakeQ
      rw [if_neg (fun h => hs h.1),if_pos ⟨hs0,hm⟩]
     rw [decide_eq_false hm]
     refine Q.r ?_;(repeat (intro b1;refine Q.r ?_))
     refine S.cr rfl (Rdecide_spec q u.txn u.stamp 0 _) ?_
     rintro _ _ ⟨rfl,rfl⟩
     refine Q.r ?_;(repeat (intro b1;refine Q.r ?_))
     refine S.app rfl rfl (SrcS.sl RdC.row (by rfl) (by rfl)) (by rfl) (by omega) (by omega) (fun a7 c7 => ?_)
     refine Q.r ?_;(repeat (intro b1;refine Q.r ?_))
     refine ⟨(n + 1,a7,c7,ns ++ [(q,(decM q u.txn u.stamp 0).2.nv)],M3),⟨rfl,rfl,rfl,rfl,rfl,by rw [← hpa];rfl,rfl,congrArg some (by simp),rfl,trivial⟩,?_,⟨hnt,hl3,fun w hw => ?_,one _ (by rw [hwq];rfl),by dsimp only;rw [len_snoc];omega⟩,Nat.sub_succ_lt_self u.parts.length n hnt⟩
     ·dsimp only
      rw [len_snoc,flat_snoc]
      exact Go.SX.Ent.go
     ·rcases List.mem_append.1 hw with hw | hw
      ·exact hno w hw
      ·rw [List.mem_singleton] at hw;subst hw;exact okN.nv _
  ·have hne : n = u.parts.length := by omega
   rw [hne,List.take_length] at hns
   refine Q.r ?_;(repeat (intro b1;refine Q.r ?_))
   refine ⟨(i + 1,a5,c5,ns,M3),⟨rfl,rfl,rfl,rfl,rfl,trivial⟩,?_,⟨hlt,hl2.trans hl3,hno,?_,?_⟩,Nat.sub_succ_lt_self ts.length i hlt⟩
   ·dsimp only
    rw [← hta]
    exact Go.SX.Ent.go
   ·dsimp only
    rw [hns,take_snoc hu,List.map_append,List.flatMap_append]
    simp only [List.map_cons,List.map_nil,List.flatMap_cons,List.flatMap_nil,List.append_nil]
    rfl
   ·dsimp only
    have h1 : ns.length ≤ i * 1000001 + u.parts.length := by omega
    have h2 : (i + 1) * 1000001 = i * 1000001 + 1000001 := Nat.succ_mul ..
    omega
 ·have hie : i = ts.length := by omega
  rw [hie,List.take_length,← hwk] at hms
  refine Q.r ?_;(repeat (intro b1;refine Q.r ?_))
  refine N.r1 (RV.tmp rfl RV.nil) ?_ ⟨a3,c3,ms,M2,rfl,hl2,hmo,hms,rfl⟩
  exact Ent.trans (rgclose (p := p) (dc := dc) (hq.mono hl2)) (by exact Go.SX.Ent.go)
set_option maxHeartbeats 4000000 in
theorem RgQuit_spec (M : Nat → Option Obj) (p : Nat) (j : JG) (L : List HP) (hw : WN j) (htl : j.tr.length ≤ 100000) :
  CallsS Tryz.prog 58 [.pointer (some ⟨p,0,none⟩)] (rgH M p j :: roM M :: L) (planRG0 M p j (quitG j) L) := by
 refine calls_rg fun ta tc ts da dc ds hq => ?_
 have hts : ts.length ≤ 100000 := by rw [hq.len];exact htl
 have hql : quitL j (sortL (j.tr.map (·.1))) = (ts.map TV.abs).filter open0 := by rw [quit_trs,hq.trs hw.g.kt]
 have hst : ∀ v ∈ ts,0 ≤ v.stamp := fun v hv => (hw.g.lk (hq.has hw.g.kt hv)).st
 refine CallsS.of_body Tryz.func58 rfl rfl rfl ?_
 refine Q.r ?_;(repeat (intro b1;refine Q.r ?_))
 rename_i b2
 revert b1
 intro b3
 refine swp_loop (σ := Nat × (Option Addr × Nat × List NA) × (Option Addr × Nat × List (Int × NA))) (fun s => [(2,.pointer (some ⟨b2,0,none⟩)),(3,.pointer (some ⟨b3,0,none⟩)),(11,.slice ta ts.length tc),(12,.int .i64 ts.length),(13,.int .i64 s.1)])
  (fun s => pt b3 (cl [.slice none 0 0,.slice s.2.1.1 s.2.1.2.2.length s.2.1.2.1,.slice s.2.2.1 s.2.2.2.2.length s.2.2.2.1,.slice none 0 0,.slice none 0 0] 88) :: plO b2 :: slO 39 16 s.2.1.1 s.2.1.2.2.length s.2.1.2.1 (s.2.1.2.2.flatMap fun n => n.nv.cells) :: slO 155 17 s.2.2.1 s.2.2.2.2.length s.2.2.2.1 (s.2.2.2.2.flatMap mailC) :: rgP p j ta tc ts da dc ds :: roM M :: L)
  (fun s => s.1 ≤ ts.length ∧ s.2.1.2.2 = (((ts.take s.1).map TV.abs).filter open0).map (fun t => goneN t.txn) ∧ s.2.2.2.2 = (((ts.take s.1).map TV.abs).filter open0).flatMap (fun t => toldM t 0 12) ∧ s.2.1.2.2.length ≤ s.1 ∧ s.2.2.2.2.length ≤ s.1 * 1000001) (fun s => ts.length - s.1) (0,(none,0,[]),(none,0,[])) ⟨rfl,rfl,rfl,rfl,rfl,trivial⟩ (Ent.trans (slO_nil (t := 39) (sz := 16)) (Ent.trans (slO_nil (t := 155) (sz := 17)) (by exact Go.SX.Ent.go))) ⟨Nat.zero_le _,rfl,rfl,Nat.le_refl _,Nat.le_refl _⟩ ?_
 rintro ⟨i,⟨a2,c2,ns⟩,⟨a3,c3,ms⟩⟩ ⟨hi,hns,hms,hnl,hml⟩
 dsimp only at hi hns hms hnl hml ⊢
 by_cases hlt : i < ts.length
 ·obtain ⟨u,hu⟩ := mem_get hlt
  have hum := List.mem_of_getElem? hu
  have hok := hq.ok u hum
  have hpl := hok.pl
  obtain ⟨bt,ot,hta,ct⟩ := SlM.cm (g := TV.cells) (fun _ => rfl) hq.tS hu rfl
  have hsn : ((ts.take (i + 1)).map TV.abs).filter open0 = ((ts.take i).map TV.abs).filter open0 ++ if u.stamp = 0 then [u.abs] else [] := by
   rw [take_snoc hu,List.map_append,List.filter_append,List.map_cons,List.map_nil,List.filter_cons,List.filter_nil]
   by_cases h : u.stamp = 0
   ·rw [if_pos (by simpa [open0] using h),if_pos h]
   ·rw [if_neg (by simpa [open0] using h),if_neg h]
  by_cases hs : u.stamp = 0
  ·rw [if_pos hs] at hsn
   rw [hta]
   refine Q.r ?_;(repeat (intro b1;refine Q.r ?_))
   refine S.app rfl rfl (SrcS.sl RdC.row (by rfl) (by rfl)) (by rfl) (by omega) (by omega) (fun a7 c7 => ?_)
   refine Q.r ?_;(repeat (intro b1;refine Q.r ?_))
   refine Q.dgo [false,true,true] [3,4,6] [6] [0,1,2,3,4,5,6] ?_
   refine Q.rd ?_;(repeat (intro b1;refine Q.rd ?_))
   refine D.e rfl rfl rfl ?_
   refine S.cmG (args := [u.val,.int .u64 0,.int .i64 12]) rfl (Rtold_spec u 0 12 M _ hok) ?_
   rintro _ _ ⟨a9,c9,rfl,rfl⟩
   refine Q.r ?_;(repeat (intro b1;refine Q.r ?_))
   refine Q.rd ?_;(repeat (intro b1;refine Q.rd ?_))
   refine D.e rfl rfl rfl ?_
   refine opsS_addr a9 (fun h9 => ?_)
   refine S.app rfl rfl (SrcS.rd (RdS.own h9 (by rw [flat_len (sz := 17) (fun _ => rfl),toldM_len])) (mails_one _)) (by rfl) (by omega) (by omega) (fun a8 c8 => ?_)
   refine Q.r ?_;(repeat (intro b1;refine Q.r ?_))
   refine Q.rd ?_;(repeat (intro b1;refine Q.rd ?_))
   refine Q.dc rfl rfl rfl rfl ?_
   refine Q.r ?_;(repeat (intro b1;refine Q.r ?_))
   refine Q.rd ?_;(repeat (intro b1;refine Q.rd ?_))
   refine Q.r ?_;(repeat (intro b1;refine Q.r ?_))
   rw [← hta]
   have h2 : (i + 1) * 1000001 = i * 1000001 + 1000001 := Nat.succ_mul ..
   refine ⟨(i + 1,(a7,c7,ns ++ [goneN u.txn]),(a8,c8,ms ++ toldM u.abs 0 12)),⟨rfl,rfl,rfl,rfl,rfl,trivial⟩,?_,⟨hlt,by dsimp only;rw [hsn,List.map_append,hns];rfl,by dsimp only;rw [hsn,List.flatMap_append,hms];simp,by dsimp only;rw [len_snoc];omega,?_⟩,Nat.sub_succ_lt_self ts.length i hlt⟩
   ·dsimp only
    rw [len_snoc,List.length_append,toldM_len]
    simp only [List.flatMap_append,List.flatMap_cons,List.flatMap_nil,List.append_nil]
    exact Go.SX.Ent.go
   ·dsimp only
    rw [List.length_append,toldM_len]
    show ms.length + (u.parts.length + 1) ≤ _
    omega
  ·rw [if_neg hs,List.append_nil] at hsn
   rw [hta]
   refine Q.r ?_;(repeat (intro b1;refine Q.r ?_))
   rw [← hta]
   refine ⟨(i + 1,(a2,c2,ns),(a3,c3,ms)),⟨rfl,rfl,rfl,rfl,rfl,trivial⟩,by exact Go.SX.Ent.go,⟨hlt,by dsimp only;rw [hsn];exact hns,by dsimp only;rw [hsn];exact hms,Nat.le_succ_of_le hnl,Nat.le_trans hml (Nat.mul_le_mul_right 1000001 (Nat.le_succ i))⟩,Nat.sub_succ_lt_self ts.length i hlt⟩
 ·have hie : i = ts.length := by omega
  rw [hie,List.take_length,← hql] at hns hms
  refine Q.r ?_;(repeat (intro b1;refine Q.r ?_))
  refine N.r1 (by apply RV.cellN;rfl;exact RdC.row;rfl;exact RV.nil) (Ent.trans (rgclose (p := p) (dc := dc) hq) ?_) ⟨none,0,[],a2,c2,ns.map NA.nv,a3,c3,ms.map (fun m => (m.1,m.2.nv)),none,0,[],none,0,[],M,by simp,leM.refl M,⟨fun _ h => (by cases h),fun w h => ?_,nvm_ok _,fun _ h => (by cases h),fun _ h => (by cases h)⟩,⟨rfl,?_,?_,rfl,rfl⟩,rfl⟩
  ·have f1 : (ns.map NA.nv).flatMap NV.cells = ns.flatMap (fun n => n.nv.cells) := List.flatMap_map ..
   have f2 : (ms.map (fun m => (m.1,m.2.nv))).flatMap mcells = ms.flatMap mailC := List.flatMap_map ..
   rw [f1,f2,List.length_map,List.length_map]
   show Ent _ (zN :: slO 39 16 a2 ns.length c2 (ns.flatMap fun n => n.nv.cells) :: slO 155 17 a3 ms.length c3 (ms.flatMap mailC) :: zN :: zM :: rgH M p j :: roM M :: L)
   exact Go.SX.Ent.go
  ·obtain ⟨q,_,rfl⟩ := List.mem_map.1 h
   exact okN.nv _
  ·rw [hns,List.map_map,List.map_map];rfl
  ·have hm1 : ∀ m ∈ ms,m.2.nv.abs = m.2 := fun m hm => by
    rw [hms] at hm
    obtain ⟨t,_,ht⟩ := List.mem_flatMap.1 hm
    exact toldM_abs _ _ _ m ht
   exact (nvm_abs hm1).trans hms
def packD (d : Int × Int) : List UInt8 := numI d.1 ++ numI d.2
def packT (t : TR) : List UInt8 := numI t.txn ++ numI t.batch ++ numI t.stamp ++ numI (t.parts.length : Int) ++ t.parts.flatMap numI
def dnL (j : JG) : List (Int × Int) := (sortL (j.done.map (·.1))).map fun b => (b,(lkL j.done b).getD 0)
def com0 (t : TR) : Bool := decide (0 < t.stamp)
def comL (j : JG) : List TR := (trsL j).filter com0
def packW (j : JG) : List UInt8 := numI j.epoch ++ numI j.last ++ numI (j.done.length : Int)
def packG (j : JG) : List UInt8 := packW j ++ (dnL j).flatMap packD ++ numI ((comL j).length : Int) ++ (comL j).flatMap packT
theorem dn_lk {j : JG} {b : Int} (h : b ∈ sortL (j.done.map (·.1))) (hk : keysOK j.done) : ∃ s,lkL j.done b = some s := by
 obtain ⟨u,hu,rfl⟩ := List.mem_map.1 ((sortL_perm _).mem_iff.1 h)
 exact ⟨u.2,(lkL_iff hk).2 hu⟩
theorem packD_len {d : Int × Int} (h1 : d.1 ≤ 18446744073709551615) (h2 : d.2 ≤ 18446744073709551615) : (packD d).length ≤ 20 := by
 have := numI_len h1
 have := numI_len h2
 unfold packD
 rw [List.length_append];omega
structure PT (x : Int) (t : TR) : Prop where
 xx : t.txn = x
 x1 : x ≤ 18446744073709551615
 b1 : t.batch ≤ 18446744073709551615
 s1 : t.stamp ≤ 1099511627776
 pl : t.parts.length ≤ 4
 pb : ∀ q ∈ t.parts,0 ≤ q ∧ q < 16
structure PB (j : JG) : Prop where
 e0 : 0 ≤ j.epoch
 e1 : j.epoch ≤ 1099511627776
 l0 : 0 ≤ j.last
 l1 : j.last ≤ 1099511627776
 kt : keysOK j.tr
 kd : keysOK j.done
 tx : ∀ u ∈ j.tr,PT u.1 u.2
 d : ∀ u ∈ j.done,u.1 ≤ 18446744073709551615 ∧ u.2 ≤ 1099511627776
theorem PB.lk {j : JG} (h : PB j) {x : Int} {t : TR} (ht : lkL j.tr x = some t) : PT x t := h.tx _ ((lkL_iff h.kt).1 ht)
theorem WN.pb {j : JG} (h : WN j) : PB j := ⟨h.g.b.e0,h.g.b.e1,h.g.b.l0,h.g.b.l1,h.g.kt,h.g.kd,fun u hu => ⟨(h.g.tx u hu).xx,(h.t u hu).x1,(h.t u hu).b1,(h.t u hu).s1,(h.g.tx u hu).pl,(h.g.tx u hu).pb⟩,fun u hu => (h.d u hu).2⟩
theorem packT_lenB {j : JG} (h : PB j) {x : Int} {t : TR} (ht : lkL j.tr x = some t) : (packT t).length ≤ 80 := by
 have hW := h.lk ht
 have hx := hW.xx
 have hx1 := hW.x1
 have hs1 := hW.s1
 have hpl := hW.pl
 have h1 := numI_len (z := t.txn) (by omega)
 have h2 := numI_len hW.b1
 have h3 := numI_len (z := t.stamp) (by omega)
 have h4 := numI_len (z := (t.parts.length : Int)) (by omega)
 have h5 : (t.parts.flatMap numI).length ≤ t.parts.length * 10 := flat_le fun q hq => numI_len (by have := hW.pb q hq;omega)
 unfold packT
 simp only [List.length_append]
 omega
theorem trs_memB {j : JG} (h : PB j) {t : TR} (ht : t ∈ trsL j) : lkL j.tr t.txn = some t := by
 obtain ⟨w,hw,rfl⟩ := List.mem_map.1 ((trsL_perm h.kt).mem_iff.1 ht)
 rw [(h.tx w hw).xx]
 exact (lkL_iff h.kt).2 hw
theorem packT_len {j : JG} (h : WN j) {x : Int} {t : TR} (ht : lkL j.tr x = some t) : (packT t).length ≤ 80 := packT_lenB h.pb ht
theorem trs_mem {j : JG} (h : WN j) {t : TR} (ht : t ∈ trsL j) : lkL j.tr t.txn = some t := trs_memB h.pb ht
theorem trsL_snoc {j : JG} {xs : List Int} {i : Nat} {x : Int} {t : TR} (hx : xs[i]? = some x) (ht : lkL j.tr x = some t) : (((xs.take (i + 1)).filterMap fun x => lkL j.tr x).filter com0) = (((xs.take i).filterMap fun x => lkL j.tr x).filter com0) ++ if 0 < t.stamp then [t] else [] := by
 rw [take_snoc hx,List.filterMap_append,List.filterMap_cons,ht,List.filter_append]
 by_cases h : 0 < t.stamp
 ·rw [if_pos h];simp [com0,h]
 ·rw [if_neg h];simp [com0,h]
theorem mapP_len {α β : Type} {f : α → β} {l : List α} {m : List β} (h : l.map f = m) : l.length = m.length := by rw [← h,List.length_map]
abbrev ptU (u : TB) : Value := ptT u.2
set_option maxHeartbeats 8000000 in
theorem GPack_specB (M : Nat → Option Obj) (p : Nat) (j : JG) (L : List HP) (hw : PB j) (htl : j.tr.length ≤ 100000) (hdl : j.done.length ≤ 100000) :
  CallsS Tryz.prog 19 [ptrG p] (jdgH M p j :: roM M :: L) (fun r L' => ∃ (a : Option Addr) (c : Nat) (M' : Nat → Option Obj),r = .slice a (packG j).length c ∧ leM M M' ∧ L' = slO 5 1 a (packG j).length c ((packG j).map B) :: jdgH M' p j :: roM M' :: L) := by
 have e0 := hw.e0
 have e1 := hw.e1
 have l0 := hw.l0
 have l1 := hw.l1
 refine CallsS.of_body Tryz.func19 rfl rfl rfl ?_
 refine Q.r ?_;(repeat (intro b1;refine Q.r ?_))
 revert b1
 intro bw
 refine swp_ent wH_new ?_
 refine swp_jdg p (fun mt md ts hq => ?_)
 have hlts : ts.length = j.tr.length := by rw [← hq.tr,List.length_map]
 refine Q.dgo [true,false,false,true] [15,16] [] [0,1,2,3,4,5,6,7,8,9,10,11,12,13,14,15,16] ?_
 refine Q.rd ?_;(repeat (intro b1;refine Q.rd ?_))
 refine D.y rfl rfl rfl (by kernel_rfl) (Y.cvi rfl) ?_
 rw [wrap_u64 (by omega) (by omega)]
 refine Q.rd ?_;(repeat (intro b1;refine Q.rd ?_))
 refine D.e rfl rfl rfl ?_
 refine S.c1 (A := wH bw []) rfl (wNums_spec bw [] (some ⟨b1,0,none⟩) 3 [j.epoch,j.last,(j.done.length : Int)] _ (RdS.row1 rfl) (by intro z hz;rcases (by simpa using hz : z = j.epoch ∨ z = j.last ∨ z = (j.done.length : Int)) with rfl | rfl | rfl <;> omega) (by simp)) ?_
 rintro _ _ ⟨rfl,rfl⟩
 have eW : [] ++ [j.epoch,j.last,(j.done.length : Int)].flatMap numI = packW j := by simp [packW]
 rw [eW]
 have hWl : (packW j).length ≤ 30 := by
  have h1 := numI_len (z := j.epoch) (by omega)
  have h2 := numI_len (z := j.last) (by omega)
  have h3 := numI_len (z := (j.done.length : Int)) (by omega)
  unfold packW
  simp only [List.length_append];omega
 obtain ⟨W0,hW0⟩ : ∃ W0,W0 = packW j := ⟨_,rfl⟩
 rw [← hW0] at hWl ⊢
 refine Q.r ?_;(repeat (intro b1;refine Q.r ?_))
 refine Q.rd ?_;(repeat (intro b1;refine Q.rd ?_))
 refine Q.r ?_;(repeat (intro b1;refine Q.r ?_))
 refine S.cr rfl (MapKeysU_spec (some md) _) ?_
 rintro _ _ ⟨bm,rfl,rfl⟩
 refine Q.r ?_;(repeat (intro b1;refine Q.r ?_))
 refine opsS_ent (L' := pt bm (cl [.map (some md)] 79) :: gD md j.done :: gP p j mt md :: wH bw W0 :: gT mt ts :: trsH ts :: roM M :: L) (by exact Go.SX.Ent.go) ?_
 have hs := KeysU_spec U64 bm md j.done (gP p j mt md :: wH bw W0 :: gT mt ts :: trsH ts :: roM M :: L)
 refine S.cr rfl (Sorted_spec _ _ (j.done.map (·.1)) _ _ (by rw [List.length_map];omega) (by rw [List.length_map];exact hs)) ?_
 rintro _ _ ⟨a1,c1,rfl,rfl⟩
 rw [List.length_map]
 have hdk : (sortL (j.done.map (·.1))).length = j.done.length := by rw [sortL_len,List.length_map]
 have hdnl : (dnL j).length = j.done.length := by unfold dnL;rw [List.length_map,hdk]
 have hdm : ∀ d ∈ dnL j,d.1 ≤ 18446744073709551615 ∧ d.2 ≤ 18446744073709551615 := fun d hd => by
  obtain ⟨b,hb,rfl⟩ := List.mem_map.1 hd
  obtain ⟨s,hs⟩ := dn_lk hb hw.kd
  have hm := hw.d _ (lk_memL hs)
  dsimp only
  rw [hs]
  have := hm.2
  exact ⟨hm.1,by show s ≤ _;omega⟩
 have hpd : ∀ d ∈ dnL j,(packD d).length ≤ 20 := fun d hd => packD_len (hdm d hd).1 (hdm d hd).2
 refine Q.r ?_;(repeat (intro b1;refine Q.r ?_))
 refine swp_abs a1 (fun M1 hl1 hs1 => ?_)
 refine swp_cutB (σ := Unit) (fun _ => [(0,ptrG p),(3,.pointer (some ⟨bw,0,none⟩))])
  (fun _ => wH bw (W0 ++ (dnL j).flatMap packD) :: jdgH M1 p j :: roM M1 :: L) (fun _ => True) ?_ ?_
 ·refine swp_loop (σ := Nat) (fun i => [(0,ptrG p),(3,.pointer (some ⟨bw,0,none⟩)),(40,.slice a1 j.done.length c1),(41,.int .i64 j.done.length),(42,.int .i64 i)])
   (fun i => wH bw (W0 ++ ((dnL j).take i).flatMap packD) :: gP p j mt md :: gD md j.done :: gT mt ts :: trsH ts :: roM M1 :: L) (fun i => i ≤ j.done.length) (fun i => j.done.length - i) 0 ⟨rfl,rfl,rfl,rfl,rfl,trivial⟩ (by simp only [List.take_zero,List.flatMap_nil,List.append_nil];exact Go.SX.Ent.go) (Nat.zero_le _) ?_
  intro i hi
  by_cases hlt : i < j.done.length
  ·obtain ⟨b,hb⟩ := mem_get (l := sortL (j.done.map (·.1))) (k := i) (by omega)
   obtain ⟨s,hsb⟩ := dn_lk (List.mem_of_getElem? hb) hw.kd
   have hd : (dnL j)[i]? = some (b,s) := by unfold dnL;rw [List.getElem?_map,hb];simp [hsb]
   obtain ⟨ba,oa,haa,cr⟩ := SlM.cm1 (g := U64) hs1 hb hdk.symm
   have hbs := hdm _ (List.mem_of_getElem? hd)
   have hXl : (((dnL j).take i).flatMap packD).length ≤ (dnL j).length * 20 := take_le i hpd
   have hnx : ((dnL j).take (i + 1)).flatMap packD = ((dnL j).take i).flatMap packD ++ packD (b,s) := flat1 hd
   generalize hX : ((dnL j).take i).flatMap packD = X at hXl hnx ⊢
   rw [haa]
   refine Q.r ?_;(repeat (intro b1;refine Q.r ?_))
   refine S.y (Y.lk false rfl rfl (fun w => Tryz.zeroValue29 w)) ?_
   rw [hsb]
   dsimp only
   refine Q.r ?_;(repeat (intro b1;refine Q.r ?_))
   refine S.c1 (A := wH bw (W0 ++ X)) rfl (wNums_spec bw (W0 ++ X) (some ⟨b1,0,none⟩) 2 [b,s] _ (RdS.row1 rfl) (by intro z hz;rcases (by simpa using hz : z = b ∨ z = s) with rfl | rfl;exact hbs.1;exact hbs.2) (by rw [List.length_append];simp only [List.length_cons,List.length_nil];omega)) ?_
   rintro _ _ ⟨rfl,rfl⟩
   have eX : W0 ++ X ++ [b,s].flatMap numI = W0 ++ ((dnL j).take (i + 1)).flatMap packD := by rw [hnx];simp [packD]
   rw [eX]
   refine Q.r ?_;(repeat (intro b1;refine Q.r ?_))
   rw [← haa]
   refine ⟨i + 1,⟨rfl,rfl,rfl,rfl,rfl,trivial⟩,by exact Go.SX.Ent.go,hlt,Nat.sub_succ_lt_self j.done.length i hlt⟩
  ·have hie : i = (dnL j).length := by omega
   rw [hie,List.take_length]
   refine Q.r ?_;(repeat (intro b1;refine Q.r ?_))
   exact ⟨(),⟨rfl,rfl,trivial⟩,Ent.trans (gclose (p := p) (mt := mt) (md := md) (hq.mono hl1)) (by exact Go.SX.Ent.go),trivial⟩
 rintro _ _
 clear hs hs1
 have hW1 : (W0 ++ (dnL j).flatMap packD).length ≤ 3000000 := by
  have h1 : ((dnL j).flatMap packD).length ≤ (dnL j).length * 20 := flat_le hpd
  rw [List.length_append];omega
 obtain ⟨W1,hW1e⟩ : ∃ W1,W1 = W0 ++ (dnL j).flatMap packD := ⟨_,rfl⟩
 rw [← hW1e] at hW1 ⊢
 have hsl : (sortL (j.tr.map (·.1))).length = j.tr.length := by rw [sortL_len,List.length_map]
 refine Q.r ?_;(repeat (intro b1;refine Q.r ?_))
 refine S.cgn p rfl (Gtxns_spec M1 p j _ (by omega)) ?_
 rintro _ _ ⟨a2,c2,rfl,rfl⟩
 refine Q.r ?_;(repeat (intro b1;refine Q.r ?_))
 refine swp_abs a2 (fun M2 hl2 hs2 => ?_)
 refine swp_gm p hl2 ?_
 clear hq
 clear hlts
 refine swp_jdg p (fun mt md ts hq => ?_)
 refine swp_cutB (σ := Option Addr × Nat × List TB) (fun s => [(3,.pointer (some ⟨bw,0,none⟩)),(6,.slice s.1 s.2.2.length s.2.1)])
  (fun s => slO 96 1 s.1 s.2.2.length s.2.1 (s.2.2.map ptU) :: gP p j mt md :: gT mt ts :: trsH ts :: gD md j.done :: wH bw W1 :: roM M2 :: L) (fun s => s.2.2.map (fun u => u.2.2.abs) = comL j ∧ (∀ u ∈ s.2.2,∃ k : Nat,ts[k]? = some u) ∧ s.2.2.length ≤ 100000) ?_ ?_
 ·refine swp_loop (σ := Nat × Option Addr × Nat × List TB) (fun s => [(0,ptrG p),(3,.pointer (some ⟨bw,0,none⟩)),(58,.slice a2 j.tr.length c2),(59,.int .i64 j.tr.length),(6,.slice s.2.1 s.2.2.2.length s.2.2.1),(60,.int .i64 s.1)])
   (fun s => slO 96 1 s.2.1 s.2.2.2.length s.2.2.1 (s.2.2.2.map ptU) :: gP p j mt md :: gT mt ts :: trsH ts :: gD md j.done :: wH bw W1 :: roM M2 :: L) (fun s => s.1 ≤ j.tr.length ∧ s.2.2.2.map (fun u => u.2.2.abs) = ((((sortL (j.tr.map (·.1))).take s.1).filterMap fun x => lkL j.tr x).filter com0) ∧ (∀ u ∈ s.2.2.2,∃ k : Nat,ts[k]? = some u) ∧ s.2.2.2.length ≤ s.1) (fun s => j.tr.length - s.1) (0,none,0,[]) ⟨rfl,rfl,rfl,rfl,rfl,rfl,trivial⟩ (Ent.trans (slO_nil (t := 96) (sz := 1)) (by exact Go.SX.Ent.go)) ⟨Nat.zero_le _,rfl,fun _ h => (by cases h),Nat.le_refl _⟩ ?_
  rintro ⟨i,a3,c3,us⟩ ⟨hi,hus,huk,hul⟩
  dsimp only at hi hus huk hul ⊢
  by_cases hlt : i < j.tr.length
  ·obtain ⟨x,hx⟩ := mem_get (l := sortL (j.tr.map (·.1))) (k := i) (by omega)
   obtain ⟨t,ht⟩ := sort_lk (List.mem_of_getElem? hx) hw.kt
   obtain ⟨ba,oa,haa,cr⟩ := SlM.cm1 (g := U64) hs2 hx hsl.symm
   have hsn := trsL_snoc hx ht
   have hlk := lk_tr hq.tr x
   rw [ht] at hlk
   rw [haa]
   refine Q.r ?_;(repeat (intro b1;refine Q.r ?_))
   refine S.y (Y.lk false rfl rfl (fun w => Tryz.zeroValue96 w)) ?_
   cases hz : lkL (α := Nat × TV) ts x with
   | none => rw [hz] at hlk;cases hlk
   | some u =>
    rw [hz] at hlk
    obtain ⟨k,hkk⟩ := lk_idx hz
    have htu : t = u.2.abs := Option.some.inj hlk
    dsimp only
    refine Q.r ?_;(repeat (intro b1;refine Q.r ?_))
    refine opsS_trs hkk ?_
    by_cases hs : 0 < u.2.stamp
    ·have hs' : 0 < t.stamp := by rw [htu];exact hs
     rw [if_pos hs'] at hsn
     refine Q.r ?_;(repeat (intro b1;refine Q.r ?_))
     refine S.app rfl rfl (SrcS.sl RdC.row (by rfl) (by rfl)) (by rfl) (by omega) (by omega) (fun a7 c7 => ?_)
     refine Q.r ?_;(repeat (intro b1;refine Q.r ?_))
     rw [← haa]
     refine ⟨(i + 1,a7,c7,us ++ [(x,u)]),⟨rfl,rfl,rfl,rfl,congrArg some (by simp),rfl,trivial⟩,?_,⟨hlt,?_,?_,?_⟩,Nat.sub_succ_lt_self j.tr.length i hlt⟩
     ·dsimp only
      have e9 : (us ++ [((x,u) : TB)]).map ptU = us.map ptU ++ [ptT u] := by rw [List.map_append];rfl
      rw [len_snoc,e9]
      refine Ent.trans (M := oneT u :: trsH (ts.eraseIdx k) :: slO 96 1 a7 (us.length + 1) c7 (us.map ptU ++ [ptT u]) :: gP p j mt md :: gT mt ts :: gD md j.done :: wH bw W1 :: roM M2 :: L) (by exact Go.SX.Ent.go) (Ent.trans (trs_back hkk) ?_)
      exact Go.SX.Ent.go
     ·dsimp only
      rw [hsn,List.map_append,hus,htu];rfl
     ·intro w hw
      rcases List.mem_append.1 hw with hw | hw
      ·exact huk w hw
      ·rw [List.mem_singleton] at hw;subst hw;exact ⟨k,hkk⟩
     ·dsimp only
      rw [len_snoc];omega
    ·have hs' : ¬ 0 < t.stamp := by rw [htu];exact hs
     rw [if_neg hs',List.append_nil] at hsn
     refine Q.r ?_;(repeat (intro b1;refine Q.r ?_))
     rw [← haa]
     refine ⟨(i + 1,a3,c3,us),⟨rfl,rfl,rfl,rfl,rfl,rfl,trivial⟩,?_,⟨hlt,by dsimp only;rw [hsn];exact hus,huk,Nat.le_succ_of_le hul⟩,Nat.sub_succ_lt_self j.tr.length i hlt⟩
     dsimp only
     refine Ent.trans (M := oneT u :: trsH (ts.eraseIdx k) :: slO 96 1 a3 us.length c3 (us.map ptU) :: gP p j mt md :: gT mt ts :: gD md j.done :: wH bw W1 :: roM M2 :: L) (by exact Go.SX.Ent.go) (Ent.trans (trs_back hkk) ?_)
     exact Go.SX.Ent.go
  ·have hie : i = (sortL (j.tr.map (·.1))).length := by omega
   rw [hie,List.take_length] at hus
   refine Q.r ?_;(repeat (intro b1;refine Q.r ?_))
   exact ⟨(a3,c3,us),⟨rfl,rfl,trivial⟩,by exact Go.SX.Ent.go,hus,huk,by dsimp only;omega⟩
 rintro ⟨a3,c3,us⟩ ⟨hus,huk,hul⟩
 dsimp only at hus huk hul ⊢
 refine swp_abs a3 (fun M3 hl3 hs3 => ?_)
 have hcl : us.length = (comL j).length := mapP_len hus
 refine Q.r ?_;(repeat (intro b1;refine Q.r ?_))
 refine S.y (Y.cvi rfl) ?_
 rw [wrap_u64 (by omega) (by omega)]
 refine Q.r ?_;(repeat (intro b1;refine Q.r ?_))
 refine S.c1 (A := wH bw W1) rfl (wNums_spec bw W1 (some ⟨b1,0,none⟩) 1 [(us.length : Int)] _ (RdS.row1 rfl) (by intro z hz;rw [List.mem_singleton.1 hz];omega) (by simp only [List.length_cons,List.length_nil];omega)) ?_
 rintro _ _ ⟨rfl,rfl⟩
 have hW2 : (W1 ++ [(us.length : Int)].flatMap numI).length ≤ 3000010 := by
  have h1 := numI_len (z := (us.length : Int)) (by omega)
  simp only [List.flatMap_cons,List.flatMap_nil,List.append_nil,List.length_append];omega
 have hW2p : packG j = W1 ++ [(us.length : Int)].flatMap numI ++ us.flatMap fun u => packT u.2.2.abs := by
  unfold packG
  rw [← hW0,← hW1e,← hcl,← hus,List.flatMap_map];simp
 obtain ⟨W2,hW2e⟩ : ∃ W2,W2 = W1 ++ [(us.length : Int)].flatMap numI := ⟨_,rfl⟩
 rw [← hW2e] at hW2 hW2p ⊢
 have hpt : ∀ u ∈ us,(packT u.2.2.abs).length ≤ 80 := fun u hu => by
  have hm : u.2.2.abs ∈ comL j := hus ▸ List.mem_map_of_mem (f := fun u : TB => u.2.2.abs) hu
  exact packT_lenB hw (trs_memB hw (List.mem_filter.1 hm).1)
 have hq3 := hq.mono hl3
 refine Q.r ?_;(repeat (intro b1;refine Q.r ?_))
 refine swp_cutB (σ := Unit) (fun _ => [(3,.pointer (some ⟨bw,0,none⟩))])
  (fun _ => wH bw (packG j) :: gP p j mt md :: gT mt ts :: trsH ts :: gD md j.done :: roM M3 :: L) (fun _ => True) ?_ ?_
 ·refine swp_loop (σ := Nat) (fun i => [(3,.pointer (some ⟨bw,0,none⟩)),(87,.slice a3 us.length c3),(88,.int .i64 us.length),(89,.int .i64 i)])
   (fun i => wH bw (W2 ++ (us.take i).flatMap fun u => packT u.2.2.abs) :: gP p j mt md :: gT mt ts :: trsH ts :: gD md j.done :: roM M3 :: L) (fun i => i ≤ us.length) (fun i => us.length - i) 0 ⟨rfl,rfl,rfl,rfl,trivial⟩ (by simp only [List.take_zero,List.flatMap_nil,List.append_nil];exact Go.SX.Ent.go) (Nat.zero_le _) ?_
  intro i hi
  by_cases hlt : i < us.length
  ·obtain ⟨u,hu⟩ := mem_get hlt
   obtain ⟨k,hkk⟩ := huk u (List.mem_of_getElem? hu)
   have hum := List.mem_of_getElem? hkk
   have hok := hq3.ok u hum
   obtain ⟨ba,oa,haa,cr⟩ := SlM.cm1 (g := ptU) hs3 hu rfl
   have hlku : lkL j.tr u.1 = some u.2.2.abs := by
    refine (lkL_iff hw.kt).2 ?_
    rw [← hq.tr]
    exact List.mem_map_of_mem (f := fun u : TB => (u.1,u.2.2.abs)) hum
   have hWu := hw.lk hlku
   have hTu := hw.lk hlku
   have hxx : u.2.2.txn = u.1 := hWu.xx
   have hx1 := hTu.x1
   have hb1 : u.2.2.batch ≤ 18446744073709551615 := hTu.b1
   have hs1' : u.2.2.stamp ≤ 1099511627776 := hTu.s1
   have hp4 : u.2.2.parts.length ≤ 4 := hWu.pl
   have hpb : ∀ q ∈ u.2.2.parts,0 ≤ q ∧ q < 16 := hWu.pb
   have hXl : ((us.take i).flatMap fun u => packT u.2.2.abs).length ≤ us.length * 80 := take_le i hpt
   have hnx : ((us.take (i + 1)).flatMap fun u => packT u.2.2.abs) = ((us.take i).flatMap fun u => packT u.2.2.abs) ++ packT u.2.2.abs := flat1 hu
   generalize hX : ((us.take i).flatMap fun u => packT u.2.2.abs) = X at hXl hnx ⊢
   rw [haa]
   refine Q.r ?_;(repeat (intro b1;refine Q.r ?_))
   refine swp_trs hkk ?_
   refine Q.dgo [true] [23,24] [] [0,1,2,3,4,5,6,7,8,9,10,11,12,13,14,15,16,17,18,19,20,21,22,23,24] ?_
   refine Q.rd ?_;(repeat (intro b1;refine Q.rd ?_))
   refine D.y rfl rfl rfl (by kernel_rfl) (Y.cvi rfl) ?_
   rw [wrap_u64 (by omega) (by omega)]
   refine Q.rd ?_;(repeat (intro b1;refine Q.rd ?_))
   refine D.e rfl rfl rfl ?_
   refine S.c1 (A := wH bw (W2 ++ X)) rfl (wNums_spec bw (W2 ++ X) (some ⟨b1,0,none⟩) 4 [u.2.2.txn,u.2.2.batch,u.2.2.stamp,(u.2.2.parts.length : Int)] _ (RdS.row1 rfl) (by intro z hz;rcases (by simpa using hz : z = u.2.2.txn ∨ z = u.2.2.batch ∨ z = u.2.2.stamp ∨ z = (u.2.2.parts.length : Int)) with rfl | rfl | rfl | rfl <;> omega) (by rw [List.length_append];simp only [List.length_cons,List.length_nil];omega)) ?_
   rintro _ _ ⟨rfl,rfl⟩
   have hYl : (W2 ++ X ++ [u.2.2.txn,u.2.2.batch,u.2.2.stamp,(u.2.2.parts.length : Int)].flatMap numI).length ≤ 20000000 := by
    have h1 := numI_len (z := u.2.2.txn) (by omega)
    have h2 := numI_len hb1
    have h3 := numI_len (z := u.2.2.stamp) (by omega)
    have h4 := numI_len (z := (u.2.2.parts.length : Int)) (by omega)
    simp only [List.flatMap_cons,List.flatMap_nil,List.append_nil,List.length_append];omega
   have hY2 : W2 ++ X ++ [u.2.2.txn,u.2.2.batch,u.2.2.stamp,(u.2.2.parts.length : Int)].flatMap numI ++ u.2.2.parts.flatMap numI = W2 ++ ((us.take (i + 1)).flatMap fun u => packT u.2.2.abs) := by
    rw [hnx];simp [packT]
   generalize W2 ++ X ++ [u.2.2.txn,u.2.2.batch,u.2.2.stamp,(u.2.2.parts.length : Int)].flatMap numI = Y1 at hYl hY2 ⊢
   refine Q.r ?_;(repeat (intro b1;refine Q.r ?_))
   refine Q.rd ?_;(repeat (intro b1;refine Q.rd ?_))
   refine Q.r ?_;(repeat (intro b1;refine Q.r ?_))
   refine swp_loop (σ := Nat) (fun m => [(3,.pointer (some ⟨bw,0,none⟩)),(87,.slice (some ⟨ba,oa,none⟩) us.length c3),(88,.int .i64 us.length),(89,.int .i64 i),(122,.slice u.2.2.pa u.2.2.parts.length u.2.2.pc),(123,.int .i64 u.2.2.parts.length),(124,.int .i64 m)])
    (fun m => wH bw (Y1 ++ (u.2.2.parts.take m).flatMap numI) :: oneT u.2 :: trsH (ts.eraseIdx k) :: gP p j mt md :: gT mt ts :: gD md j.done :: roM M3 :: L) (fun m => m ≤ u.2.2.parts.length) (fun m => u.2.2.parts.length - m) 0 ⟨rfl,rfl,rfl,rfl,rfl,rfl,rfl,trivial⟩ (by simp only [List.take_zero,List.flatMap_nil,List.append_nil];exact Go.SX.Ent.go) (Nat.zero_le _) ?_
   intro m hm
   by_cases hmt : m < u.2.2.parts.length
   ·obtain ⟨q,hq1⟩ := mem_get hmt
    obtain ⟨bp,op,hpa,cp⟩ := SlM.cm1 (g := I64) hok.p hq1 rfl
    have hqb := hpb q (List.mem_of_getElem? hq1)
    have hZl : ((u.2.2.parts.take m).flatMap numI).length ≤ u.2.2.parts.length * 10 := take_le m fun q hq => numI_len (by have := hpb q hq;omega)
    have hnz : (u.2.2.parts.take (m + 1)).flatMap numI = (u.2.2.parts.take m).flatMap numI ++ numI q := flat1 hq1
    generalize (u.2.2.parts.take m).flatMap numI = Z at hZl hnz ⊢
    rw [hpa]
    refine Q.r ?_;(repeat (intro b1;refine Q.r ?_))
    refine S.y (Y.cvi rfl) ?_
    rw [wrap_u64 (by omega) (by omega)]
    refine Q.r ?_;(repeat (intro b1;refine Q.r ?_))
    refine S.c1 (A := wH bw (Y1 ++ Z)) rfl (wNums_spec bw (Y1 ++ Z) (some ⟨b1,0,none⟩) 1 [q] _ (RdS.row1 rfl) (by intro z hz;rw [List.mem_singleton.1 hz];omega) (by rw [List.length_append];simp only [List.length_cons,List.length_nil];omega)) ?_
    rintro _ _ ⟨rfl,rfl⟩
    have eZ : Y1 ++ Z ++ [q].flatMap numI = Y1 ++ (u.2.2.parts.take (m + 1)).flatMap numI := by rw [hnz];simp
    rw [eZ]
    refine Q.r ?_;(repeat (intro b1;refine Q.r ?_))
    refine ⟨m + 1,⟨rfl,rfl,rfl,rfl,by rw [← hpa];rfl,rfl,rfl,trivial⟩,by exact Go.SX.Ent.go,hmt,Nat.sub_succ_lt_self u.2.2.parts.length m hmt⟩
   ·have hme : m = u.2.2.parts.length := by omega
    rw [hme,List.take_length,hY2]
    refine Q.r ?_;(repeat (intro b1;refine Q.r ?_))
    refine ⟨i + 1,⟨rfl,rfl,rfl,rfl,trivial⟩,?_,hlt,Nat.sub_succ_lt_self us.length i hlt⟩
    refine Ent.trans (M := oneT u.2 :: trsH (ts.eraseIdx k) :: wH bw (W2 ++ ((us.take (i + 1)).flatMap fun u => packT u.2.2.abs)) :: gP p j mt md :: gT mt ts :: gD md j.done :: roM M3 :: L) (by exact Go.SX.Ent.go) (Ent.trans (trs_back hkk) ?_)
    exact Go.SX.Ent.go
  ·have hie : i = us.length := by omega
   rw [hie,List.take_length,← hW2p]
   refine Q.r ?_;(repeat (intro b1;refine Q.r ?_))
   exact ⟨(),⟨rfl,trivial⟩,by exact Go.SX.Ent.go,trivial⟩
 rintro _ _
 have hpl : (packG j).length ≤ 140737488355328 := by
  rw [hW2p,List.length_append]
  have h1 : (us.flatMap fun u => packT u.2.2.abs).length ≤ us.length * 80 := flat_le hpt
  omega
 refine Q.r ?_;(repeat (intro b1;refine Q.r ?_))
 refine S.c1 (A := wH bw (packG j)) rfl (wBytes_spec bw (packG j) _ hpl) ?_
 rintro _ _ ⟨a9,c9,rfl,rfl⟩
 refine Q.r ?_;(repeat (intro b1;refine Q.r ?_))
 refine N.r1 (RV.tmp rfl RV.nil) (Ent.trans (gclose (p := p) (mt := mt) (md := md) hq3) ?_) ⟨a9,c9,M3,rfl,hl1.trans (hl2.trans hl3),rfl⟩
 exact Go.SX.Ent.go
theorem GPack_spec (M : Nat → Option Obj) (p : Nat) (j : JG) (L : List HP) (hw : WN j) (htl : j.tr.length ≤ 100000) (hdl : j.done.length ≤ 100000) :
  CallsS Tryz.prog 19 [ptrG p] (jdgH M p j :: roM M :: L) (fun r L' => ∃ (a : Option Addr) (c : Nat) (M' : Nat → Option Obj),r = .slice a (packG j).length c ∧ leM M M' ∧ L' = slO 5 1 a (packG j).length c ((packG j).map B) :: jdgH M' p j :: roM M' :: L) := GPack_specB M p j L hw.pb htl hdl
abbrev slB (a : Option Addr) (c : Nat) (bs : List UInt8) : HP := slO 5 1 a bs.length c (bs.map B)
section
variable {n : Nat} {ops rest : List Oper} {Q : Post} {f : Env} {L : List HP} {d : Tmp} {ty : TypeId} {pos : String} {af : Array Edge}
theorem S.appB {x y : Operand} {t tx : TypeId} {a a2 : Option Addr} {c c2 : Nat} {X Y : List UInt8} {L' : HP → List HP} [h : SlTy Tryz.prog t 5] [h2 : SlTy Tryz.prog tx 5] [hu : UpdS a L 5 1 X.length c (X.map B) L'] (hx : ev f x = some (.slice a X.length c)) (hy : ev f y = some (.slice a2 Y.length c2)) (hr : RdS L a2 Y.length 1 (Y.map B)) (hl : X.length + Y.length ≤ 100000000000000)
  (hk : ∀ a' c',opsS Tryz.prog n ops rest Q (upd f d (.slice a' (X ++ Y).length c')) (L' (slB a' c' (X ++ Y)))) :
  opsS Tryz.prog n ops (⟨some d,.call ⟨.builtin .append,#[x,y],#[t,tx]⟩,ty,pos,af,none⟩ :: rest) Q f L := by
 refine S.app hx hy (SrcS.rd hr (B_one _)) (by rfl) (by omega) (by omega) (fun a' c' => ?_)
 have := hk a' c'
 unfold slB at this
 rw [List.length_append,List.map_append] at this
 exact this
end
theorem numI_hiZ {z : Int} (h : 128 ≤ z) : numI z = UInt8.ofNat (z % 128 + 128).toNat :: numI (z / 128) := by
 obtain ⟨m,rfl⟩ : ∃ m : Nat,z = (m : Int) := ⟨z.toNat,by omega⟩
 rw [numI_hi (m := m) (by omega)]
 have e1 : ((m : Int) % 128 + 128).toNat = m % 128 + 128 := by omega
 have e2 : ((m : Int) / 128) = ((m / 2 ^ 7 : Nat) : Int) := by omega
 rw [e1,e2]
theorem u8add {r : Int} (h : 0 ≤ r ∧ r < 128) : IntKind.u8.wrap (IntKind.u8.wrap r + 128) = ((UInt8.ofNat (r + 128).toNat).toNat : Int) := by
 rw [u8w,u8w,UInt8.toNat_ofNat']
 omega
theorem dnL_ref {M : Nat → Option Obj} {j : JG} {ta da : Option Addr} {tc : Nat} {ts : List TV} {ds : List (Int × Int)} (h : RG M j ta tc ts da ds) (hk : keysOK j.done) : dnL j = ds := by
 have e : sortL (j.done.map (·.1)) = ds.map (·.1) := sorted_uniq ((sortL_perm _).trans (h.dp.map (·.1)).symm) (sortL_sorted _) (h.sD.imp fun h => Int.le_of_lt h)
 unfold dnL
 rw [e,List.map_map]
 refine (List.map_congr_left fun d hd => ?_).trans (List.map_id _)
 show (d.1,(lkL j.done d.1).getD 0) = d
 rw [(lkL_iff hk).2 (h.dp.mem_iff.1 hd)];rfl
theorem RNum_spec : ∀ (k : Nat) (z : Int) (L : List HP),0 ≤ z → z.toNat ≤ k → z ≤ 18446744073709551615 →
  CallsS Tryz.prog 102 [.int .u64 z] L (fun r L' => ∃ a c,r = .slice a (numI z).length c ∧ L' = slB a c (numI z) :: L) := by
 have low : ∀ (z : Int) (L : List HP),0 ≤ z → z < 128 → CallsS Tryz.prog 102 [.int .u64 z] L (fun r L' => ∃ a c,r = .slice a (numI z).length c ∧ L' = slB a c (numI z) :: L) := by
  intro z L h0 hlt
  refine CallsS.of_body Tryz.func102 rfl rfl rfl ?_
  refine Q.r ?_;(repeat (intro b1;refine Q.r ?_))
  refine S.y (Y.cvi rfl) ?_
  rw [u8lo]
  refine Q.r ?_;(repeat (intro b1;refine Q.r ?_))
  rw [numI_lo hlt]
  refine N.r1 (RV.tmp rfl RV.nil) ?_ ⟨some ⟨b1,0,none⟩,1,rfl,rfl⟩
  exact slO_fold (sz := 1) (m := 1) rfl
 intro k
 induction k with
 | zero => exact fun z L h0 hk hz => low z L h0 (by omega)
 | succ k ih =>
  intro z L h0 hk hz
  by_cases hlt : z < 128
  ·exact low z L h0 hlt
  ·have hq := numI_hiZ (z := z) (by omega)
   refine CallsS.of_body Tryz.func102 rfl rfl rfl ?_
   refine Q.r ?_;(repeat (intro b1;refine Q.r ?_))
   refine S.y (Y.rem rfl rfl (by decide)) ?_
   rw [Int.tmod_eq_emod_of_nonneg h0]
   refine Q.r ?_;(repeat (intro b1;refine Q.r ?_))
   refine S.y (Y.cvi rfl) ?_
   refine Q.r ?_;(repeat (intro b1;refine Q.r ?_))
   refine S.y (Y.add rfl rfl) ?_
   rw [u8add (by omega)]
   refine Q.r ?_;(repeat (intro b1;refine Q.r ?_))
   refine opsS_ent (slO_fold (sz := 1) (m := 1) rfl) ?_
   refine S.y (Y.quo rfl rfl (by decide)) ?_
   rw [Int.tdiv_eq_ediv_of_nonneg h0,wrap_u64 (by omega) (by omega)]
   refine Q.r ?_;(repeat (intro b1;refine Q.r ?_))
   refine S.cr rfl (ih (z / 128) _ (by omega) (by omega) (by omega)) ?_
   rintro _ _ ⟨a,c,rfl,rfl⟩
   have hnl := numI_len (z := z / 128) (by omega)
   refine Q.r ?_;(repeat (intro b1;refine Q.r ?_))
   refine opsS_addr a (fun ha => ?_)
   refine S.appB (X := [UInt8.ofNat (z % 128 + 128).toNat]) (Y := numI (z / 128)) rfl rfl (RdS.own ha (by rw [List.length_map,Nat.mul_one])) (by simp only [List.length_cons,List.length_nil];omega) (fun a' c' => ?_)
   refine Q.r ?_;(repeat (intro b1;refine Q.r ?_))
   rw [hq]
   refine N.r1 (RV.tmp rfl RV.nil) ?_ ⟨a',c',rfl,rfl⟩
   exact Go.SX.Ent.go
theorem RNum (z : Int) (L : List HP) (h0 : 0 ≤ z) (hz : z ≤ 18446744073709551615) :
  CallsS Tryz.prog 102 [.int .u64 z] L (fun r L' => ∃ a c,r = .slice a (numI z).length c ∧ L' = slB a c (numI z) :: L) := RNum_spec z.toNat z L h0 (Nat.le_refl _) hz
set_option maxHeartbeats 8000000 in
theorem RgPack_spec (M : Nat → Option Obj) (p : Nat) (j : JG) (L : List HP) (hw : WN j) (htl : j.tr.length ≤ 100000) (hdl : j.done.length ≤ 100000) :
  CallsS Tryz.prog 53 [.pointer (some ⟨p,0,none⟩)] (rgH M p j :: roM M :: L) (fun r L' => ∃ (a : Option Addr) (c : Nat),r = .slice a (packG j).length c ∧ L' = slB a c (packG j) :: rgH M p j :: roM M :: L) := by
 have hG := hw.g
 have e0 := hG.b.e0
 have e1 := hG.b.e1
 have l0 := hG.b.l0
 have l1 := hG.b.l1
 refine calls_rg fun ta tc ts da dc ds hq => ?_
 have hts : ts.length = j.tr.length := hq.len
 have hds : ds.length = j.done.length := hq.dlen
 have hdn : dnL j = ds := dnL_ref hq hG.kd
 have hpb : ∀ d ∈ ds,0 ≤ d.1 ∧ d.1 ≤ 18446744073709551615 ∧ 0 ≤ d.2 ∧ d.2 ≤ 18446744073709551615 := fun d hd => by
  have hm := hq.dp.mem_iff.1 hd
  have h1 := hw.d d hm
  have h2 := hG.dp d hm
  omega
 have hpd : ∀ d ∈ ds,(packD d).length ≤ 20 := fun d hd => packD_len (hpb d hd).2.1 (hpb d hd).2.2.2
 have hcm : comL j = (ts.map TV.abs).filter com0 := by unfold comL;rw [hq.trs hG.kt]
 refine CallsS.of_body Tryz.func53 rfl rfl rfl ?_
 refine Q.r ?_;(repeat (intro b1;refine Q.r ?_))
 refine Q.dgo [true] [4,9,10,17,18] [] [0,1,2,3,5,6,7,8,11,12,13,14,15,16,4,9,10,17,18,19] ?_
 refine Q.rd ?_;(repeat (intro b1;refine Q.rd ?_))
 refine D.y rfl rfl rfl (by kernel_rfl) (Y.cvi rfl) ?_
 rw [wrap_u64 (by omega) (by omega)]
 refine Q.rd ?_;(repeat (intro b1;refine Q.rd ?_))
 refine D.e rfl rfl rfl ?_
 refine S.cr rfl (RNum j.epoch _ e0 (by omega)) ?_
 rintro _ _ ⟨a1,c1,rfl,rfl⟩
 have n1 := numI_len (z := j.epoch) (by omega)
 refine Q.r ?_;(repeat (intro b1;refine Q.r ?_))
 refine Q.rd ?_;(repeat (intro b1;refine Q.rd ?_))
 refine D.e rfl rfl rfl ?_
 refine S.cr rfl (RNum j.last _ l0 (by omega)) ?_
 rintro _ _ ⟨a2,c2,rfl,rfl⟩
 have n2 := numI_len (z := j.last) (by omega)
 refine Q.r ?_;(repeat (intro b1;refine Q.r ?_))
 refine Q.rd ?_;(repeat (intro b1;refine Q.rd ?_))
 refine D.e rfl rfl rfl ?_
 refine opsS_addr a2 (fun ha => ?_)
 refine S.appB (a := a1) (X := numI j.epoch) (Y := numI j.last) rfl rfl (RdS.own ha (by rw [List.length_map,Nat.mul_one])) (by omega) (fun a3 c3 => ?_)
 refine Q.r ?_;(repeat (intro b1;refine Q.r ?_))
 refine Q.rd ?_;(repeat (intro b1;refine Q.rd ?_))
 refine D.e rfl rfl rfl ?_
 refine S.cr rfl (RNum (ds.length : Int) _ (by omega) (by omega)) ?_
 rintro _ _ ⟨a4,c4,rfl,rfl⟩
 have n3 := numI_len (z := (ds.length : Int)) (by omega)
 have n12 : (numI j.epoch ++ numI j.last).length ≤ 20 := by rw [List.length_append];omega
 refine Q.r ?_;(repeat (intro b1;refine Q.r ?_))
 refine Q.rd ?_;(repeat (intro b1;refine Q.rd ?_))
 refine D.e rfl rfl rfl ?_
 refine opsS_addr a4 (fun ha => ?_)
 refine S.appB (a := a3) (X := numI j.epoch ++ numI j.last) (Y := numI (ds.length : Int)) rfl rfl (RdS.own ha (by rw [List.length_map,Nat.mul_one])) (by omega) (fun a5 c5 => ?_)
 have eW : numI j.epoch ++ numI j.last ++ numI (ds.length : Int) = packW j := by rw [hds];rfl
 rw [eW]
 have hWl : (packW j).length ≤ 30 := by rw [← eW,List.length_append];omega
 obtain ⟨W0,hW0⟩ : ∃ W0,W0 = packW j := ⟨_,rfl⟩
 rw [← hW0] at hWl ⊢
 refine Q.r ?_;(repeat (intro b1;refine Q.r ?_))
 refine Q.rd ?_;(repeat (intro b1;refine Q.rd ?_))
 refine Q.r ?_;(repeat (intro b1;refine Q.r ?_))
 refine swp_cutB (σ := Option Addr × Nat) (fun s => [(0,.pointer (some ⟨p,0,none⟩)),(3,.slice s.1 (W0 ++ ds.flatMap packD).length s.2)])
  (fun s => slB s.1 s.2 (W0 ++ ds.flatMap packD) :: rgP p j ta tc ts da dc ds :: roM M :: L) (fun _ => True) ?_ ?_
 ·refine swp_loop (σ := Nat × Option Addr × Nat) (fun s => [(0,.pointer (some ⟨p,0,none⟩)),(36,.slice da ds.length dc),(37,.int .i64 ds.length),(3,.slice s.2.1 (W0 ++ (ds.take s.1).flatMap packD).length s.2.2),(38,.int .i64 s.1)])
   (fun s => slB s.2.1 s.2.2 (W0 ++ (ds.take s.1).flatMap packD) :: rgP p j ta tc ts da dc ds :: roM M :: L) (fun s => s.1 ≤ ds.length) (fun s => ds.length - s.1) (0,a5,c5) ⟨rfl,rfl,rfl,by simp only [List.take_zero,List.flatMap_nil,List.append_nil];rfl,rfl,trivial⟩ (by simp only [List.take_zero,List.flatMap_nil,List.append_nil];exact Go.SX.Ent.go) (Nat.zero_le _) ?_
  rintro ⟨i,a6,c6⟩ hi
  dsimp only at hi ⊢
  by_cases hlt : i < ds.length
  ·obtain ⟨d,hd⟩ := mem_get hlt
   have hdm := hpb d (List.mem_of_getElem? hd)
   obtain ⟨bb,oo,hia,cr⟩ := SlM.cm (g := dC) (fun _ => rfl) hq.dS hd rfl
   have hXl : ((ds.take i).flatMap packD).length ≤ ds.length * 20 := take_le i hpd
   have hnx : (ds.take (i + 1)).flatMap packD = (ds.take i).flatMap packD ++ packD d := flat1 hd
   have hWX : (W0 ++ (ds.take i).flatMap packD).length ≤ 3000000 := by rw [List.length_append];omega
   have hWN : W0 ++ (ds.take (i + 1)).flatMap packD = W0 ++ (ds.take i).flatMap packD ++ numI d.1 ++ numI d.2 := by rw [hnx];simp [packD]
   generalize W0 ++ (ds.take i).flatMap packD = X at hWX hWN ⊢
   rw [hia]
   refine Q.r ?_;(repeat (intro b1;refine Q.r ?_))
   refine Q.dgo [true] [3,4,7,8] [] [0,1,2,5,6,3,4,7,8,9] ?_
   refine Q.rd ?_;(repeat (intro b1;refine Q.rd ?_))
   refine D.e rfl rfl rfl ?_
   refine S.cr rfl (RNum d.1 _ hdm.1 hdm.2.1) ?_
   rintro _ _ ⟨y1,cy1,rfl,rfl⟩
   have m1 := numI_len (z := d.1) hdm.2.1
   refine Q.r ?_;(repeat (intro b1;refine Q.r ?_))
   refine Q.rd ?_;(repeat (intro b1;refine Q.rd ?_))
   refine D.e rfl rfl rfl ?_
   refine opsS_addr y1 (fun ha => ?_)
   refine S.appB (a := a6) (X := X) (Y := numI d.1) rfl rfl (RdS.own ha (by rw [List.length_map,Nat.mul_one])) (by omega) (fun y2 cy2 => ?_)
   refine Q.r ?_;(repeat (intro b1;refine Q.r ?_))
   refine Q.rd ?_;(repeat (intro b1;refine Q.rd ?_))
   have m12 : (X ++ numI d.1).length ≤ 3000010 := by rw [List.length_append];omega
   refine D.e rfl rfl rfl ?_
   refine S.cr rfl (RNum d.2 _ hdm.2.2.1 hdm.2.2.2) ?_
   rintro _ _ ⟨y3,cy3,rfl,rfl⟩
   have m2 := numI_len (z := d.2) hdm.2.2.2
   refine Q.r ?_;(repeat (intro b1;refine Q.r ?_))
   refine Q.rd ?_;(repeat (intro b1;refine Q.rd ?_))
   refine D.e rfl rfl rfl ?_
   refine opsS_addr y3 (fun ha => ?_)
   refine S.appB (a := y2) (X := X ++ numI d.1) (Y := numI d.2) rfl rfl (RdS.own ha (by rw [List.length_map,Nat.mul_one])) (by omega) (fun y4 cy4 => ?_)
   refine Q.r ?_;(repeat (intro b1;refine Q.r ?_))
   refine Q.rd ?_;(repeat (intro b1;refine Q.rd ?_))
   rw [← hWN]
   refine Q.r ?_;(repeat (intro b1;refine Q.r ?_))
   rw [← hia]
   refine ⟨(i + 1,y4,cy4),⟨rfl,rfl,rfl,rfl,rfl,trivial⟩,by exact Go.SX.Ent.go,hlt,Nat.sub_succ_lt_self ds.length i hlt⟩
  ·have hie : i = ds.length := by omega
   rw [hie,List.take_length]
   refine Q.r ?_;(repeat (intro b1;refine Q.r ?_))
   exact ⟨(a6,c6),⟨rfl,rfl,trivial⟩,by exact Go.SX.Ent.go,trivial⟩
 rintro ⟨a7,c7⟩ _
 dsimp only
 have hW1 : (W0 ++ ds.flatMap packD).length ≤ 3000000 := by
  have h1 : (ds.flatMap packD).length ≤ ds.length * 20 := flat_le hpd
  rw [List.length_append];omega
 obtain ⟨W1,hW1e⟩ : ∃ W1,W1 = W0 ++ ds.flatMap packD := ⟨_,rfl⟩
 rw [← hW1e] at hW1 ⊢
 refine Q.r ?_;(repeat (intro b1;refine Q.r ?_))
 refine swp_cutB (σ := Option Addr × Nat) (fun s => [(3,.slice a7 W1.length c7),(6,.int .i64 (comL j).length),(7,.slice s.1 ((comL j).flatMap packT).length s.2)])
  (fun s => slB s.1 s.2 ((comL j).flatMap packT) :: slB a7 c7 W1 :: rgP p j ta tc ts da dc ds :: roM M :: L) (fun _ => True) ?_ ?_
 ·refine swp_loop (σ := Nat × Nat × Option Addr × Nat × List UInt8) (fun s => [(3,.slice a7 W1.length c7),(55,.slice ta ts.length tc),(56,.int .i64 ts.length),(6,.int .i64 s.2.1),(7,.slice s.2.2.1 s.2.2.2.2.length s.2.2.2.1),(57,.int .i64 s.1)])
   (fun s => slB s.2.2.1 s.2.2.2.1 s.2.2.2.2 :: slB a7 c7 W1 :: rgP p j ta tc ts da dc ds :: roM M :: L) (fun s => s.1 ≤ ts.length ∧ s.2.1 = (((ts.take s.1).map TV.abs).filter com0).length ∧ s.2.2.2.2 = (((ts.take s.1).map TV.abs).filter com0).flatMap packT ∧ s.2.1 ≤ s.1 ∧ s.2.2.2.2.length ≤ s.1 * 80) (fun s => ts.length - s.1) (0,0,none,0,[]) ⟨rfl,rfl,rfl,rfl,rfl,rfl,trivial⟩ (Ent.trans (slO_nil (t := 5) (sz := 1)) (by exact Go.SX.Ent.go)) ⟨Nat.zero_le _,rfl,rfl,Nat.le_refl _,Nat.zero_le _⟩ ?_
  rintro ⟨i,cn,a8,c8,X⟩ ⟨hi,hcn,hX,hcl,hXl⟩
  dsimp only at hi hcn hX hcl hXl ⊢
  by_cases hlt : i < ts.length
  ·obtain ⟨u,hu⟩ := mem_get hlt
   have hum := List.mem_of_getElem? hu
   have hlku := hq.has hG.kt hum
   have hok := hq.ok u hum
   have hWu := hG.lk hlku
   have hTu := hw.lk hlku
   have hx0 : 0 ≤ u.txn := hWu.x0
   have hx1 : u.txn ≤ 18446744073709551615 := hTu.x1
   have hb0 : 0 ≤ u.batch := hTu.b0
   have hb1 : u.batch ≤ 18446744073709551615 := hTu.b1
   have hs0 : 0 ≤ u.stamp := hWu.st
   have hs1 : u.stamp ≤ 1099511627776 := hTu.s1
   have hp4 : u.parts.length ≤ 4 := hWu.pl
   have hpq : ∀ q ∈ u.parts,0 ≤ q ∧ q < 16 := hWu.pb
   have hp80 : (packT u.abs).length ≤ 80 := packT_len hw hlku
   obtain ⟨bb,oo,hia,cr⟩ := SlM.cm (g := TV.cells) (fun _ => rfl) hq.tS hu rfl
   have hsn : ((ts.take (i + 1)).map TV.abs).filter com0 = ((ts.take i).map TV.abs).filter com0 ++ if 0 < u.stamp then [u.abs] else [] := by
    rw [take_snoc hu,List.map_append,List.filter_append,List.map_cons,List.map_nil,List.filter_cons,List.filter_nil]
    by_cases h : 0 < u.stamp
    ·rw [if_pos (by simpa [com0] using h),if_pos h]
    ·rw [if_neg (by simpa [com0] using h),if_neg h]
   rw [hia]
   by_cases hs : 0 < u.stamp
   ·rw [if_pos hs] at hsn
    refine Q.r ?_;(repeat (intro b1;refine Q.r ?_))
    refine Q.dgo [true] [3,4,7,8,11,12,17,18] [] [0,1,2,5,6,9,10,13,14,15,16,3,4,7,8,11,12,17,18,19] ?_
    refine Q.rd ?_;(repeat (intro b1;refine Q.rd ?_))
    refine D.y rfl rfl rfl (by kernel_rfl) (Y.cvi rfl) ?_
    rw [wrap_u64 (by omega) (by omega)]
    refine Q.rd ?_;(repeat (intro b1;refine Q.rd ?_))
    refine D.e rfl rfl rfl ?_
    refine S.cr rfl (RNum u.txn _ hx0 hx1) ?_
    rintro _ _ ⟨y1,cy1,rfl,rfl⟩
    have m1 := numI_len (z := u.txn) hx1
    refine Q.r ?_;(repeat (intro b1;refine Q.r ?_))
    refine Q.rd ?_;(repeat (intro b1;refine Q.rd ?_))
    refine D.e rfl rfl rfl ?_
    refine opsS_addr y1 (fun ha => ?_)
    refine S.appB (a := a8) (X := X) (Y := numI u.txn) rfl rfl (RdS.own ha (by rw [List.length_map,Nat.mul_one])) (by omega) (fun y2 cy2 => ?_)
    refine Q.r ?_;(repeat (intro b1;refine Q.r ?_))
    refine Q.rd ?_;(repeat (intro b1;refine Q.rd ?_))
    have m12 : (X ++ numI u.txn).length ≤ 8000020 := by rw [List.length_append];omega
    refine D.e rfl rfl rfl ?_
    refine S.cr rfl (RNum u.batch _ hb0 hb1) ?_
    rintro _ _ ⟨y3,cy3,rfl,rfl⟩
    have m2 := numI_len (z := u.batch) hb1
    refine Q.r ?_;(repeat (intro b1;refine Q.r ?_))
    refine Q.rd ?_;(repeat (intro b1;refine Q.rd ?_))
    refine D.e rfl rfl rfl ?_
    refine opsS_addr y3 (fun ha => ?_)
    refine S.appB (a := y2) (X := X ++ numI u.txn) (Y := numI u.batch) rfl rfl (RdS.own ha (by rw [List.length_map,Nat.mul_one])) (by omega) (fun y4 cy4 => ?_)
    refine Q.r ?_;(repeat (intro b1;refine Q.r ?_))
    refine Q.rd ?_;(repeat (intro b1;refine Q.rd ?_))
    have m13 : (X ++ numI u.txn ++ numI u.batch).length ≤ 8000030 := by rw [List.length_append];omega
    refine D.e rfl rfl rfl ?_
    refine S.cr rfl (RNum u.stamp _ hs0 (by omega)) ?_
    rintro _ _ ⟨y5,cy5,rfl,rfl⟩
    have m3 := numI_len (z := u.stamp) (by omega)
    refine Q.r ?_;(repeat (intro b1;refine Q.r ?_))
    refine Q.rd ?_;(repeat (intro b1;refine Q.rd ?_))
    refine D.e rfl rfl rfl ?_
    refine opsS_addr y5 (fun ha => ?_)
    refine S.appB (a := y4) (X := X ++ numI u.txn ++ numI u.batch) (Y := numI u.stamp) rfl rfl (RdS.own ha (by rw [List.length_map,Nat.mul_one])) (by omega) (fun y6 cy6 => ?_)
    refine Q.r ?_;(repeat (intro b1;refine Q.r ?_))
    refine Q.rd ?_;(repeat (intro b1;refine Q.rd ?_))
    have m14 : (X ++ numI u.txn ++ numI u.batch ++ numI u.stamp).length ≤ 8000040 := by rw [List.length_append];omega
    refine D.e rfl rfl rfl ?_
    refine S.cr rfl (RNum (u.parts.length : Int) _ (by omega) (by omega)) ?_
    rintro _ _ ⟨y7,cy7,rfl,rfl⟩
    have m4 := numI_len (z := (u.parts.length : Int)) (by omega)
    refine Q.r ?_;(repeat (intro b1;refine Q.r ?_))
    refine Q.rd ?_;(repeat (intro b1;refine Q.rd ?_))
    refine D.e rfl rfl rfl ?_
    refine opsS_addr y7 (fun ha => ?_)
    refine S.appB (a := y6) (X := X ++ numI u.txn ++ numI u.batch ++ numI u.stamp) (Y := numI (u.parts.length : Int)) rfl rfl (RdS.own ha (by rw [List.length_map,Nat.mul_one])) (by omega) (fun y8 cy8 => ?_)
    refine Q.r ?_;(repeat (intro b1;refine Q.r ?_))
    refine Q.rd ?_;(repeat (intro b1;refine Q.rd ?_))
    have m15 : (X ++ numI u.txn ++ numI u.batch ++ numI u.stamp ++ numI (u.parts.length : Int)).length ≤ 8000050 := by rw [List.length_append];omega
    have hYY : X ++ numI u.txn ++ numI u.batch ++ numI u.stamp ++ numI (u.parts.length : Int) ++ u.parts.flatMap numI = X ++ packT u.abs := by simp [packT]
    generalize X ++ numI u.txn ++ numI u.batch ++ numI u.stamp ++ numI (u.parts.length : Int) = Y0 at m15 hYY ⊢
    refine Q.r ?_;(repeat (intro b1;refine Q.r ?_))
    refine swp_loop (σ := Nat × Option Addr × Nat) (fun s => [(3,.slice a7 W1.length c7),(6,.int .i64 ((cn : Int) + 1)),(55,.slice (some ⟨bb,oo,none⟩) ts.length tc),(56,.int .i64 ts.length),(57,.int .i64 i),(86,.slice u.pa u.parts.length u.pc),(87,.int .i64 u.parts.length),(7,.slice s.2.1 (Y0 ++ (u.parts.take s.1).flatMap numI).length s.2.2),(88,.int .i64 s.1)])
     (fun s => slB s.2.1 s.2.2 (Y0 ++ (u.parts.take s.1).flatMap numI) :: slB a7 c7 W1 :: rgP p j ta tc ts da dc ds :: roM M :: L) (fun s => s.1 ≤ u.parts.length) (fun s => u.parts.length - s.1) (0,y8,cy8) ⟨rfl,rfl,rfl,rfl,rfl,rfl,rfl,by simp only [List.take_zero,List.flatMap_nil,List.append_nil];rfl,rfl,trivial⟩ (by simp only [List.take_zero,List.flatMap_nil,List.append_nil];rw [← hia];exact Go.SX.Ent.go) (Nat.zero_le _) ?_
    rintro ⟨m,a9,c9⟩ hm
    dsimp only at hm ⊢
    by_cases hmt : m < u.parts.length
    ·obtain ⟨q,hq1⟩ := mem_get hmt
     obtain ⟨bp,op,hpa,cp⟩ := SlM.cm1 (g := I64) hok.p hq1 rfl
     have hqb := hpq q (List.mem_of_getElem? hq1)
     have hZl : ((u.parts.take m).flatMap numI).length ≤ u.parts.length * 10 := take_le m fun q hq => numI_len (by have := hpq q hq;omega)
     have hnz : (u.parts.take (m + 1)).flatMap numI = (u.parts.take m).flatMap numI ++ numI q := flat1 hq1
     have hYZ : (Y0 ++ (u.parts.take m).flatMap numI).length ≤ 8000100 := by rw [List.length_append];omega
     have hYN : Y0 ++ (u.parts.take (m + 1)).flatMap numI = Y0 ++ (u.parts.take m).flatMap numI ++ numI q := by rw [hnz];simp
     generalize Y0 ++ (u.parts.take m).flatMap numI = Z at hYZ hYN ⊢
     rw [hpa]
     refine Q.r ?_;(repeat (intro b1;refine Q.r ?_))
     refine S.y (Y.cvi rfl) ?_
     rw [wrap_u64 (by omega) (by omega)]
     refine Q.r ?_;(repeat (intro b1;refine Q.r ?_))
     refine S.cr rfl (RNum q _ (by omega) (by omega)) ?_
     rintro _ _ ⟨z1,cz1,rfl,rfl⟩
     have m1 := numI_len (z := q) (by omega)
     refine Q.r ?_;(repeat (intro b1;refine Q.r ?_))
     refine opsS_addr z1 (fun ha => ?_)
     refine S.appB (a := a9) (X := Z) (Y := numI q) rfl rfl (RdS.own ha (by rw [List.length_map,Nat.mul_one])) (by omega) (fun z2 cz2 => ?_)
     rw [← hYN]
     refine Q.r ?_;(repeat (intro b1;refine Q.r ?_))
     refine ⟨(m + 1,z2,cz2),⟨rfl,rfl,rfl,rfl,rfl,by rw [← hpa];rfl,rfl,rfl,rfl,trivial⟩,by exact Go.SX.Ent.go,hmt,Nat.sub_succ_lt_self u.parts.length m hmt⟩
    ·have hme : m = u.parts.length := by omega
     rw [hme,List.take_length,hYY]
     refine Q.r ?_;(repeat (intro b1;refine Q.r ?_))
     rw [← hia]
     refine ⟨(i + 1,cn + 1,a9,c9,X ++ packT u.abs),⟨rfl,rfl,rfl,congrArg some (congrArg (Value.int .i64) (by simp)),rfl,rfl,trivial⟩,by exact Go.SX.Ent.go,⟨hlt,?_,?_,Nat.succ_le_succ hcl,?_⟩,Nat.sub_succ_lt_self ts.length i hlt⟩
     ·dsimp only;rw [hsn,List.length_append,← hcn];rfl
     ·dsimp only;rw [hsn,List.flatMap_append,← hX];simp
     ·dsimp only;rw [List.length_append];omega
   ·rw [if_neg hs,List.append_nil] at hsn
    refine Q.r ?_;(repeat (intro b1;refine Q.r ?_))
    rw [← hia]
    refine ⟨(i + 1,cn,a8,c8,X),⟨rfl,rfl,rfl,rfl,rfl,rfl,trivial⟩,by exact Go.SX.Ent.go,⟨hlt,by dsimp only;rw [hsn];exact hcn,by dsimp only;rw [hsn];exact hX,Nat.le_succ_of_le hcl,Nat.le_trans hXl (Nat.mul_le_mul_right 80 (Nat.le_succ i))⟩,Nat.sub_succ_lt_self ts.length i hlt⟩
  ·have hie : i = ts.length := by omega
   rw [hie,List.take_length,← hcm] at hcn hX
   subst hcn hX
   refine Q.r ?_;(repeat (intro b1;refine Q.r ?_))
   exact ⟨(a8,c8),⟨rfl,rfl,rfl,trivial⟩,by exact Go.SX.Ent.go,trivial⟩
 rintro ⟨a8,c8⟩ _
 dsimp only
 have hcb : (comL j).length ≤ 100000 := by
  rw [hcm];exact Nat.le_trans (List.length_filter_le _ _) (by rw [List.length_map];omega)
 have hcX : ((comL j).flatMap packT).length ≤ (comL j).length * 80 := flat_le fun t ht => packT_len hw (trs_mem hw (List.mem_filter.1 ht).1)
 have hpk : packG j = W1 ++ numI ((comL j).length : Int) ++ (comL j).flatMap packT := by
  unfold packG
  rw [← hW0,hdn,← hW1e]
 refine Q.r ?_;(repeat (intro b1;refine Q.r ?_))
 refine S.y (Y.cvi rfl) ?_
 rw [wrap_u64 (by omega) (by omega)]
 refine Q.r ?_;(repeat (intro b1;refine Q.r ?_))
 refine S.cr rfl (RNum ((comL j).length : Int) _ (by omega) (by omega)) ?_
 rintro _ _ ⟨z1,cz1,rfl,rfl⟩
 have m1 := numI_len (z := ((comL j).length : Int)) (by omega)
 refine Q.r ?_;(repeat (intro b1;refine Q.r ?_))
 refine opsS_addr z1 (fun ha => ?_)
 refine S.appB (a := a7) (X := W1) (Y := numI ((comL j).length : Int)) rfl rfl (RdS.own ha (by rw [List.length_map,Nat.mul_one])) (by omega) (fun z2 cz2 => ?_)
 have m2 : (W1 ++ numI ((comL j).length : Int)).length ≤ 3000010 := by rw [List.length_append];omega
 refine Q.r ?_;(repeat (intro b1;refine Q.r ?_))
 refine opsS_addr a8 (fun ha => ?_)
 refine S.appB (a := z2) (X := W1 ++ numI ((comL j).length : Int)) (Y := (comL j).flatMap packT) rfl rfl (RdS.own ha (by rw [List.length_map,Nat.mul_one])) (by omega) (fun z3 cz3 => ?_)
 rw [← hpk]
 refine Q.r ?_;(repeat (intro b1;refine Q.r ?_))
 refine N.r1 (RV.tmp rfl RV.nil) (Ent.trans (rgclose (p := p) (dc := dc) hq) ?_) ⟨z3,cz3,rfl,rfl⟩
 exact Go.SX.Ent.go
theorem Lints_spec (a : Option Addr) (c : Nat) (xs : List Int) (a' : Option Addr) (c' : Nat) (A : List HP) (h : RdS A a xs.length 1 (xs.map I64)) (h' : RdS A a' xs.length 1 (xs.map I64)) (hn : xs.length ≤ 1000000) :
  CallsS Tryz.prog 60 [.slice a xs.length c,.slice a' xs.length c'] A (fun v L' => v = .bool true ∧ L' = A) := by
 rw [← flat_I64] at h h'
 refine CallsS.of_body Tryz.func60 rfl rfl rfl ?_
 refine Q.r ?_;(repeat (intro b1;refine Q.r ?_))
 refine swp_loop (σ := Nat) (fun k => [(0,.slice a xs.length c),(1,.slice a' xs.length c'),(12,.int .i64 xs.length),(13,.int .i64 k)]) (fun _ => A)
  (fun k => k ≤ xs.length) (fun k => xs.length - k) 0 ⟨rfl,rfl,rfl,rfl,trivial⟩ (Ent.refl _) (Nat.zero_le _) ?_
 intro k hk
 by_cases hlt : k < xs.length
 ·obtain ⟨q,hq⟩ := mem_get hlt
  obtain ⟨b,oo,hia,hr⟩ := RdS.elem (g := fun z : Int => [I64 z]) (fun _ => rfl) h hq rfl
  obtain ⟨b',oo',hia',hr'⟩ := RdS.elem (g := fun z : Int => [I64 z]) (fun _ => rfl) h' hq rfl
  rw [hia,hia']
  refine Q.r ?_;(repeat (intro b1;refine Q.r ?_))
  refine D.start [] [] [0,1,2,3,4,5,6,7,8] _ [] rfl (by kernel_rfl) rfl (by kernel_rfl) NoPanic.no (Ent.refl _) ?_
  refine Q.rd ?_;(repeat (intro b1;refine Q.rd ?_))
  refine Q.r ?_;(repeat (intro b1;refine Q.r ?_))
  exact ⟨k + 1,⟨rfl,rfl,rfl,rfl,trivial⟩,Ent.refl _,hlt,Nat.sub_succ_lt_self xs.length k hlt⟩
 ·have hke : k = xs.length := by omega
  subst hke
  refine Q.r ?_;(repeat (intro b1;refine Q.r ?_))
  exact N.r1 (RV.tmp rfl RV.nil) (Ent.refl _) ⟨rfl,rfl⟩
theorem packG_len {j : JG} (hw : WN j) (htl : j.tr.length ≤ 100000) (hdl : j.done.length ≤ 100000) : (packG j).length ≤ 20000000 := by
 have e1 := hw.g.b.e1
 have l1 := hw.g.b.l1
 have hdnl : (dnL j).length = j.done.length := by unfold dnL;rw [List.length_map,sortL_len,List.length_map]
 have h1 := numI_len (z := j.epoch) (by omega)
 have h2 := numI_len (z := j.last) (by omega)
 have h3 := numI_len (z := (j.done.length : Int)) (by omega)
 have hcl : (comL j).length ≤ j.tr.length := by
  unfold comL
  refine Nat.le_trans (List.length_filter_le _ _) ?_
  rw [(trsL_perm hw.g.kt).length_eq,List.length_map];exact Nat.le_refl _
 have h4 := numI_len (z := ((comL j).length : Int)) (by omega)
 have h5 : ((dnL j).flatMap packD).length ≤ (dnL j).length * 20 := flat_le fun d hd => by
  obtain ⟨b,hb,rfl⟩ := List.mem_map.1 hd
  obtain ⟨s,hs⟩ := dn_lk hb hw.g.kd
  have hm := hw.d _ (lk_memL hs)
  refine packD_len hm.2.1 ?_
  dsimp only
  rw [hs]
  show s ≤ _
  have := hm.2.2
  dsimp only at this
  omega
 have h6 : ((comL j).flatMap packT).length ≤ (comL j).length * 80 := flat_le fun t ht => packT_len hw (trs_mem hw (List.mem_filter.1 ht).1)
 unfold packG packW
 simp only [List.length_append]
 omega
theorem quit_mails {j : JG} (hw : WN j) : (quitG j).mail.length ≤ j.tr.length * 5 := by
 have h1 := (quit_ok hw).2.1
 rw [cnt_quit] at h1
 rw [sum_quit]
 have key : ∀ l : List TR,(∀ t ∈ l,t.parts.length ≤ 4) → sumQ l ≤ cntQ l * 5 := by
  intro l
  induction l with
  | nil => exact fun _ => Nat.le_refl _
  | cons t l ih =>
   intro hl
   have ih := ih fun u hu => hl u (List.mem_cons_of_mem _ hu)
   have := hl t List.mem_cons_self
   unfold sumQ cntQ at *
   rw [List.filter_cons]
   split
   ·rw [List.map_cons,List.sum_cons,List.length_cons];omega
   ·exact ih
 have := key (trialsG j) fun t ht => by
  rw [trialsL] at ht
  obtain ⟨w,hw',rfl⟩ := List.mem_map.1 ht
  exact (hw.g.lk (trs_mem hw hw')).pl
 omega
theorem wake_ok {j : JG} (hw : WN j) (s1 : 1 ≤ j.shards) (s2 : j.shards ≤ 4) : (∀ m ∈ wakeG j,OkA m.2) ∧ ((j.tr.length ≤ 1000) → (wakeG j).length ≤ 1000000) := by
 have e : wakeG j = (trsL j).flatMap (wakeT j.shards) := rfl
 rw [e]
 constructor
 ·intro m hm
  obtain ⟨t,ht,hm⟩ := List.mem_flatMap.1 hm
  obtain ⟨q,_,hm⟩ := List.mem_flatMap.1 hm
  have hlk := trs_mem hw ht
  have hW := hw.g.lk hlk
  have hT := hw.lk hlk
  unfold wakeQ at hm
  split at hm
  ·rw [List.mem_singleton.1 hm]
   exact prep_ok (by have := hW.pl;omega) (by have := hW.ol;omega) fun o ho => Nat.le_trans (hT.ov o ho) (by decide)
  split at hm
  ·rw [List.mem_singleton.1 hm];exact OkA.bare (Nat.zero_le _) rfl rfl rfl
  ·cases hm
 ·intro hl
  have key : ∀ l : List TR,(∀ t ∈ l,t.parts.length ≤ 4) → (l.flatMap (wakeT j.shards)).length ≤ l.length * 4 := by
   intro l
   induction l with
   | nil => exact fun _ => Nat.le_refl _
   | cons t l ih =>
    intro hl
    have ih := ih fun u hu => hl u (List.mem_cons_of_mem _ hu)
    have h4 := hl t List.mem_cons_self
    have hq : ∀ ps : List Int,(ps.flatMap (wakeQ j.shards t)).length ≤ ps.length := by
     intro ps
     induction ps with
     | nil => exact Nat.le_refl _
     | cons q ps ih2 =>
      rw [List.flatMap_cons,List.length_append,List.length_cons]
      have : (wakeQ j.shards t q).length ≤ 1 := by
       unfold wakeQ
       split
       ·exact Nat.le_refl _
       split
       ·exact Nat.le_refl _
       ·exact Nat.zero_le _
      omega
    have h5 : (wakeT j.shards t).length ≤ t.parts.length := hq t.parts
    rw [List.flatMap_cons,List.length_append,List.length_cons]
    omega
  have h1 := key (trsL j) fun t ht => (hw.g.lk (trs_mem hw ht)).pl
  rw [(trsL_perm hw.g.kt).length_eq,List.length_map] at h1
  omega
set_option maxHeartbeats 8000000 in
theorem Lsame_spec (p x : Nat) (j : JG) (b : Int) (M : Nat → Option Obj) (L : List HP) (hw : WN j) (s1 : 1 ≤ j.shards) (s2 : j.shards ≤ 4) (htl : j.tr.length ≤ 1000) (hdl : j.done.length ≤ 100000) :
  CallsS Tryz.prog 18 [ptrG p,.pointer (some ⟨x,0,none⟩),.int .u64 b] (jdgH M p j :: rgH M x j :: roM M :: L) (fun r L' => ∃ M',r = .bool true ∧ leM M M' ∧ L' = jdgH M' p j :: rgH M' x j :: roM M' :: L) := by
 have hG := hw.g
 have hqo := quit_ok hw
 have hqm := quit_mails hw
 have hwo := wake_ok hw s1 s2
 refine CallsS.of_body Tryz.func18 rfl rfl rfl ?_
 refine Q.r ?_;(repeat (intro b1;refine Q.r ?_))
 refine S.cg p rfl (GPack_spec M p j _ hw (by omega) (by omega)) ?_
 rintro _ _ ⟨a1,c1,M1,rfl,hl1,rfl⟩
 refine opsS_rgm x hl1 ?_
 refine Q.r ?_;(repeat (intro b1;refine Q.r ?_))
 refine S.crg x rfl (RgPack_spec M1 x j _ hw (by omega) (by omega)) ?_
 rintro _ _ ⟨a2,c2,rfl,rfl⟩
 have hpl := packG_len hw (by omega) (by omega)
 refine Q.r ?_;(repeat (intro b1;refine Q.r ?_))
 refine opsS_abs a1 (fun M2 hl2 hs2 => ?_)
 refine opsS_abs a2 (fun M3 hl3 hs3 => ?_)
 refine opsS_gm p (hl2.trans hl3) ?_
 refine opsS_rgm x (hl2.trans hl3) ?_
 refine S.cr rfl (RSameB_spec a1 a2 c1 c2 (packG j) (packG j) _ (hs2.mono hl3).rd hs3.rd) ?_
 rintro _ _ ⟨rfl,rfl⟩
 rw [decide_eq_true rfl]
 refine Q.r ?_;(repeat (intro b1;refine Q.r ?_))
 refine S.cg p rfl (GWake_spec M3 p j _ hG (by omega)) ?_
 rintro _ _ ⟨a4,c4,ms,M4,rfl,hl4,hmo,hms,rfl⟩
 refine opsS_abs a4 (fun M5 hl5 hs5 => ?_)
 refine opsS_gm p hl5 ?_
 refine opsS_rgm x (hl4.trans hl5) ?_
 have hml : ms.length ≤ 1000000 := by rw [map_len hms];exact hwo.2 htl
 refine Q.r ?_;(repeat (intro b1;refine Q.r ?_))
 refine S.cr rfl (Lmail_spec a4 c4 ms _ hs5.rd hml) ?_
 rintro _ _ ⟨a6,c6,rfl,rfl⟩
 refine opsS_abs a6 (fun M6 hl6 hs6 => ?_)
 refine opsS_gm p hl6 ?_
 refine opsS_rgm x hl6 ?_
 refine Q.r ?_;(repeat (intro b1;refine Q.r ?_))
 refine S.crg x rfl (RgWake_spec M6 x j _ hw (by omega)) ?_
 rintro _ _ ⟨a7,c7,ms2,M7,rfl,hl7,hmo2,hms2,rfl⟩
 refine opsS_abs a7 (fun M8 hl8 hs8 => ?_)
 refine opsS_rgm x hl8 ?_
 refine opsS_gm p (hl7.trans hl8) ?_
 refine Q.r ?_;(repeat (intro b1;refine Q.r ?_))
 have h58 := hl5.trans (hl6.trans (hl7.trans hl8))
 refine S.cr rfl (SameMail_spec a6 c6 ms a7 c7 ms2 _ (okMs.rdM (M := M8) ⟨hs6.mono (hl7.trans hl8),fun n hn => (hmo n hn).mono h58⟩ (okAm_of hms hwo.1)) (okMs.rdM (M := M8) ⟨hs8,fun n hn => (hmo2 n hn).mono hl8⟩ (okAm_of hms2 hwo.1)) hml (hms.trans hms2.symm)) ?_
 rintro _ _ ⟨rfl,rfl⟩
 refine Q.r ?_;(repeat (intro b1;refine Q.r ?_))
 refine S.cg p rfl ((GQuit_spec M8 p j _ hG (by omega)).post fun _ _ h => planGR.of0 h) ?_
 rintro _ _ ⟨b1',d1,rs,b2',d2,ns,b3',d3,ms3,b4',d4,is,b5',d5,es,M9,rfl,hl9,⟨o1,o2,o3,o4,o5⟩,⟨q1,q2,q3,q4,q5⟩,rfl⟩
 refine opsS_rgm x hl9 ?_
 have hp5 : P5 M9 (quitG j) b1' rs b2' ns b3' ms3 b4' is b5' es := ⟨o1,o2,o3,o4,o5,q1,q2,q3,q4,q5⟩
 have l1 : rs.length = 0 := map_len q1
 have l2 : ns.length ≤ 1000 := by rw [map_len q2];omega
 have l3 : ms3.length ≤ 1000000 := by rw [map_len q3];omega
 have l4 : is.length = 0 := map_len q4
 have l5 : es.length = 0 := map_len q5
 refine Q.r ?_;(repeat (intro b1;refine Q.r ?_))
 refine S.cmG (args := [lP5 b1' d1 rs.length b2' d2 ns.length b3' d3 ms3.length b4' d4 is.length b5' d5 es.length]) rfl (Lplan_spec b1' d1 rs b2' d2 ns b3' d3 ms3 b4' d4 is b5' d5 es M9 _ hp5.r hp5.n hp5.m hp5.i hp5.e (by omega) (by omega) (by omega) (by omega) (by omega)) ?_
 rintro _ _ ⟨g1,h1,g2,h2,g3,h3,g4,h4,g5,h5,rfl,rfl⟩
 refine opsS_abs g1 (fun N1 k1 z1 => ?_)
 refine opsS_abs g2 (fun N2 k2 z2 => ?_)
 refine opsS_abs g3 (fun N3 k3 z3 => ?_)
 refine opsS_abs g4 (fun N4 k4 z4 => ?_)
 refine opsS_abs g5 (fun N5 k5 z5 => ?_)
 have k45 := k5
 have k35 := k4.trans k45
 have k25 := k3.trans k35
 have k15 := k2.trans k25
 have k05 := k1.trans k15
 refine opsS_gm p k05 ?_
 refine opsS_rgm x k05 ?_
 have hq5 : P5 N5 (quitG j) g1 rs g2 ns g3 ms3 g4 is g5 es := ⟨⟨z1.mono k15,fun n hn => (hp5.r.2 n hn).mono k05⟩,⟨z2.mono k25,fun n hn => (hp5.n.2 n hn).mono k05⟩,⟨z3.mono k35,fun n hn => (hp5.m.2 n hn).mono k05⟩,⟨z4.mono k45,fun n hn => (hp5.i.2 n hn).mono k05⟩,⟨z5,fun n hn => (hp5.e.2 n hn).mono k05⟩,hp5.er,hp5.en,hp5.em,hp5.ei,hp5.ee⟩
 refine Q.r ?_;(repeat (intro b1;refine Q.r ?_))
 refine S.crg x rfl ((RgQuit_spec N5 x j _ hw (by omega)).post fun _ _ h => planRG.of0 h) ?_
 rintro _ _ ⟨f1,e1,rs2,f2,e2,ns2,f3,e3,ms4,f4,e4,is2,f5,e5,es2,N6,rfl,k6,⟨o1',o2',o3',o4',o5'⟩,⟨q1',q2',q3',q4',q5'⟩,rfl⟩
 refine opsS_gm p k6 ?_
 have hr5 : P5 N6 (quitG j) f1 rs2 f2 ns2 f3 ms4 f4 is2 f5 es2 := ⟨o1',o2',o3',o4',o5',q1',q2',q3',q4',q5'⟩
 have hpn : PN (quitG j) := ⟨fun _ h => (by cases h),hqo.1,fun _ h => (by cases h),hqo.2.2,fun _ h => (by cases h)⟩
 refine Q.r ?_;(repeat (intro b1;refine Q.r ?_))
 refine S.cmG (args := [lP5 g1 h1 rs.length g2 h2 ns.length g3 h3 ms3.length g4 h4 is.length g5 h5 es.length,lP5 f1 e1 rs2.length f2 e2 ns2.length f3 e3 ms4.length f4 e4 is2.length f5 e5 es2.length]) rfl (SamePlan15_spec g1 h1 rs g2 h2 ns g3 h3 ms3 g4 h4 is g5 h5 es f1 e1 rs2 f2 e2 ns2 f3 e3 ms4 f4 e4 is2 f5 e5 es2 N6 (quitG j) _ (hq5.mono k6) hr5 hpn ⟨Nat.zero_le _,by have := hqo.2.1;omega,by omega,Nat.zero_le _,Nat.zero_le _⟩) ?_
 rintro _ _ ⟨rfl,rfl⟩
 refine Q.r ?_;(repeat (intro b1;refine Q.r ?_))
 refine S.cg p rfl (GTrials_spec N6 p j _ hG (by omega)) ?_
 rintro _ _ ⟨a9,c9,us,N7,rfl,k7,huo,hus,rfl⟩
 refine opsS_abs a9 (fun N8 k8 z8 => ?_)
 refine opsS_gm p k8 ?_
 refine opsS_rgm x (k7.trans k8) ?_
 refine Q.r ?_;(repeat (intro b1;refine Q.r ?_))
 refine S.cgn p rfl (GDone_spec N8 p j b _) ?_
 rintro _ _ ⟨rfl,rfl⟩
 have hdone : (lkL j.done b).isSome = decide (0 < (lkL j.done b).getD 0) := by
  cases hz : lkL j.done b with
  | none => rfl
  | some s => exact (decide_eq_true (hG.dp _ (lk_memL hz))).symm
 rw [hdone]
 refine Q.r ?_;(repeat (intro b1;refine Q.r ?_))
 refine swp_rg x (fun ta tc ts da dc ds hq => ?_)
 have hut : us.length = ts.length := by rw [map_len hus,trials_len hG.kt,hq.len]
 have htsl : ts.length ≤ 1000 := by rw [hq.len];exact htl
 refine Q.dgo [true] [10,19,30] [] [0,1,2,3,4,5,6,7,8,9,11,12,13,14,10,15,16,17,18,20,21,22,23,19,24,25,26,27,28,29,30,31,32,33,34,35,36,37,38] ?_
 refine Q.rd ?_;(repeat (intro b1;refine Q.rd ?_))
 refine D.e rfl rfl rfl ?_
 refine S.guard rfl ?_
 refine S.cgn p rfl (GEpoch_spec N8 p j _) ?_
 rintro _ _ ⟨rfl,rfl⟩
 refine Q.r ?_;(repeat (intro b1;refine Q.r ?_))
 refine Q.rd ?_;(repeat (intro b1;refine Q.rd ?_))
 refine Q.dF rfl rfl rfl ?_ (by simp)
 refine Q.rd ?_;(repeat (intro b1;refine Q.rd ?_))
 refine D.e rfl rfl rfl ?_
 refine S.guard rfl ?_
 refine S.cgn p rfl (GLast_spec N8 p j _) ?_
 rintro _ _ ⟨rfl,rfl⟩
 refine Q.r ?_;(repeat (intro b1;refine Q.r ?_))
 refine Q.rd ?_;(repeat (intro b1;refine Q.rd ?_))
 refine Q.dF rfl rfl rfl ?_ (by simp)
 refine Q.rd ?_;(repeat (intro b1;refine Q.rd ?_))
 refine D.ea rfl rfl rfl ?_
 refine S.guard rfl ?_
 refine S.c2 (A := rgP x j ta tc ts da dc ds) (B := roM N8) rfl (RCommitted_spec x j ta tc ts da dc ds b N8 _ hq.dS (by rw [hq.dlen];omega)) ?_
 rintro _ _ ⟨rfl,rfl⟩
 rw [lkL_perm hG.kd hq.dp]
 refine opsS_nil ?_;refine N.tn ?_;refine D.back ?_
 refine Q.rd ?_;(repeat (intro b1;refine Q.rd ?_))
 refine Q.dF rfl rfl rfl ?_ (by simp)
 refine Q.rd ?_;(repeat (intro b1;refine Q.rd ?_))
 refine Q.r ?_;(repeat (intro b1;refine Q.r ?_))
 have htr : us.map TV.abs = (ts.map TV.abs).map bareT := by rw [hus,trialsL,hq.trs hG.kt]
 refine swp_cutB (σ := Unit) (fun _ => []) (fun _ => rgP x j ta tc ts da dc ds :: roM N8 :: jdgH N8 p j :: L) (fun _ => True) ?_ ?_
 ·refine swp_loop (σ := Nat) (fun i => [(1,.pointer (some ⟨x,0,none⟩)),(105,.slice a9 us.length c9),(106,.int .i64 us.length),(107,.int .i64 i)]) (fun _ => rgP x j ta tc ts da dc ds :: roM N8 :: jdgH N8 p j :: L) (fun i => i ≤ us.length) (fun i => us.length - i) 0 ⟨rfl,rfl,rfl,rfl,trivial⟩ (by exact Go.SX.Ent.go) (Nat.zero_le _) ?_
  intro i hi
  by_cases hlt : i < us.length
  ·obtain ⟨u,hu⟩ := mem_get hlt
   obtain ⟨t,ht⟩ := mem_get (l := ts) (k := i) (by omega)
   have hok1 := (huo u (List.mem_of_getElem? hu)).mono k8
   have hok2 := hq.ok t (List.mem_of_getElem? ht)
   have he : u.abs = bareT t.abs := by
    have h1 := congrArg (fun l => l[i]?) htr
    rw [List.map_map,List.getElem?_map,List.getElem?_map,hu,ht] at h1
    exact Option.some.inj h1
   obtain ⟨b5,o5,hia,cr⟩ := SlM.cm (g := TV.c8) (fun _ => rfl) z8 hu rfl
   obtain ⟨b6,o6,hib,cr2⟩ := SlM.cm (g := TV.cells) (fun _ => rfl) hq.tS ht rfl
   have hiw : i < ts.length := by omega
   clear hu ht htr
   obtain ⟨x1,x2,x3,x4,x5,pa1,pc1,x6,ya1,yc1,x7,ka1,kc1,x8,oa1,oc1,x9⟩ := u
   obtain ⟨w1,w2,w3,w4,w5,pa2,pc2,w6,ya2,yc2,w7,ka2,kc2,w8,oa2,oc2,w9⟩ := t
   unfold bareT TV.abs at he
   simp only [TR.mk.injEq] at he
   obtain ⟨rfl,rfl,rfl,rfl,rfl,rfl,rfl,rfl,_⟩ := he
   have p1 := hok1.p
   have p2 := hok2.p
   have y1 := hok1.y
   have y2 := hok2.y
   have k1' := hok1.k
   have k2' := hok2.k
   have g1' := hok1.pl
   have g2' := hok1.yl
   have g3' := hok1.kl
   dsimp only at p1 p2 y1 y2 k1' k2' g1' g2' g3'
   rw [hia,hib]
   refine Q.r ?_;(repeat (intro b1;refine Q.r ?_))
   refine S.cr rfl (Lints_spec pa1 pc1 x6 pa2 pc2 _ p1.rd p2.rd g1') ?_
   rintro _ _ ⟨rfl,rfl⟩
   refine Q.r ?_;(repeat (intro b1;refine Q.r ?_))
   refine S.cr rfl (Lints_spec ya1 yc1 x7 ya2 yc2 _ y1.rd y2.rd g2') ?_
   rintro _ _ ⟨rfl,rfl⟩
   refine Q.r ?_;(repeat (intro b1;refine Q.r ?_))
   refine S.cr rfl (Lints_spec ka1 kc1 x8 ka2 kc2 _ k1'.rd k2'.rd g3') ?_
   rintro _ _ ⟨rfl,rfl⟩
   refine Q.r ?_;(repeat (intro b1;refine Q.r ?_))
   rw [← hia,← hib]
   exact ⟨i + 1,⟨rfl,rfl,rfl,rfl,trivial⟩,by exact Go.SX.Ent.go,hlt,Nat.sub_succ_lt_self us.length i hlt⟩
  ·have hie : i = us.length := by omega
   subst hie
   refine Q.r ?_;(repeat (intro b1;refine Q.r ?_))
   exact ⟨(),trivial,by exact Go.SX.Ent.go,trivial⟩
 rintro _ _
 refine Q.r ?_;(repeat (intro b1;refine Q.r ?_))
 refine N.r1 (RV.tmp rfl RV.nil) (Ent.trans (rgclose (p := x) (dc := dc) hq) ?_) ⟨N8,rfl,hl1.trans (hl2.trans (hl3.trans (hl4.trans (h58.trans (hl9.trans (k05.trans (k6.trans (k7.trans k8)))))))),rfl⟩
 exact Go.SX.Ent.go
end Go.Proofs.YtiampehfpgcogaaGreatDoor
