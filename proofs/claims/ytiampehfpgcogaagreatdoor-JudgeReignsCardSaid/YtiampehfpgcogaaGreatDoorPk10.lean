/- The law's step, of the judge and of the document's. What a script does to a judge; giving up. The law: what is given up is told to each part and to who asked, and is no trial any more; what is committed isn't given up. The scroll's reader: peek, take, step, Num, Left, End, NewReader. slices.Equal of bytes; what is read back of a number's bytes. The judge: Wake. The judge: Pack. The judge's Unpack: what it reads; how it reads a stamp. What Unpack reads: bounds. No condition. -/
import Derived.Laws.MakeOwn
import Derived.Test.YtiampehfpgcogaaGreatDoorPk09
set_option linter.unusedVariables false
set_option linter.unusedSimpArgs false
set_option linter.unusedSectionVars false
namespace Go.Proofs.YtiampehfpgcogaaGreatDoor
open Go Go.SX
attribute [local irreducible] swp opsS thenS blockS retS CallsS St Ent YieldS anyS drawS
structure S7 where
 b9 : Nat
 b10 : Nat
 a1 : Option Addr
 c1 : Nat
 rs : List NV
 a2 : Option Addr
 c2 : Nat
 ns : List NV
 a3 : Option Addr
 c3 : Nat
 ms : List (Int × NV)
 a4 : Option Addr
 c4 : Nat
 is : List NV
 a5 : Option Addr
 c5 : Nat
 es : List (Int × NV)
 f1 : Option Addr
 d1 : Nat
 rs2 : List NV
 f2 : Option Addr
 d2 : Nat
 ns2 : List NV
 f3 : Option Addr
 d3 : Nat
 ms2 : List (Int × NV)
 f4 : Option Addr
 d4 : Nat
 is2 : List NV
 f5 : Option Addr
 d5 : Nat
 es2 : List (Int × NV)
 M : Nat → Option Obj
theorem Y.fld {P : Program} {n : Nat} {ops : List Oper} {f : Env} {A : List HP} {d : Tmp} {ty : TypeId} {pos : String} {af : Array Edge} {x : Operand} {t : TypeId} {k off sz : Nat} {fs : List (Nat × Nat × Bool)} {vs : Array Value} {v : Value} [h : StTy P t fs] (hx : ev f x = some (.agg vs)) (hf : fs[k]? = some (off,sz,false)) (hk : vs.toList[off]? = some v) : YieldS P n ops ⟨some d,.field t x k,ty,pos,af,none⟩ f A v := by
 obtain ⟨fields,hu,_,hfs⟩ := h.und
 obtain ⟨fld,h1,h2,h3,h4⟩ := hfs k off sz false hf
 refine Y.of (fun a w s => ?_)
 have hv' : vs[off]? = some v := by simpa using hk
 simp [execOp,s.eval hx,Instr.field,asAgg,part,hv',hu,h1,h2,h4]
theorem els_len {j : JG} (hW : WG j) (fr : Int) (n : NA) : (planG j fr n).els.length ≤ 5 := by
 unfold planG
 split
 ·exact Nat.zero_le _
 split
 ·unfold askG
  split
  ·exact Nat.zero_le _
  ·split
   ·exact Nat.zero_le _
   ·split <;> exact Nat.zero_le _
 split
 ·unfold voteG
  split
  ·exact Nat.zero_le _
  ·rename_i t ht
   split
   ·exact Nat.zero_le _
   split
   ·exact Nat.zero_le _
   split
   ·exact Nat.zero_le _
   split
   ·exact Nat.zero_le _
   ·have := (hW.lk ht).pl
    rw [toldM_len];omega
 split
 ·unfold ackG
  split
  ·exact Nat.zero_le _
  ·split
   ·exact Nat.zero_le _
   ·split <;> exact Nat.zero_le _
 split
 ·unfold probeG
  split
  ·exact Nat.zero_le _
  ·split <;> exact Nat.zero_le _
 ·exact Nat.zero_le _
theorem NumA.fewL {n' : NV} {n : NV} (h : NumA n.abs) (e : n'.abs = n.abs.few) : NumA n'.abs := by
 rw [e];exact ⟨h.kind,h.txn,h.batch,h.stamp,h.after,h.mark,h.query,h.id,h.k,h.ef,h.code,h.who⟩
theorem few_num {n : NA} (h : NumA n) : NumA n.few := ⟨h.kind,h.txn,h.batch,h.stamp,h.after,h.mark,h.query,h.id,h.k,h.ef,h.code,h.who⟩
theorem map_len {α β : Type} {f : α → β} {l : List α} {m : List β} (h : l.map f = m) : l.length = m.length := by rw [← h,List.length_map]
abbrev p50 (b : Nat) (a1 : Option Addr) (c1 n1 : Nat) (a2 : Option Addr) (c2 n2 : Nat) (a3 : Option Addr) (c3 n3 : Nat) (a4 : Option Addr) (c4 n4 : Nat) (a5 : Option Addr) (c5 n5 : Nat) : HP := pt b (cl [.slice a1 n1 c1,.slice a2 n2 c2,.slice a3 n3 c3,.slice a4 n4 c4,.slice a5 n5 c5] 50)
abbrev p88 (b : Nat) (a1 : Option Addr) (c1 n1 : Nat) (a2 : Option Addr) (c2 n2 : Nat) (a3 : Option Addr) (c3 n3 : Nat) (a4 : Option Addr) (c4 n4 : Nat) (a5 : Option Addr) (c5 n5 : Nat) : HP := pt b (cl [.slice a1 n1 c1,.slice a2 n2 c2,.slice a3 n3 c3,.slice a4 n4 c4,.slice a5 n5 c5] 88)
set_option maxHeartbeats 8000000 in
theorem Lstep_spec (o : GO) (p x : Nat) (j : JG) (M : Nat → Option Obj) (L : List HP) (hw : WN j) (s1 : 1 ≤ j.shards) (s2 : j.shards ≤ 4) (htl : j.tr.length ≤ 40000) (hdl : j.done.length ≤ 40000) (ho : GOK M o) (hT : TabM M) :
  CallsS Tryz.prog 10 [ptrG p,.pointer (some ⟨x,0,none⟩),.agg o.cells.toArray] (jdgH M p j :: rgH M x j :: roM M :: L) (fun r L' => ∃ M',r = .bool true ∧ leM M M' ∧ L' = jdgH M' p (stepG j o.d o.fr o.n.abs.few o.w) :: rgH M' x (stepG j o.d o.fr o.n.abs.few o.w) :: roM M' :: L) := by
 have hb := hw.g.b
 refine CallsS.of_body Tryz.func10 rfl rfl rfl ?_
 refine Q.r ?_;(repeat (intro b1;refine Q.r ?_))
 revert b1
 intro bo
 refine S.cmG (args := [o.n.val]) rfl (NFew_spec o.n M _ ho.n ho.c) ?_
 rintro _ _ ⟨n1,M1,rfl,hl1,hn1,hc1,hoc1,he1,rfl⟩
 have hN1 := few_OkN he1
 have hua1 : NumA n1.abs := NumA.fewL ho.uu he1
 refine opsS_gm p hl1 ?_
 refine opsS_rgm x hl1 ?_
 refine Q.r ?_;(repeat (intro b1;refine Q.r ?_))
 revert b1
 intro b7
 refine S.cmG (args := [n1.val]) rfl (NFew_spec n1 M1 _ hn1 hc1) ?_
 rintro _ _ ⟨n2,M2,rfl,hl2,hn2,hc2,hoc2,he2,rfl⟩
 have he21 : n2.abs = n1.abs := by rw [he2,he1,few_few]
 have e2 : n2.abs = o.n.abs.few := by rw [he21,he1]
 have hN2 := few_OkN he2
 have hua2 : NumA n2.abs := by rw [he21];exact hua1
 have hu2 : NumN n2 := hua2.nv
 have hM2 := hl1.trans hl2
 have hT2 := hT.mono hM2
 have hufew : NumA o.n.abs.few := few_num ho.uu
 refine opsS_gm p hl2 ?_
 refine opsS_rgm x hl2 ?_
 refine Q.r ?_;(repeat (intro b1;refine Q.r ?_))
 revert b1
 intro b8
 refine S.y (Y.rem rfl rfl (by decide)) ?_
 rw [Int.tmod_eq_emod_of_nonneg ho.dd.1]
 have hd0 : 0 ≤ o.d % 11 := Int.emod_nonneg _ (by decide)
 by_cases h8 : o.d % 11 = 8
 ·have hst : stepG j o.d o.fr o.n.abs.few o.w = appG j o.n.abs.few := by unfold stepG stepL;rw [if_pos h8];rfl
  rw [hst]
  refine Q.r ?_;(repeat (intro b1;refine Q.r ?_))
  refine Q.dgo [true,false,false,false,true] [2,5,10] [] [0,1,3,4,2,5,6,7,8,9,10,11,12] ?_
  refine Q.rd ?_;(repeat (intro b1;refine Q.rd ?_))
  refine D.e rfl rfl rfl ?_
  refine S.cg p (args := [ptrG p,n2.val]) rfl (GApply_spec n2 M2 p j _ hw.g hn2 hN2 hT2 hu2 (by have := hua2.txn.2;show n2.abs.txn < _;omega)) ?_
  rintro _ _ ⟨M3,rfl,hl3,rfl⟩
  refine opsS_rgm x hl3 ?_
  refine Q.r ?_;(repeat (intro b1;refine Q.r ?_))
  refine Q.rd ?_;(repeat (intro b1;refine Q.rd ?_))
  refine D.e rfl rfl rfl ?_
  refine S.crg x (args := [.pointer (some ⟨x,0,none⟩),n1.val]) rfl (RgApp_spec n1 x j M3 _ hw (by omega) (by omega) (hn1.mono (hl2.trans hl3)) hN1 hua1) ?_
  rintro _ _ ⟨M4,rfl,hl4,rfl⟩
  refine opsS_gm p hl4 ?_
  rw [e2,he1]
  refine Q.r ?_;(repeat (intro b1;refine Q.r ?_))
  refine Q.rd ?_;(repeat (intro b1;refine Q.rd ?_))
  refine Q.dT rfl rfl rfl ?_ (by simp)
  refine Q.rd ?_;(repeat (intro b1;refine Q.rd ?_))
  refine D.e rfl rfl rfl ?_
  refine S.guard rfl ?_
  refine S.cr (args := [n2.val,n1.val]) rfl (Same12_spec n2 n1 _ (hn2.mono (hl3.trans hl4)).rd (hn1.mono (hl2.trans (hl3.trans hl4))).rd hN2 hN1 he21) ?_
  rintro _ _ ⟨rfl,rfl⟩
  refine Q.r ?_;(repeat (intro b1;refine Q.r ?_))
  refine Q.rd ?_;(repeat (intro b1;refine Q.rd ?_))
  refine Q.r ?_;(repeat (intro b1;refine Q.r ?_))
  refine N.r1 (RV.tmp rfl RV.nil) ?_ ⟨M4,rfl,hM2.trans (hl3.trans hl4),rfl⟩
  exact Go.SX.Ent.go
 by_cases h9 : o.d % 11 = 9
 ·have hst : stepG j o.d o.fr o.n.abs.few o.w = appL j (quitG j).notes := by unfold stepG stepL;rw [if_neg h8,if_pos h9]
  have hqo := quit_ok hw
  rw [hst]
  refine Q.r ?_;(repeat (intro b1;refine Q.r ?_))
  refine S.cg p rfl ((GQuit_spec M2 p j _ hw.g (by omega)).post fun _ _ h => planGR.of0 h) ?_
  rintro _ _ ⟨a1,c1,rs,a2,c2,ns,a3,c3,ms,a4,c4,is,a5,c5,es,M3,rfl,hl3,⟨o1,o2,o3,o4,o5⟩,⟨q1,q2,q3,q4,q5⟩,rfl⟩
  refine opsS_rgm x hl3 ?_
  have hnl : ns.length ≤ j.tr.length := by rw [map_len q2];exact hqo.2.1
  refine Q.r ?_;(repeat (intro b1;refine Q.r ?_))
  refine S.y (Y.fld rfl rfl rfl) ?_
  refine Q.r ?_;(repeat (intro b1;refine Q.r ?_))
  refine S.c3 (A := jdgH M3 p j) (B := rgH M3 x j) (C := roM M3) rfl (Lapply_spec a2 c2 ns p x j M3 _ o2 (fun n hn => ⟨(hqo.1 _ (q2 ▸ List.mem_map_of_mem hn)).1,OkN.of (hqo.1 _ (q2 ▸ List.mem_map_of_mem hn)).2⟩) hw (by omega) (by omega) (hT2.mono hl3)) ?_
  rintro _ _ ⟨M4,rfl,hl4,rfl⟩
  rw [q2]
  refine Q.r ?_;(repeat (intro b1;refine Q.r ?_))
  refine N.r1 (RV.tmp rfl RV.nil) ?_ ⟨M4,rfl,hM2.trans (hl3.trans hl4),rfl⟩
  exact Go.SX.Ent.go
 by_cases h10 : o.d % 11 = 10
 ·have hst : stepG j o.d o.fr o.n.abs.few o.w = appL j [epochN (j.epoch + 1)] := by unfold stepG stepL;rw [if_neg h8,if_neg h9,if_pos h10]
  rw [hst]
  have e0 := hb.e0
  have e1 := hb.e1
  refine Q.r ?_;(repeat (intro b1;refine Q.r ?_))
  refine S.cgn p rfl (GEpoch_spec M2 p j _) ?_
  rintro _ _ ⟨rfl,rfl⟩
  refine Q.r ?_;(repeat (intro b1;refine Q.r ?_))
  refine S.y (Y.add rfl rfl) ?_
  rw [show IntKind.u64.wrap (j.epoch + 1) = j.epoch + 1 from wrap_u64 (by omega) (by omega)]
  refine Q.r ?_;(repeat (intro b1;refine Q.r ?_))
  refine opsS_ent (slO_fold (sz := 16) (m := 1) rfl) ?_
  refine opsS_abs (some ⟨b1,0,none⟩) (fun M3 hl3 hs3 => ?_)
  refine opsS_gm p hl3 ?_
  refine opsS_rgm x hl3 ?_
  have hne : NumA (epochN (j.epoch + 1)) := NumA.of (show (0 : Int) ≤ 16 by decide) (show (16 : Int) ≤ 255 by decide) (Int.le_refl _) (show (0 : Int) ≤ 18446744073709551615 by decide) (Int.le_refl _) (show (0 : Int) ≤ 18446744073709551615 by decide) (Int.le_refl _) (show (0 : Int) ≤ 18446744073709551615 by decide) (Int.le_refl _) (show (0 : Int) ≤ 18446744073709551615 by decide) (show (0 : Int) ≤ 9223372036854775807 by decide) (show 0 ≤ j.epoch + 1 by omega) (show j.epoch + 1 ≤ _ by omega) rfl rfl rfl rfl rfl
  refine S.c3 (A := jdgH M3 p j) (B := rgH M3 x j) (C := roM M3) rfl (Lapply_spec (some ⟨b1,0,none⟩) 1 [(epochN (j.epoch + 1)).nv] p x j M3 _ ⟨hs3,fun m hm => (by rw [List.mem_singleton.1 hm];exact okN.nv _)⟩ (fun n hn => (by rw [List.mem_singleton.1 hn];exact ⟨hne,OkN.of (OkA.bare (Nat.zero_le _) rfl rfl rfl)⟩)) hw (by rw [List.length_singleton];omega) (by rw [List.length_singleton];omega) (hT2.mono hl3)) ?_
  rintro _ _ ⟨M4,rfl,hl4,rfl⟩
  rw [show [(epochN (j.epoch + 1)).nv].map NV.abs = [epochN (j.epoch + 1)] from rfl]
  refine Q.r ?_;(repeat (intro b1;refine Q.r ?_))
  refine N.r1 (RV.tmp rfl RV.nil) ?_ ⟨M4,rfl,hM2.trans (hl3.trans hl4),rfl⟩
  exact Go.SX.Ent.go
 have hpn := plan_ok hw s1 s2 hufew o.fr
 have hone := plan_ones j o.fr o.n.abs.few
 have hml := mail_len hw.g s1 s2 o.fr o.n.abs.few
 have hel := els_len hw.g o.fr o.n.abs.few
 refine Q.r ?_;(repeat (intro b1;refine Q.r ?_))
 refine swp_cutT (σ := S7) (fun s => [(0,ptrG p),(1,.pointer (some ⟨x,0,none⟩)),(5,.pointer (some ⟨bo,0,none⟩)),(7,.pointer (some ⟨b7,0,none⟩)),(8,.pointer (some ⟨b8,0,none⟩)),(9,.pointer (some ⟨s.b9,0,none⟩)),(10,.pointer (some ⟨s.b10,0,none⟩))])
  (fun s => p50 s.b9 s.a1 s.c1 s.rs.length s.a2 s.c2 s.ns.length s.a3 s.c3 s.ms.length s.a4 s.c4 s.is.length s.a5 s.c5 s.es.length :: p88 s.b10 s.f1 s.d1 s.rs2.length s.f2 s.d2 s.ns2.length s.f3 s.d3 s.ms2.length s.f4 s.d4 s.is2.length s.f5 s.d5 s.es2.length :: pt b8 (cl n2.cells 52) :: pt b7 (cl n1.cells 39) :: pt bo (cl o.cells 41) :: jdgH s.M p j :: rgH s.M x j :: roM s.M :: L)
  (fun s => P5 s.M (planG j o.fr o.n.abs.few) s.a1 s.rs s.a2 s.ns s.a3 s.ms s.a4 s.is s.a5 s.es ∧ P5 s.M (planG j o.fr o.n.abs.few) s.f1 s.rs2 s.f2 s.ns2 s.f3 s.ms2 s.f4 s.is2 s.f5 s.es2 ∧ leM M2 s.M) ?_ ?_
 ·
  refine Q.dgo [true,false,false,false,true,true] [4,9,10,11,12,13] [] [0,1,2,3,5,6,7,8,99999,0,0,0,0,0] ?_
  repeat (first | refine D.endA ?_ | refine Q.dp rfl rfl rfl ?_ | refine Q.dy rfl rfl rfl ?_ | refine D.end_ ?_ | refine Q.endH ?_ | (refine D.e rfl rfl rfl ?_;(first | refine S.gskip1 rfl ?_ | refine S.gskip rfl ?_ | refine S.y (Y.gskipU rfl) ?_);refine opsS_nil ?_;refine N.tn ?_))
  refine D.three 4 10 11 [99999,0,0,0,0] [99999,0,0,0,0] [99999,0,0,0,0] (by kernel_rfl) rfl rfl rfl rfl rfl rfl (by kernel_rfl) (by kernel_rfl) (by kernel_rfl) ?_ ?_ ?_
  ·refine S.cg p (args := [ptrG p,.int .i64 o.fr,n2.val]) rfl (GPlan_spec n2 M2 p j o.fr _ hb hn2 hN2 (hT.mono hM2) hu2.kind) ?_
   rintro _ _ ⟨a1,c1,rs,a2,c2,ns,a3,c3,ms,a4,c4,is,a5,c5,es,M3,rfl,hl3,⟨o1,o2,o3,o4,o5⟩,⟨q1,q2,q3,q4,q5⟩,rfl⟩
   refine opsS_rgm x hl3 ?_
   refine Q.r ?_;(repeat (intro b1;refine Q.r ?_))
   repeat (first | refine D.endA ?_ | refine Q.dp rfl rfl rfl ?_ | refine Q.dy rfl rfl rfl ?_ | refine D.end_ ?_ | refine Q.endH ?_ | (refine D.e rfl rfl rfl ?_;(first | refine S.gskip1 rfl ?_ | refine S.gskip rfl ?_ | refine S.y (Y.gskipU rfl) ?_);refine opsS_nil ?_;refine N.tn ?_))
   refine D.three 9 10 11 [99999,0,0,0] [99999,0,0,0] [99999,0,0,0] (by kernel_rfl) rfl rfl rfl rfl rfl rfl (by kernel_rfl) (by kernel_rfl) (by kernel_rfl) ?_ ?_ ?_
   ·refine S.crg x (args := [.pointer (some ⟨x,0,none⟩),.int .i64 o.fr,n1.val]) rfl (RgDo_spec n1 M3 x j o.fr _ hw (by omega) (by omega) (hn1.mono (hl2.trans hl3)) hN1 hoc1 hua1) ?_
    rintro _ _ ⟨f1,d1,rs2,f2,d2,ns2,f3,d3,ms2,f4,d4,is2,f5,d5,es2,M4,rfl,hl4,⟨o1',o2',o3',o4',o5'⟩,⟨q1',q2',q3',q4',q5'⟩,rfl⟩
    refine opsS_gm p hl4 ?_
    refine Q.r ?_;(repeat (intro b1;refine Q.r ?_))
    repeat (first | refine D.endA ?_ | refine Q.dp rfl rfl rfl ?_ | refine Q.dy rfl rfl rfl ?_ | refine D.end_ ?_ | refine Q.endH ?_ | (refine D.e rfl rfl rfl ?_;(first | refine S.gskip1 rfl ?_ | refine S.gskip rfl ?_ | refine S.y (Y.gskipU rfl) ?_);refine opsS_nil ?_;refine N.tn ?_))
    refine D.two 10 11 [11,12,13] [10,12,13] (by kernel_rfl) rfl rfl rfl rfl (by kernel_rfl) (by kernel_rfl) ?_ ?_
    ·refine GQ.a ?_
     refine Q.al (fun b9 => ?_)
     refine Q.r ?_;(repeat (intro b1;refine Q.r ?_))
     repeat (first | refine D.endA ?_ | refine Q.dp rfl rfl rfl ?_ | refine Q.dy rfl rfl rfl ?_ | refine D.end_ ?_ | refine Q.endH ?_ | (refine D.e rfl rfl rfl ?_;(first | refine S.gskip1 rfl ?_ | refine S.gskip rfl ?_ | refine S.y (Y.gskipU rfl) ?_);refine opsS_nil ?_;refine N.tn ?_))
     refine D.e rfl rfl rfl ?_
     refine GQ.a ?_
     refine Q.al (fun b10 => ?_)
     refine Q.r ?_;(repeat (intro b1;refine Q.r ?_))
     repeat (first | refine D.endA ?_ | refine Q.dp rfl rfl rfl ?_ | refine Q.dy rfl rfl rfl ?_ | refine D.end_ ?_ | refine Q.endH ?_ | (refine D.e rfl rfl rfl ?_;(first | refine S.gskip1 rfl ?_ | refine S.gskip rfl ?_ | refine S.y (Y.gskipU rfl) ?_);refine opsS_nil ?_;refine N.tn ?_))
     refine D.e rfl rfl rfl ?_
     refine Q.r ?_;(repeat (intro b1;refine Q.r ?_))
     repeat (first | refine D.endA ?_ | refine Q.dp rfl rfl rfl ?_ | refine Q.dy rfl rfl rfl ?_ | refine D.end_ ?_ | refine Q.endH ?_ | (refine D.e rfl rfl rfl ?_;(first | refine S.gskip1 rfl ?_ | refine S.gskip rfl ?_ | refine S.y (Y.gskipU rfl) ?_);refine opsS_nil ?_;refine N.tn ?_))
     refine D.e rfl rfl rfl ?_
     refine Q.r ?_;(repeat (intro b1;refine Q.r ?_))
     repeat (first | refine D.endA ?_ | refine Q.dp rfl rfl rfl ?_ | refine Q.dy rfl rfl rfl ?_ | refine D.end_ ?_ | refine Q.endH ?_ | (refine D.e rfl rfl rfl ?_;(first | refine S.gskip1 rfl ?_ | refine S.gskip rfl ?_ | refine S.y (Y.gskipU rfl) ?_);refine opsS_nil ?_;refine N.tn ?_))
     repeat (first | refine D.endA ?_ | refine Q.dp rfl rfl rfl ?_ | refine Q.dy rfl rfl rfl ?_ | refine D.end_ ?_ | refine Q.endH ?_ | (refine D.e rfl rfl rfl ?_;(first | refine S.gskip1 rfl ?_ | refine S.gskip rfl ?_ | refine S.y (Y.gskipU rfl) ?_);refine opsS_nil ?_;refine N.tn ?_))
     have hp5 : P5 M4 (planG j o.fr o.n.abs.few) a1 rs a2 ns a3 ms a4 is a5 es := ⟨o1.mono hl4,o2.mono hl4,o3.mono hl4,o4.mono hl4,o5.mono hl4,e2 ▸ q1,e2 ▸ q2,e2 ▸ q3,e2 ▸ q4,e2 ▸ q5⟩
     have hp5' : P5 M4 (planG j o.fr o.n.abs.few) f1 rs2 f2 ns2 f3 ms2 f4 is2 f5 es2 := ⟨o1',o2',o3',o4',o5',he1 ▸ q1',he1 ▸ q2',he1 ▸ q3',he1 ▸ q4',he1 ▸ q5'⟩
     refine N.tn ⟨⟨b9,b10,a1,c1,rs,a2,c2,ns,a3,c3,ms,a4,c4,is,a5,c5,es,f1,d1,rs2,f2,d2,ns2,f3,d3,ms2,f4,d4,is2,f5,d5,es2,M4⟩,⟨rfl,rfl,rfl,rfl,rfl,rfl,rfl,trivial⟩,?_,hp5,hp5',hl3.trans hl4⟩
     (try dsimp only);exact Go.SX.Ent.go
    ·refine GQ.a ?_
     refine Q.al (fun b10 => ?_)
     refine Q.r ?_;(repeat (intro b1;refine Q.r ?_))
     repeat (first | refine D.endA ?_ | refine Q.dp rfl rfl rfl ?_ | refine Q.dy rfl rfl rfl ?_ | refine D.end_ ?_ | refine Q.endH ?_ | (refine D.e rfl rfl rfl ?_;(first | refine S.gskip1 rfl ?_ | refine S.gskip rfl ?_ | refine S.y (Y.gskipU rfl) ?_);refine opsS_nil ?_;refine N.tn ?_))
     refine D.e rfl rfl rfl ?_
     refine GQ.a ?_
     refine Q.al (fun b9 => ?_)
     refine Q.r ?_;(repeat (intro b1;refine Q.r ?_))
     repeat (first | refine D.endA ?_ | refine Q.dp rfl rfl rfl ?_ | refine Q.dy rfl rfl rfl ?_ | refine D.end_ ?_ | refine Q.endH ?_ | (refine D.e rfl rfl rfl ?_;(first | refine S.gskip1 rfl ?_ | refine S.gskip rfl ?_ | refine S.y (Y.gskipU rfl) ?_);refine opsS_nil ?_;refine N.tn ?_))
     refine D.e rfl rfl rfl ?_
     refine Q.r ?_;(repeat (intro b1;refine Q.r ?_))
     repeat (first | refine D.endA ?_ | refine Q.dp rfl rfl rfl ?_ | refine Q.dy rfl rfl rfl ?_ | refine D.end_ ?_ | refine Q.endH ?_ | (refine D.e rfl rfl rfl ?_;(first | refine S.gskip1 rfl ?_ | refine S.gskip rfl ?_ | refine S.y (Y.gskipU rfl) ?_);refine opsS_nil ?_;refine N.tn ?_))
     refine D.e rfl rfl rfl ?_
     refine Q.r ?_;(repeat (intro b1;refine Q.r ?_))
     repeat (first | refine D.endA ?_ | refine Q.dp rfl rfl rfl ?_ | refine Q.dy rfl rfl rfl ?_ | refine D.end_ ?_ | refine Q.endH ?_ | (refine D.e rfl rfl rfl ?_;(first | refine S.gskip1 rfl ?_ | refine S.gskip rfl ?_ | refine S.y (Y.gskipU rfl) ?_);refine opsS_nil ?_;refine N.tn ?_))
     repeat (first | refine D.endA ?_ | refine Q.dp rfl rfl rfl ?_ | refine Q.dy rfl rfl rfl ?_ | refine D.end_ ?_ | refine Q.endH ?_ | (refine D.e rfl rfl rfl ?_;(first | refine S.gskip1 rfl ?_ | refine S.gskip rfl ?_ | refine S.y (Y.gskipU rfl) ?_);refine opsS_nil ?_;refine N.tn ?_))
     have hp5 : P5 M4 (planG j o.fr o.n.abs.few) a1 rs a2 ns a3 ms a4 is a5 es := ⟨o1.mono hl4,o2.mono hl4,o3.mono hl4,o4.mono hl4,o5.mono hl4,e2 ▸ q1,e2 ▸ q2,e2 ▸ q3,e2 ▸ q4,e2 ▸ q5⟩
     have hp5' : P5 M4 (planG j o.fr o.n.abs.few) f1 rs2 f2 ns2 f3 ms2 f4 is2 f5 es2 := ⟨o1',o2',o3',o4',o5',he1 ▸ q1',he1 ▸ q2',he1 ▸ q3',he1 ▸ q4',he1 ▸ q5'⟩
     refine N.tn ⟨⟨b9,b10,a1,c1,rs,a2,c2,ns,a3,c3,ms,a4,c4,is,a5,c5,es,f1,d1,rs2,f2,d2,ns2,f3,d3,ms2,f4,d4,is2,f5,d5,es2,M4⟩,⟨rfl,rfl,rfl,rfl,rfl,rfl,rfl,trivial⟩,?_,hp5,hp5',hl3.trans hl4⟩
     (try dsimp only);exact Go.SX.Ent.go
   ·refine GQ.a ?_
    refine Q.al (fun b9 => ?_)
    refine Q.r ?_;(repeat (intro b1;refine Q.r ?_))
    repeat (first | refine D.endA ?_ | refine Q.dp rfl rfl rfl ?_ | refine Q.dy rfl rfl rfl ?_ | refine D.end_ ?_ | refine Q.endH ?_ | (refine D.e rfl rfl rfl ?_;(first | refine S.gskip1 rfl ?_ | refine S.gskip rfl ?_ | refine S.y (Y.gskipU rfl) ?_);refine opsS_nil ?_;refine N.tn ?_))
    refine D.two 9 11 [11,12,13] [9,12,13] (by kernel_rfl) rfl rfl rfl rfl (by kernel_rfl) (by kernel_rfl) ?_ ?_
    ·refine S.crg x (args := [.pointer (some ⟨x,0,none⟩),.int .i64 o.fr,n1.val]) rfl (RgDo_spec n1 M3 x j o.fr _ hw (by omega) (by omega) (hn1.mono (hl2.trans hl3)) hN1 hoc1 hua1) ?_
     rintro _ _ ⟨f1,d1,rs2,f2,d2,ns2,f3,d3,ms2,f4,d4,is2,f5,d5,es2,M4,rfl,hl4,⟨o1',o2',o3',o4',o5'⟩,⟨q1',q2',q3',q4',q5'⟩,rfl⟩
     refine opsS_gm p hl4 ?_
     refine Q.r ?_;(repeat (intro b1;refine Q.r ?_))
     repeat (first | refine D.endA ?_ | refine Q.dp rfl rfl rfl ?_ | refine Q.dy rfl rfl rfl ?_ | refine D.end_ ?_ | refine Q.endH ?_ | (refine D.e rfl rfl rfl ?_;(first | refine S.gskip1 rfl ?_ | refine S.gskip rfl ?_ | refine S.y (Y.gskipU rfl) ?_);refine opsS_nil ?_;refine N.tn ?_))
     refine D.e rfl rfl rfl ?_
     refine GQ.a ?_
     refine Q.al (fun b10 => ?_)
     refine Q.r ?_;(repeat (intro b1;refine Q.r ?_))
     repeat (first | refine D.endA ?_ | refine Q.dp rfl rfl rfl ?_ | refine Q.dy rfl rfl rfl ?_ | refine D.end_ ?_ | refine Q.endH ?_ | (refine D.e rfl rfl rfl ?_;(first | refine S.gskip1 rfl ?_ | refine S.gskip rfl ?_ | refine S.y (Y.gskipU rfl) ?_);refine opsS_nil ?_;refine N.tn ?_))
     refine D.e rfl rfl rfl ?_
     refine Q.r ?_;(repeat (intro b1;refine Q.r ?_))
     repeat (first | refine D.endA ?_ | refine Q.dp rfl rfl rfl ?_ | refine Q.dy rfl rfl rfl ?_ | refine D.end_ ?_ | refine Q.endH ?_ | (refine D.e rfl rfl rfl ?_;(first | refine S.gskip1 rfl ?_ | refine S.gskip rfl ?_ | refine S.y (Y.gskipU rfl) ?_);refine opsS_nil ?_;refine N.tn ?_))
     refine D.e rfl rfl rfl ?_
     refine Q.r ?_;(repeat (intro b1;refine Q.r ?_))
     repeat (first | refine D.endA ?_ | refine Q.dp rfl rfl rfl ?_ | refine Q.dy rfl rfl rfl ?_ | refine D.end_ ?_ | refine Q.endH ?_ | (refine D.e rfl rfl rfl ?_;(first | refine S.gskip1 rfl ?_ | refine S.gskip rfl ?_ | refine S.y (Y.gskipU rfl) ?_);refine opsS_nil ?_;refine N.tn ?_))
     repeat (first | refine D.endA ?_ | refine Q.dp rfl rfl rfl ?_ | refine Q.dy rfl rfl rfl ?_ | refine D.end_ ?_ | refine Q.endH ?_ | (refine D.e rfl rfl rfl ?_;(first | refine S.gskip1 rfl ?_ | refine S.gskip rfl ?_ | refine S.y (Y.gskipU rfl) ?_);refine opsS_nil ?_;refine N.tn ?_))
     have hp5 : P5 M4 (planG j o.fr o.n.abs.few) a1 rs a2 ns a3 ms a4 is a5 es := ⟨o1.mono hl4,o2.mono hl4,o3.mono hl4,o4.mono hl4,o5.mono hl4,e2 ▸ q1,e2 ▸ q2,e2 ▸ q3,e2 ▸ q4,e2 ▸ q5⟩
     have hp5' : P5 M4 (planG j o.fr o.n.abs.few) f1 rs2 f2 ns2 f3 ms2 f4 is2 f5 es2 := ⟨o1',o2',o3',o4',o5',he1 ▸ q1',he1 ▸ q2',he1 ▸ q3',he1 ▸ q4',he1 ▸ q5'⟩
     refine N.tn ⟨⟨b9,b10,a1,c1,rs,a2,c2,ns,a3,c3,ms,a4,c4,is,a5,c5,es,f1,d1,rs2,f2,d2,ns2,f3,d3,ms2,f4,d4,is2,f5,d5,es2,M4⟩,⟨rfl,rfl,rfl,rfl,rfl,rfl,rfl,trivial⟩,?_,hp5,hp5',hl3.trans hl4⟩
     (try dsimp only);exact Go.SX.Ent.go
    ·refine GQ.a ?_
     refine Q.al (fun b10 => ?_)
     refine Q.r ?_;(repeat (intro b1;refine Q.r ?_))
     repeat (first | refine D.endA ?_ | refine Q.dp rfl rfl rfl ?_ | refine Q.dy rfl rfl rfl ?_ | refine D.end_ ?_ | refine Q.endH ?_ | (refine D.e rfl rfl rfl ?_;(first | refine S.gskip1 rfl ?_ | refine S.gskip rfl ?_ | refine S.y (Y.gskipU rfl) ?_);refine opsS_nil ?_;refine N.tn ?_))
     refine D.e rfl rfl rfl ?_
     refine S.crg x (args := [.pointer (some ⟨x,0,none⟩),.int .i64 o.fr,n1.val]) rfl (RgDo_spec n1 M3 x j o.fr _ hw (by omega) (by omega) (hn1.mono (hl2.trans hl3)) hN1 hoc1 hua1) ?_
     rintro _ _ ⟨f1,d1,rs2,f2,d2,ns2,f3,d3,ms2,f4,d4,is2,f5,d5,es2,M4,rfl,hl4,⟨o1',o2',o3',o4',o5'⟩,⟨q1',q2',q3',q4',q5'⟩,rfl⟩
     refine opsS_gm p hl4 ?_
     refine Q.r ?_;(repeat (intro b1;refine Q.r ?_))
     repeat (first | refine D.endA ?_ | refine Q.dp rfl rfl rfl ?_ | refine Q.dy rfl rfl rfl ?_ | refine D.end_ ?_ | refine Q.endH ?_ | (refine D.e rfl rfl rfl ?_;(first | refine S.gskip1 rfl ?_ | refine S.gskip rfl ?_ | refine S.y (Y.gskipU rfl) ?_);refine opsS_nil ?_;refine N.tn ?_))
     refine D.e rfl rfl rfl ?_
     refine Q.r ?_;(repeat (intro b1;refine Q.r ?_))
     repeat (first | refine D.endA ?_ | refine Q.dp rfl rfl rfl ?_ | refine Q.dy rfl rfl rfl ?_ | refine D.end_ ?_ | refine Q.endH ?_ | (refine D.e rfl rfl rfl ?_;(first | refine S.gskip1 rfl ?_ | refine S.gskip rfl ?_ | refine S.y (Y.gskipU rfl) ?_);refine opsS_nil ?_;refine N.tn ?_))
     refine D.e rfl rfl rfl ?_
     refine Q.r ?_;(repeat (intro b1;refine Q.r ?_))
     repeat (first | refine D.endA ?_ | refine Q.dp rfl rfl rfl ?_ | refine Q.dy rfl rfl rfl ?_ | refine D.end_ ?_ | refine Q.endH ?_ | (refine D.e rfl rfl rfl ?_;(first | refine S.gskip1 rfl ?_ | refine S.gskip rfl ?_ | refine S.y (Y.gskipU rfl) ?_);refine opsS_nil ?_;refine N.tn ?_))
     repeat (first | refine D.endA ?_ | refine Q.dp rfl rfl rfl ?_ | refine Q.dy rfl rfl rfl ?_ | refine D.end_ ?_ | refine Q.endH ?_ | (refine D.e rfl rfl rfl ?_;(first | refine S.gskip1 rfl ?_ | refine S.gskip rfl ?_ | refine S.y (Y.gskipU rfl) ?_);refine opsS_nil ?_;refine N.tn ?_))
     have hp5 : P5 M4 (planG j o.fr o.n.abs.few) a1 rs a2 ns a3 ms a4 is a5 es := ⟨o1.mono hl4,o2.mono hl4,o3.mono hl4,o4.mono hl4,o5.mono hl4,e2 ▸ q1,e2 ▸ q2,e2 ▸ q3,e2 ▸ q4,e2 ▸ q5⟩
     have hp5' : P5 M4 (planG j o.fr o.n.abs.few) f1 rs2 f2 ns2 f3 ms2 f4 is2 f5 es2 := ⟨o1',o2',o3',o4',o5',he1 ▸ q1',he1 ▸ q2',he1 ▸ q3',he1 ▸ q4',he1 ▸ q5'⟩
     refine N.tn ⟨⟨b9,b10,a1,c1,rs,a2,c2,ns,a3,c3,ms,a4,c4,is,a5,c5,es,f1,d1,rs2,f2,d2,ns2,f3,d3,ms2,f4,d4,is2,f5,d5,es2,M4⟩,⟨rfl,rfl,rfl,rfl,rfl,rfl,rfl,trivial⟩,?_,hp5,hp5',hl3.trans hl4⟩
     (try dsimp only);exact Go.SX.Ent.go
   ·refine GQ.a ?_
    refine Q.al (fun b10 => ?_)
    refine Q.r ?_;(repeat (intro b1;refine Q.r ?_))
    repeat (first | refine D.endA ?_ | refine Q.dp rfl rfl rfl ?_ | refine Q.dy rfl rfl rfl ?_ | refine D.end_ ?_ | refine Q.endH ?_ | (refine D.e rfl rfl rfl ?_;(first | refine S.gskip1 rfl ?_ | refine S.gskip rfl ?_ | refine S.y (Y.gskipU rfl) ?_);refine opsS_nil ?_;refine N.tn ?_))
    refine D.two 9 10 [10,12,13] [9,12,13] (by kernel_rfl) rfl rfl rfl rfl (by kernel_rfl) (by kernel_rfl) ?_ ?_
    ·refine S.crg x (args := [.pointer (some ⟨x,0,none⟩),.int .i64 o.fr,n1.val]) rfl (RgDo_spec n1 M3 x j o.fr _ hw (by omega) (by omega) (hn1.mono (hl2.trans hl3)) hN1 hoc1 hua1) ?_
     rintro _ _ ⟨f1,d1,rs2,f2,d2,ns2,f3,d3,ms2,f4,d4,is2,f5,d5,es2,M4,rfl,hl4,⟨o1',o2',o3',o4',o5'⟩,⟨q1',q2',q3',q4',q5'⟩,rfl⟩
     refine opsS_gm p hl4 ?_
     refine Q.r ?_;(repeat (intro b1;refine Q.r ?_))
     repeat (first | refine D.endA ?_ | refine Q.dp rfl rfl rfl ?_ | refine Q.dy rfl rfl rfl ?_ | refine D.end_ ?_ | refine Q.endH ?_ | (refine D.e rfl rfl rfl ?_;(first | refine S.gskip1 rfl ?_ | refine S.gskip rfl ?_ | refine S.y (Y.gskipU rfl) ?_);refine opsS_nil ?_;refine N.tn ?_))
     refine D.e rfl rfl rfl ?_
     refine GQ.a ?_
     refine Q.al (fun b9 => ?_)
     refine Q.r ?_;(repeat (intro b1;refine Q.r ?_))
     repeat (first | refine D.endA ?_ | refine Q.dp rfl rfl rfl ?_ | refine Q.dy rfl rfl rfl ?_ | refine D.end_ ?_ | refine Q.endH ?_ | (refine D.e rfl rfl rfl ?_;(first | refine S.gskip1 rfl ?_ | refine S.gskip rfl ?_ | refine S.y (Y.gskipU rfl) ?_);refine opsS_nil ?_;refine N.tn ?_))
     refine D.e rfl rfl rfl ?_
     refine Q.r ?_;(repeat (intro b1;refine Q.r ?_))
     repeat (first | refine D.endA ?_ | refine Q.dp rfl rfl rfl ?_ | refine Q.dy rfl rfl rfl ?_ | refine D.end_ ?_ | refine Q.endH ?_ | (refine D.e rfl rfl rfl ?_;(first | refine S.gskip1 rfl ?_ | refine S.gskip rfl ?_ | refine S.y (Y.gskipU rfl) ?_);refine opsS_nil ?_;refine N.tn ?_))
     refine D.e rfl rfl rfl ?_
     refine Q.r ?_;(repeat (intro b1;refine Q.r ?_))
     repeat (first | refine D.endA ?_ | refine Q.dp rfl rfl rfl ?_ | refine Q.dy rfl rfl rfl ?_ | refine D.end_ ?_ | refine Q.endH ?_ | (refine D.e rfl rfl rfl ?_;(first | refine S.gskip1 rfl ?_ | refine S.gskip rfl ?_ | refine S.y (Y.gskipU rfl) ?_);refine opsS_nil ?_;refine N.tn ?_))
     repeat (first | refine D.endA ?_ | refine Q.dp rfl rfl rfl ?_ | refine Q.dy rfl rfl rfl ?_ | refine D.end_ ?_ | refine Q.endH ?_ | (refine D.e rfl rfl rfl ?_;(first | refine S.gskip1 rfl ?_ | refine S.gskip rfl ?_ | refine S.y (Y.gskipU rfl) ?_);refine opsS_nil ?_;refine N.tn ?_))
     have hp5 : P5 M4 (planG j o.fr o.n.abs.few) a1 rs a2 ns a3 ms a4 is a5 es := ⟨o1.mono hl4,o2.mono hl4,o3.mono hl4,o4.mono hl4,o5.mono hl4,e2 ▸ q1,e2 ▸ q2,e2 ▸ q3,e2 ▸ q4,e2 ▸ q5⟩
     have hp5' : P5 M4 (planG j o.fr o.n.abs.few) f1 rs2 f2 ns2 f3 ms2 f4 is2 f5 es2 := ⟨o1',o2',o3',o4',o5',he1 ▸ q1',he1 ▸ q2',he1 ▸ q3',he1 ▸ q4',he1 ▸ q5'⟩
     refine N.tn ⟨⟨b9,b10,a1,c1,rs,a2,c2,ns,a3,c3,ms,a4,c4,is,a5,c5,es,f1,d1,rs2,f2,d2,ns2,f3,d3,ms2,f4,d4,is2,f5,d5,es2,M4⟩,⟨rfl,rfl,rfl,rfl,rfl,rfl,rfl,trivial⟩,?_,hp5,hp5',hl3.trans hl4⟩
     (try dsimp only);exact Go.SX.Ent.go
    ·refine GQ.a ?_
     refine Q.al (fun b9 => ?_)
     refine Q.r ?_;(repeat (intro b1;refine Q.r ?_))
     repeat (first | refine D.endA ?_ | refine Q.dp rfl rfl rfl ?_ | refine Q.dy rfl rfl rfl ?_ | refine D.end_ ?_ | refine Q.endH ?_ | (refine D.e rfl rfl rfl ?_;(first | refine S.gskip1 rfl ?_ | refine S.gskip rfl ?_ | refine S.y (Y.gskipU rfl) ?_);refine opsS_nil ?_;refine N.tn ?_))
     refine D.e rfl rfl rfl ?_
     refine S.crg x (args := [.pointer (some ⟨x,0,none⟩),.int .i64 o.fr,n1.val]) rfl (RgDo_spec n1 M3 x j o.fr _ hw (by omega) (by omega) (hn1.mono (hl2.trans hl3)) hN1 hoc1 hua1) ?_
     rintro _ _ ⟨f1,d1,rs2,f2,d2,ns2,f3,d3,ms2,f4,d4,is2,f5,d5,es2,M4,rfl,hl4,⟨o1',o2',o3',o4',o5'⟩,⟨q1',q2',q3',q4',q5'⟩,rfl⟩
     refine opsS_gm p hl4 ?_
     refine Q.r ?_;(repeat (intro b1;refine Q.r ?_))
     repeat (first | refine D.endA ?_ | refine Q.dp rfl rfl rfl ?_ | refine Q.dy rfl rfl rfl ?_ | refine D.end_ ?_ | refine Q.endH ?_ | (refine D.e rfl rfl rfl ?_;(first | refine S.gskip1 rfl ?_ | refine S.gskip rfl ?_ | refine S.y (Y.gskipU rfl) ?_);refine opsS_nil ?_;refine N.tn ?_))
     refine D.e rfl rfl rfl ?_
     refine Q.r ?_;(repeat (intro b1;refine Q.r ?_))
     repeat (first | refine D.endA ?_ | refine Q.dp rfl rfl rfl ?_ | refine Q.dy rfl rfl rfl ?_ | refine D.end_ ?_ | refine Q.endH ?_ | (refine D.e rfl rfl rfl ?_;(first | refine S.gskip1 rfl ?_ | refine S.gskip rfl ?_ | refine S.y (Y.gskipU rfl) ?_);refine opsS_nil ?_;refine N.tn ?_))
     refine D.e rfl rfl rfl ?_
     refine Q.r ?_;(repeat (intro b1;refine Q.r ?_))
     repeat (first | refine D.endA ?_ | refine Q.dp rfl rfl rfl ?_ | refine Q.dy rfl rfl rfl ?_ | refine D.end_ ?_ | refine Q.endH ?_ | (refine D.e rfl rfl rfl ?_;(first | refine S.gskip1 rfl ?_ | refine S.gskip rfl ?_ | refine S.y (Y.gskipU rfl) ?_);refine opsS_nil ?_;refine N.tn ?_))
     repeat (first | refine D.endA ?_ | refine Q.dp rfl rfl rfl ?_ | refine Q.dy rfl rfl rfl ?_ | refine D.end_ ?_ | refine Q.endH ?_ | (refine D.e rfl rfl rfl ?_;(first | refine S.gskip1 rfl ?_ | refine S.gskip rfl ?_ | refine S.y (Y.gskipU rfl) ?_);refine opsS_nil ?_;refine N.tn ?_))
     have hp5 : P5 M4 (planG j o.fr o.n.abs.few) a1 rs a2 ns a3 ms a4 is a5 es := ⟨o1.mono hl4,o2.mono hl4,o3.mono hl4,o4.mono hl4,o5.mono hl4,e2 ▸ q1,e2 ▸ q2,e2 ▸ q3,e2 ▸ q4,e2 ▸ q5⟩
     have hp5' : P5 M4 (planG j o.fr o.n.abs.few) f1 rs2 f2 ns2 f3 ms2 f4 is2 f5 es2 := ⟨o1',o2',o3',o4',o5',he1 ▸ q1',he1 ▸ q2',he1 ▸ q3',he1 ▸ q4',he1 ▸ q5'⟩
     refine N.tn ⟨⟨b9,b10,a1,c1,rs,a2,c2,ns,a3,c3,ms,a4,c4,is,a5,c5,es,f1,d1,rs2,f2,d2,ns2,f3,d3,ms2,f4,d4,is2,f5,d5,es2,M4⟩,⟨rfl,rfl,rfl,rfl,rfl,rfl,rfl,trivial⟩,?_,hp5,hp5',hl3.trans hl4⟩
     (try dsimp only);exact Go.SX.Ent.go
  ·refine GQ.a ?_
   refine Q.al (fun b9 => ?_)
   refine Q.r ?_;(repeat (intro b1;refine Q.r ?_))
   repeat (first | refine D.endA ?_ | refine Q.dp rfl rfl rfl ?_ | refine Q.dy rfl rfl rfl ?_ | refine D.end_ ?_ | refine Q.endH ?_ | (refine D.e rfl rfl rfl ?_;(first | refine S.gskip1 rfl ?_ | refine S.gskip rfl ?_ | refine S.y (Y.gskipU rfl) ?_);refine opsS_nil ?_;refine N.tn ?_))
   refine D.two 4 11 [99999,0,0,0] [4,9,12,13] (by kernel_rfl) rfl rfl rfl rfl (by kernel_rfl) (by kernel_rfl) ?_ ?_
   ·refine S.cg p (args := [ptrG p,.int .i64 o.fr,n2.val]) rfl (GPlan_spec n2 M2 p j o.fr _ hb hn2 hN2 (hT.mono hM2) hu2.kind) ?_
    rintro _ _ ⟨a1,c1,rs,a2,c2,ns,a3,c3,ms,a4,c4,is,a5,c5,es,M3,rfl,hl3,⟨o1,o2,o3,o4,o5⟩,⟨q1,q2,q3,q4,q5⟩,rfl⟩
    refine opsS_rgm x hl3 ?_
    refine Q.r ?_;(repeat (intro b1;refine Q.r ?_))
    repeat (first | refine D.endA ?_ | refine Q.dp rfl rfl rfl ?_ | refine Q.dy rfl rfl rfl ?_ | refine D.end_ ?_ | refine Q.endH ?_ | (refine D.e rfl rfl rfl ?_;(first | refine S.gskip1 rfl ?_ | refine S.gskip rfl ?_ | refine S.y (Y.gskipU rfl) ?_);refine opsS_nil ?_;refine N.tn ?_))
    refine D.two 9 11 [11,12,13] [9,12,13] (by kernel_rfl) rfl rfl rfl rfl (by kernel_rfl) (by kernel_rfl) ?_ ?_
    ·refine S.crg x (args := [.pointer (some ⟨x,0,none⟩),.int .i64 o.fr,n1.val]) rfl (RgDo_spec n1 M3 x j o.fr _ hw (by omega) (by omega) (hn1.mono (hl2.trans hl3)) hN1 hoc1 hua1) ?_
     rintro _ _ ⟨f1,d1,rs2,f2,d2,ns2,f3,d3,ms2,f4,d4,is2,f5,d5,es2,M4,rfl,hl4,⟨o1',o2',o3',o4',o5'⟩,⟨q1',q2',q3',q4',q5'⟩,rfl⟩
     refine opsS_gm p hl4 ?_
     refine Q.r ?_;(repeat (intro b1;refine Q.r ?_))
     repeat (first | refine D.endA ?_ | refine Q.dp rfl rfl rfl ?_ | refine Q.dy rfl rfl rfl ?_ | refine D.end_ ?_ | refine Q.endH ?_ | (refine D.e rfl rfl rfl ?_;(first | refine S.gskip1 rfl ?_ | refine S.gskip rfl ?_ | refine S.y (Y.gskipU rfl) ?_);refine opsS_nil ?_;refine N.tn ?_))
     refine D.e rfl rfl rfl ?_
     refine GQ.a ?_
     refine Q.al (fun b10 => ?_)
     refine Q.r ?_;(repeat (intro b1;refine Q.r ?_))
     repeat (first | refine D.endA ?_ | refine Q.dp rfl rfl rfl ?_ | refine Q.dy rfl rfl rfl ?_ | refine D.end_ ?_ | refine Q.endH ?_ | (refine D.e rfl rfl rfl ?_;(first | refine S.gskip1 rfl ?_ | refine S.gskip rfl ?_ | refine S.y (Y.gskipU rfl) ?_);refine opsS_nil ?_;refine N.tn ?_))
     refine D.e rfl rfl rfl ?_
     refine Q.r ?_;(repeat (intro b1;refine Q.r ?_))
     repeat (first | refine D.endA ?_ | refine Q.dp rfl rfl rfl ?_ | refine Q.dy rfl rfl rfl ?_ | refine D.end_ ?_ | refine Q.endH ?_ | (refine D.e rfl rfl rfl ?_;(first | refine S.gskip1 rfl ?_ | refine S.gskip rfl ?_ | refine S.y (Y.gskipU rfl) ?_);refine opsS_nil ?_;refine N.tn ?_))
     refine D.e rfl rfl rfl ?_
     refine Q.r ?_;(repeat (intro b1;refine Q.r ?_))
     repeat (first | refine D.endA ?_ | refine Q.dp rfl rfl rfl ?_ | refine Q.dy rfl rfl rfl ?_ | refine D.end_ ?_ | refine Q.endH ?_ | (refine D.e rfl rfl rfl ?_;(first | refine S.gskip1 rfl ?_ | refine S.gskip rfl ?_ | refine S.y (Y.gskipU rfl) ?_);refine opsS_nil ?_;refine N.tn ?_))
     repeat (first | refine D.endA ?_ | refine Q.dp rfl rfl rfl ?_ | refine Q.dy rfl rfl rfl ?_ | refine D.end_ ?_ | refine Q.endH ?_ | (refine D.e rfl rfl rfl ?_;(first | refine S.gskip1 rfl ?_ | refine S.gskip rfl ?_ | refine S.y (Y.gskipU rfl) ?_);refine opsS_nil ?_;refine N.tn ?_))
     have hp5 : P5 M4 (planG j o.fr o.n.abs.few) a1 rs a2 ns a3 ms a4 is a5 es := ⟨o1.mono hl4,o2.mono hl4,o3.mono hl4,o4.mono hl4,o5.mono hl4,e2 ▸ q1,e2 ▸ q2,e2 ▸ q3,e2 ▸ q4,e2 ▸ q5⟩
     have hp5' : P5 M4 (planG j o.fr o.n.abs.few) f1 rs2 f2 ns2 f3 ms2 f4 is2 f5 es2 := ⟨o1',o2',o3',o4',o5',he1 ▸ q1',he1 ▸ q2',he1 ▸ q3',he1 ▸ q4',he1 ▸ q5'⟩
     refine N.tn ⟨⟨b9,b10,a1,c1,rs,a2,c2,ns,a3,c3,ms,a4,c4,is,a5,c5,es,f1,d1,rs2,f2,d2,ns2,f3,d3,ms2,f4,d4,is2,f5,d5,es2,M4⟩,⟨rfl,rfl,rfl,rfl,rfl,rfl,rfl,trivial⟩,?_,hp5,hp5',hl3.trans hl4⟩
     (try dsimp only);exact Go.SX.Ent.go
    ·refine GQ.a ?_
     refine Q.al (fun b10 => ?_)
     refine Q.r ?_;(repeat (intro b1;refine Q.r ?_))
     repeat (first | refine D.endA ?_ | refine Q.dp rfl rfl rfl ?_ | refine Q.dy rfl rfl rfl ?_ | refine D.end_ ?_ | refine Q.endH ?_ | (refine D.e rfl rfl rfl ?_;(first | refine S.gskip1 rfl ?_ | refine S.gskip rfl ?_ | refine S.y (Y.gskipU rfl) ?_);refine opsS_nil ?_;refine N.tn ?_))
     refine D.e rfl rfl rfl ?_
     refine S.crg x (args := [.pointer (some ⟨x,0,none⟩),.int .i64 o.fr,n1.val]) rfl (RgDo_spec n1 M3 x j o.fr _ hw (by omega) (by omega) (hn1.mono (hl2.trans hl3)) hN1 hoc1 hua1) ?_
     rintro _ _ ⟨f1,d1,rs2,f2,d2,ns2,f3,d3,ms2,f4,d4,is2,f5,d5,es2,M4,rfl,hl4,⟨o1',o2',o3',o4',o5'⟩,⟨q1',q2',q3',q4',q5'⟩,rfl⟩
     refine opsS_gm p hl4 ?_
     refine Q.r ?_;(repeat (intro b1;refine Q.r ?_))
     repeat (first | refine D.endA ?_ | refine Q.dp rfl rfl rfl ?_ | refine Q.dy rfl rfl rfl ?_ | refine D.end_ ?_ | refine Q.endH ?_ | (refine D.e rfl rfl rfl ?_;(first | refine S.gskip1 rfl ?_ | refine S.gskip rfl ?_ | refine S.y (Y.gskipU rfl) ?_);refine opsS_nil ?_;refine N.tn ?_))
     refine D.e rfl rfl rfl ?_
     refine Q.r ?_;(repeat (intro b1;refine Q.r ?_))
     repeat (first | refine D.endA ?_ | refine Q.dp rfl rfl rfl ?_ | refine Q.dy rfl rfl rfl ?_ | refine D.end_ ?_ | refine Q.endH ?_ | (refine D.e rfl rfl rfl ?_;(first | refine S.gskip1 rfl ?_ | refine S.gskip rfl ?_ | refine S.y (Y.gskipU rfl) ?_);refine opsS_nil ?_;refine N.tn ?_))
     refine D.e rfl rfl rfl ?_
     refine Q.r ?_;(repeat (intro b1;refine Q.r ?_))
     repeat (first | refine D.endA ?_ | refine Q.dp rfl rfl rfl ?_ | refine Q.dy rfl rfl rfl ?_ | refine D.end_ ?_ | refine Q.endH ?_ | (refine D.e rfl rfl rfl ?_;(first | refine S.gskip1 rfl ?_ | refine S.gskip rfl ?_ | refine S.y (Y.gskipU rfl) ?_);refine opsS_nil ?_;refine N.tn ?_))
     repeat (first | refine D.endA ?_ | refine Q.dp rfl rfl rfl ?_ | refine Q.dy rfl rfl rfl ?_ | refine D.end_ ?_ | refine Q.endH ?_ | (refine D.e rfl rfl rfl ?_;(first | refine S.gskip1 rfl ?_ | refine S.gskip rfl ?_ | refine S.y (Y.gskipU rfl) ?_);refine opsS_nil ?_;refine N.tn ?_))
     have hp5 : P5 M4 (planG j o.fr o.n.abs.few) a1 rs a2 ns a3 ms a4 is a5 es := ⟨o1.mono hl4,o2.mono hl4,o3.mono hl4,o4.mono hl4,o5.mono hl4,e2 ▸ q1,e2 ▸ q2,e2 ▸ q3,e2 ▸ q4,e2 ▸ q5⟩
     have hp5' : P5 M4 (planG j o.fr o.n.abs.few) f1 rs2 f2 ns2 f3 ms2 f4 is2 f5 es2 := ⟨o1',o2',o3',o4',o5',he1 ▸ q1',he1 ▸ q2',he1 ▸ q3',he1 ▸ q4',he1 ▸ q5'⟩
     refine N.tn ⟨⟨b9,b10,a1,c1,rs,a2,c2,ns,a3,c3,ms,a4,c4,is,a5,c5,es,f1,d1,rs2,f2,d2,ns2,f3,d3,ms2,f4,d4,is2,f5,d5,es2,M4⟩,⟨rfl,rfl,rfl,rfl,rfl,rfl,rfl,trivial⟩,?_,hp5,hp5',hl3.trans hl4⟩
     (try dsimp only);exact Go.SX.Ent.go
   ·refine GQ.a ?_
    refine Q.al (fun b10 => ?_)
    refine Q.r ?_;(repeat (intro b1;refine Q.r ?_))
    repeat (first | refine D.endA ?_ | refine Q.dp rfl rfl rfl ?_ | refine Q.dy rfl rfl rfl ?_ | refine D.end_ ?_ | refine Q.endH ?_ | (refine D.e rfl rfl rfl ?_;(first | refine S.gskip1 rfl ?_ | refine S.gskip rfl ?_ | refine S.y (Y.gskipU rfl) ?_);refine opsS_nil ?_;refine N.tn ?_))
    refine D.e rfl rfl rfl ?_
    refine S.cg p (args := [ptrG p,.int .i64 o.fr,n2.val]) rfl (GPlan_spec n2 M2 p j o.fr _ hb hn2 hN2 (hT.mono hM2) hu2.kind) ?_
    rintro _ _ ⟨a1,c1,rs,a2,c2,ns,a3,c3,ms,a4,c4,is,a5,c5,es,M3,rfl,hl3,⟨o1,o2,o3,o4,o5⟩,⟨q1,q2,q3,q4,q5⟩,rfl⟩
    refine opsS_rgm x hl3 ?_
    refine Q.r ?_;(repeat (intro b1;refine Q.r ?_))
    repeat (first | refine D.endA ?_ | refine Q.dp rfl rfl rfl ?_ | refine Q.dy rfl rfl rfl ?_ | refine D.end_ ?_ | refine Q.endH ?_ | (refine D.e rfl rfl rfl ?_;(first | refine S.gskip1 rfl ?_ | refine S.gskip rfl ?_ | refine S.y (Y.gskipU rfl) ?_);refine opsS_nil ?_;refine N.tn ?_))
    refine D.e rfl rfl rfl ?_
    refine S.crg x (args := [.pointer (some ⟨x,0,none⟩),.int .i64 o.fr,n1.val]) rfl (RgDo_spec n1 M3 x j o.fr _ hw (by omega) (by omega) (hn1.mono (hl2.trans hl3)) hN1 hoc1 hua1) ?_
    rintro _ _ ⟨f1,d1,rs2,f2,d2,ns2,f3,d3,ms2,f4,d4,is2,f5,d5,es2,M4,rfl,hl4,⟨o1',o2',o3',o4',o5'⟩,⟨q1',q2',q3',q4',q5'⟩,rfl⟩
    refine opsS_gm p hl4 ?_
    refine Q.r ?_;(repeat (intro b1;refine Q.r ?_))
    repeat (first | refine D.endA ?_ | refine Q.dp rfl rfl rfl ?_ | refine Q.dy rfl rfl rfl ?_ | refine D.end_ ?_ | refine Q.endH ?_ | (refine D.e rfl rfl rfl ?_;(first | refine S.gskip1 rfl ?_ | refine S.gskip rfl ?_ | refine S.y (Y.gskipU rfl) ?_);refine opsS_nil ?_;refine N.tn ?_))
    refine D.e rfl rfl rfl ?_
    refine Q.r ?_;(repeat (intro b1;refine Q.r ?_))
    repeat (first | refine D.endA ?_ | refine Q.dp rfl rfl rfl ?_ | refine Q.dy rfl rfl rfl ?_ | refine D.end_ ?_ | refine Q.endH ?_ | (refine D.e rfl rfl rfl ?_;(first | refine S.gskip1 rfl ?_ | refine S.gskip rfl ?_ | refine S.y (Y.gskipU rfl) ?_);refine opsS_nil ?_;refine N.tn ?_))
    refine D.e rfl rfl rfl ?_
    refine Q.r ?_;(repeat (intro b1;refine Q.r ?_))
    repeat (first | refine D.endA ?_ | refine Q.dp rfl rfl rfl ?_ | refine Q.dy rfl rfl rfl ?_ | refine D.end_ ?_ | refine Q.endH ?_ | (refine D.e rfl rfl rfl ?_;(first | refine S.gskip1 rfl ?_ | refine S.gskip rfl ?_ | refine S.y (Y.gskipU rfl) ?_);refine opsS_nil ?_;refine N.tn ?_))
    repeat (first | refine D.endA ?_ | refine Q.dp rfl rfl rfl ?_ | refine Q.dy rfl rfl rfl ?_ | refine D.end_ ?_ | refine Q.endH ?_ | (refine D.e rfl rfl rfl ?_;(first | refine S.gskip1 rfl ?_ | refine S.gskip rfl ?_ | refine S.y (Y.gskipU rfl) ?_);refine opsS_nil ?_;refine N.tn ?_))
    have hp5 : P5 M4 (planG j o.fr o.n.abs.few) a1 rs a2 ns a3 ms a4 is a5 es := ⟨o1.mono hl4,o2.mono hl4,o3.mono hl4,o4.mono hl4,o5.mono hl4,e2 ▸ q1,e2 ▸ q2,e2 ▸ q3,e2 ▸ q4,e2 ▸ q5⟩
    have hp5' : P5 M4 (planG j o.fr o.n.abs.few) f1 rs2 f2 ns2 f3 ms2 f4 is2 f5 es2 := ⟨o1',o2',o3',o4',o5',he1 ▸ q1',he1 ▸ q2',he1 ▸ q3',he1 ▸ q4',he1 ▸ q5'⟩
    refine N.tn ⟨⟨b9,b10,a1,c1,rs,a2,c2,ns,a3,c3,ms,a4,c4,is,a5,c5,es,f1,d1,rs2,f2,d2,ns2,f3,d3,ms2,f4,d4,is2,f5,d5,es2,M4⟩,⟨rfl,rfl,rfl,rfl,rfl,rfl,rfl,trivial⟩,?_,hp5,hp5',hl3.trans hl4⟩
    (try dsimp only);exact Go.SX.Ent.go
  ·refine GQ.a ?_
   refine Q.al (fun b10 => ?_)
   refine Q.r ?_;(repeat (intro b1;refine Q.r ?_))
   repeat (first | refine D.endA ?_ | refine Q.dp rfl rfl rfl ?_ | refine Q.dy rfl rfl rfl ?_ | refine D.end_ ?_ | refine Q.endH ?_ | (refine D.e rfl rfl rfl ?_;(first | refine S.gskip1 rfl ?_ | refine S.gskip rfl ?_ | refine S.y (Y.gskipU rfl) ?_);refine opsS_nil ?_;refine N.tn ?_))
   refine D.two 4 10 [99999,0,0,0] [4,9,12,13] (by kernel_rfl) rfl rfl rfl rfl (by kernel_rfl) (by kernel_rfl) ?_ ?_
   ·refine S.cg p (args := [ptrG p,.int .i64 o.fr,n2.val]) rfl (GPlan_spec n2 M2 p j o.fr _ hb hn2 hN2 (hT.mono hM2) hu2.kind) ?_
    rintro _ _ ⟨a1,c1,rs,a2,c2,ns,a3,c3,ms,a4,c4,is,a5,c5,es,M3,rfl,hl3,⟨o1,o2,o3,o4,o5⟩,⟨q1,q2,q3,q4,q5⟩,rfl⟩
    refine opsS_rgm x hl3 ?_
    refine Q.r ?_;(repeat (intro b1;refine Q.r ?_))
    repeat (first | refine D.endA ?_ | refine Q.dp rfl rfl rfl ?_ | refine Q.dy rfl rfl rfl ?_ | refine D.end_ ?_ | refine Q.endH ?_ | (refine D.e rfl rfl rfl ?_;(first | refine S.gskip1 rfl ?_ | refine S.gskip rfl ?_ | refine S.y (Y.gskipU rfl) ?_);refine opsS_nil ?_;refine N.tn ?_))
    refine D.two 9 10 [10,12,13] [9,12,13] (by kernel_rfl) rfl rfl rfl rfl (by kernel_rfl) (by kernel_rfl) ?_ ?_
    ·refine S.crg x (args := [.pointer (some ⟨x,0,none⟩),.int .i64 o.fr,n1.val]) rfl (RgDo_spec n1 M3 x j o.fr _ hw (by omega) (by omega) (hn1.mono (hl2.trans hl3)) hN1 hoc1 hua1) ?_
     rintro _ _ ⟨f1,d1,rs2,f2,d2,ns2,f3,d3,ms2,f4,d4,is2,f5,d5,es2,M4,rfl,hl4,⟨o1',o2',o3',o4',o5'⟩,⟨q1',q2',q3',q4',q5'⟩,rfl⟩
     refine opsS_gm p hl4 ?_
     refine Q.r ?_;(repeat (intro b1;refine Q.r ?_))
     repeat (first | refine D.endA ?_ | refine Q.dp rfl rfl rfl ?_ | refine Q.dy rfl rfl rfl ?_ | refine D.end_ ?_ | refine Q.endH ?_ | (refine D.e rfl rfl rfl ?_;(first | refine S.gskip1 rfl ?_ | refine S.gskip rfl ?_ | refine S.y (Y.gskipU rfl) ?_);refine opsS_nil ?_;refine N.tn ?_))
     refine D.e rfl rfl rfl ?_
     refine GQ.a ?_
     refine Q.al (fun b9 => ?_)
     refine Q.r ?_;(repeat (intro b1;refine Q.r ?_))
     repeat (first | refine D.endA ?_ | refine Q.dp rfl rfl rfl ?_ | refine Q.dy rfl rfl rfl ?_ | refine D.end_ ?_ | refine Q.endH ?_ | (refine D.e rfl rfl rfl ?_;(first | refine S.gskip1 rfl ?_ | refine S.gskip rfl ?_ | refine S.y (Y.gskipU rfl) ?_);refine opsS_nil ?_;refine N.tn ?_))
     refine D.e rfl rfl rfl ?_
     refine Q.r ?_;(repeat (intro b1;refine Q.r ?_))
     repeat (first | refine D.endA ?_ | refine Q.dp rfl rfl rfl ?_ | refine Q.dy rfl rfl rfl ?_ | refine D.end_ ?_ | refine Q.endH ?_ | (refine D.e rfl rfl rfl ?_;(first | refine S.gskip1 rfl ?_ | refine S.gskip rfl ?_ | refine S.y (Y.gskipU rfl) ?_);refine opsS_nil ?_;refine N.tn ?_))
     refine D.e rfl rfl rfl ?_
     refine Q.r ?_;(repeat (intro b1;refine Q.r ?_))
     repeat (first | refine D.endA ?_ | refine Q.dp rfl rfl rfl ?_ | refine Q.dy rfl rfl rfl ?_ | refine D.end_ ?_ | refine Q.endH ?_ | (refine D.e rfl rfl rfl ?_;(first | refine S.gskip1 rfl ?_ | refine S.gskip rfl ?_ | refine S.y (Y.gskipU rfl) ?_);refine opsS_nil ?_;refine N.tn ?_))
     repeat (first | refine D.endA ?_ | refine Q.dp rfl rfl rfl ?_ | refine Q.dy rfl rfl rfl ?_ | refine D.end_ ?_ | refine Q.endH ?_ | (refine D.e rfl rfl rfl ?_;(first | refine S.gskip1 rfl ?_ | refine S.gskip rfl ?_ | refine S.y (Y.gskipU rfl) ?_);refine opsS_nil ?_;refine N.tn ?_))
     have hp5 : P5 M4 (planG j o.fr o.n.abs.few) a1 rs a2 ns a3 ms a4 is a5 es := ⟨o1.mono hl4,o2.mono hl4,o3.mono hl4,o4.mono hl4,o5.mono hl4,e2 ▸ q1,e2 ▸ q2,e2 ▸ q3,e2 ▸ q4,e2 ▸ q5⟩
     have hp5' : P5 M4 (planG j o.fr o.n.abs.few) f1 rs2 f2 ns2 f3 ms2 f4 is2 f5 es2 := ⟨o1',o2',o3',o4',o5',he1 ▸ q1',he1 ▸ q2',he1 ▸ q3',he1 ▸ q4',he1 ▸ q5'⟩
     refine N.tn ⟨⟨b9,b10,a1,c1,rs,a2,c2,ns,a3,c3,ms,a4,c4,is,a5,c5,es,f1,d1,rs2,f2,d2,ns2,f3,d3,ms2,f4,d4,is2,f5,d5,es2,M4⟩,⟨rfl,rfl,rfl,rfl,rfl,rfl,rfl,trivial⟩,?_,hp5,hp5',hl3.trans hl4⟩
     (try dsimp only);exact Go.SX.Ent.go
    ·refine GQ.a ?_
     refine Q.al (fun b9 => ?_)
     refine Q.r ?_;(repeat (intro b1;refine Q.r ?_))
     repeat (first | refine D.endA ?_ | refine Q.dp rfl rfl rfl ?_ | refine Q.dy rfl rfl rfl ?_ | refine D.end_ ?_ | refine Q.endH ?_ | (refine D.e rfl rfl rfl ?_;(first | refine S.gskip1 rfl ?_ | refine S.gskip rfl ?_ | refine S.y (Y.gskipU rfl) ?_);refine opsS_nil ?_;refine N.tn ?_))
     refine D.e rfl rfl rfl ?_
     refine S.crg x (args := [.pointer (some ⟨x,0,none⟩),.int .i64 o.fr,n1.val]) rfl (RgDo_spec n1 M3 x j o.fr _ hw (by omega) (by omega) (hn1.mono (hl2.trans hl3)) hN1 hoc1 hua1) ?_
     rintro _ _ ⟨f1,d1,rs2,f2,d2,ns2,f3,d3,ms2,f4,d4,is2,f5,d5,es2,M4,rfl,hl4,⟨o1',o2',o3',o4',o5'⟩,⟨q1',q2',q3',q4',q5'⟩,rfl⟩
     refine opsS_gm p hl4 ?_
     refine Q.r ?_;(repeat (intro b1;refine Q.r ?_))
     repeat (first | refine D.endA ?_ | refine Q.dp rfl rfl rfl ?_ | refine Q.dy rfl rfl rfl ?_ | refine D.end_ ?_ | refine Q.endH ?_ | (refine D.e rfl rfl rfl ?_;(first | refine S.gskip1 rfl ?_ | refine S.gskip rfl ?_ | refine S.y (Y.gskipU rfl) ?_);refine opsS_nil ?_;refine N.tn ?_))
     refine D.e rfl rfl rfl ?_
     refine Q.r ?_;(repeat (intro b1;refine Q.r ?_))
     repeat (first | refine D.endA ?_ | refine Q.dp rfl rfl rfl ?_ | refine Q.dy rfl rfl rfl ?_ | refine D.end_ ?_ | refine Q.endH ?_ | (refine D.e rfl rfl rfl ?_;(first | refine S.gskip1 rfl ?_ | refine S.gskip rfl ?_ | refine S.y (Y.gskipU rfl) ?_);refine opsS_nil ?_;refine N.tn ?_))
     refine D.e rfl rfl rfl ?_
     refine Q.r ?_;(repeat (intro b1;refine Q.r ?_))
     repeat (first | refine D.endA ?_ | refine Q.dp rfl rfl rfl ?_ | refine Q.dy rfl rfl rfl ?_ | refine D.end_ ?_ | refine Q.endH ?_ | (refine D.e rfl rfl rfl ?_;(first | refine S.gskip1 rfl ?_ | refine S.gskip rfl ?_ | refine S.y (Y.gskipU rfl) ?_);refine opsS_nil ?_;refine N.tn ?_))
     repeat (first | refine D.endA ?_ | refine Q.dp rfl rfl rfl ?_ | refine Q.dy rfl rfl rfl ?_ | refine D.end_ ?_ | refine Q.endH ?_ | (refine D.e rfl rfl rfl ?_;(first | refine S.gskip1 rfl ?_ | refine S.gskip rfl ?_ | refine S.y (Y.gskipU rfl) ?_);refine opsS_nil ?_;refine N.tn ?_))
     have hp5 : P5 M4 (planG j o.fr o.n.abs.few) a1 rs a2 ns a3 ms a4 is a5 es := ⟨o1.mono hl4,o2.mono hl4,o3.mono hl4,o4.mono hl4,o5.mono hl4,e2 ▸ q1,e2 ▸ q2,e2 ▸ q3,e2 ▸ q4,e2 ▸ q5⟩
     have hp5' : P5 M4 (planG j o.fr o.n.abs.few) f1 rs2 f2 ns2 f3 ms2 f4 is2 f5 es2 := ⟨o1',o2',o3',o4',o5',he1 ▸ q1',he1 ▸ q2',he1 ▸ q3',he1 ▸ q4',he1 ▸ q5'⟩
     refine N.tn ⟨⟨b9,b10,a1,c1,rs,a2,c2,ns,a3,c3,ms,a4,c4,is,a5,c5,es,f1,d1,rs2,f2,d2,ns2,f3,d3,ms2,f4,d4,is2,f5,d5,es2,M4⟩,⟨rfl,rfl,rfl,rfl,rfl,rfl,rfl,trivial⟩,?_,hp5,hp5',hl3.trans hl4⟩
     (try dsimp only);exact Go.SX.Ent.go
   ·refine GQ.a ?_
    refine Q.al (fun b9 => ?_)
    refine Q.r ?_;(repeat (intro b1;refine Q.r ?_))
    repeat (first | refine D.endA ?_ | refine Q.dp rfl rfl rfl ?_ | refine Q.dy rfl rfl rfl ?_ | refine D.end_ ?_ | refine Q.endH ?_ | (refine D.e rfl rfl rfl ?_;(first | refine S.gskip1 rfl ?_ | refine S.gskip rfl ?_ | refine S.y (Y.gskipU rfl) ?_);refine opsS_nil ?_;refine N.tn ?_))
    refine D.e rfl rfl rfl ?_
    refine S.cg p (args := [ptrG p,.int .i64 o.fr,n2.val]) rfl (GPlan_spec n2 M2 p j o.fr _ hb hn2 hN2 (hT.mono hM2) hu2.kind) ?_
    rintro _ _ ⟨a1,c1,rs,a2,c2,ns,a3,c3,ms,a4,c4,is,a5,c5,es,M3,rfl,hl3,⟨o1,o2,o3,o4,o5⟩,⟨q1,q2,q3,q4,q5⟩,rfl⟩
    refine opsS_rgm x hl3 ?_
    refine Q.r ?_;(repeat (intro b1;refine Q.r ?_))
    repeat (first | refine D.endA ?_ | refine Q.dp rfl rfl rfl ?_ | refine Q.dy rfl rfl rfl ?_ | refine D.end_ ?_ | refine Q.endH ?_ | (refine D.e rfl rfl rfl ?_;(first | refine S.gskip1 rfl ?_ | refine S.gskip rfl ?_ | refine S.y (Y.gskipU rfl) ?_);refine opsS_nil ?_;refine N.tn ?_))
    refine D.e rfl rfl rfl ?_
    refine S.crg x (args := [.pointer (some ⟨x,0,none⟩),.int .i64 o.fr,n1.val]) rfl (RgDo_spec n1 M3 x j o.fr _ hw (by omega) (by omega) (hn1.mono (hl2.trans hl3)) hN1 hoc1 hua1) ?_
    rintro _ _ ⟨f1,d1,rs2,f2,d2,ns2,f3,d3,ms2,f4,d4,is2,f5,d5,es2,M4,rfl,hl4,⟨o1',o2',o3',o4',o5'⟩,⟨q1',q2',q3',q4',q5'⟩,rfl⟩
    refine opsS_gm p hl4 ?_
    refine Q.r ?_;(repeat (intro b1;refine Q.r ?_))
    repeat (first | refine D.endA ?_ | refine Q.dp rfl rfl rfl ?_ | refine Q.dy rfl rfl rfl ?_ | refine D.end_ ?_ | refine Q.endH ?_ | (refine D.e rfl rfl rfl ?_;(first | refine S.gskip1 rfl ?_ | refine S.gskip rfl ?_ | refine S.y (Y.gskipU rfl) ?_);refine opsS_nil ?_;refine N.tn ?_))
    refine D.e rfl rfl rfl ?_
    refine Q.r ?_;(repeat (intro b1;refine Q.r ?_))
    repeat (first | refine D.endA ?_ | refine Q.dp rfl rfl rfl ?_ | refine Q.dy rfl rfl rfl ?_ | refine D.end_ ?_ | refine Q.endH ?_ | (refine D.e rfl rfl rfl ?_;(first | refine S.gskip1 rfl ?_ | refine S.gskip rfl ?_ | refine S.y (Y.gskipU rfl) ?_);refine opsS_nil ?_;refine N.tn ?_))
    refine D.e rfl rfl rfl ?_
    refine Q.r ?_;(repeat (intro b1;refine Q.r ?_))
    repeat (first | refine D.endA ?_ | refine Q.dp rfl rfl rfl ?_ | refine Q.dy rfl rfl rfl ?_ | refine D.end_ ?_ | refine Q.endH ?_ | (refine D.e rfl rfl rfl ?_;(first | refine S.gskip1 rfl ?_ | refine S.gskip rfl ?_ | refine S.y (Y.gskipU rfl) ?_);refine opsS_nil ?_;refine N.tn ?_))
    repeat (first | refine D.endA ?_ | refine Q.dp rfl rfl rfl ?_ | refine Q.dy rfl rfl rfl ?_ | refine D.end_ ?_ | refine Q.endH ?_ | (refine D.e rfl rfl rfl ?_;(first | refine S.gskip1 rfl ?_ | refine S.gskip rfl ?_ | refine S.y (Y.gskipU rfl) ?_);refine opsS_nil ?_;refine N.tn ?_))
    have hp5 : P5 M4 (planG j o.fr o.n.abs.few) a1 rs a2 ns a3 ms a4 is a5 es := ⟨o1.mono hl4,o2.mono hl4,o3.mono hl4,o4.mono hl4,o5.mono hl4,e2 ▸ q1,e2 ▸ q2,e2 ▸ q3,e2 ▸ q4,e2 ▸ q5⟩
    have hp5' : P5 M4 (planG j o.fr o.n.abs.few) f1 rs2 f2 ns2 f3 ms2 f4 is2 f5 es2 := ⟨o1',o2',o3',o4',o5',he1 ▸ q1',he1 ▸ q2',he1 ▸ q3',he1 ▸ q4',he1 ▸ q5'⟩
    refine N.tn ⟨⟨b9,b10,a1,c1,rs,a2,c2,ns,a3,c3,ms,a4,c4,is,a5,c5,es,f1,d1,rs2,f2,d2,ns2,f3,d3,ms2,f4,d4,is2,f5,d5,es2,M4⟩,⟨rfl,rfl,rfl,rfl,rfl,rfl,rfl,trivial⟩,?_,hp5,hp5',hl3.trans hl4⟩
    (try dsimp only);exact Go.SX.Ent.go
 rintro ⟨b9,b10,a1,c1,rs,a2,c2,ns,a3,c3,ms,a4,c4,is,a5,c5,es,f1,d1,rs2,f2,d2,ns2,f3,d3,ms2,f4,d4,is2,f5,d5,es2,M3⟩ ⟨hp5,hp5',hl3⟩
 dsimp only at hp5 hp5' hl3 ⊢
 generalize hpl : planG j o.fr o.n.abs.few = pl at *
 have l1 := map_len hp5.er
 have l2 := map_len hp5.en
 have l3 := map_len hp5.em
 have l4 := map_len hp5.ei
 have l5 := map_len hp5.ee
 refine Q.r ?_;(repeat (intro b1;refine Q.r ?_))
 refine Q.dgo [true,true,true,true] [1,3,8] [] [0,2,1,3,4,5,6,7,8,9,10] ?_
 refine Q.rd ?_;(repeat (intro b1;refine Q.rd ?_))
 refine D.e rfl rfl rfl ?_
 refine S.cmG (args := [lP5 a1 c1 rs.length a2 c2 ns.length a3 c3 ms.length a4 c4 is.length a5 c5 es.length]) rfl (Lplan_spec a1 c1 rs a2 c2 ns a3 c3 ms a4 c4 is a5 c5 es M3 _ hp5.r hp5.n hp5.m hp5.i hp5.e (by omega) (by omega) (by omega) (by omega) (by omega)) ?_
 rintro _ _ ⟨g1,h1,g2,h2,g3,h3,g4,h4,g5,h5,rfl,rfl⟩
 refine opsS_abs g1 (fun N1 k1 z1 => ?_)
 refine opsS_abs g2 (fun N2 k2 z2 => ?_)
 refine opsS_abs g3 (fun N3 k3 z3 => ?_)
 refine opsS_abs g4 (fun N4 k4 z4 => ?_)
 refine opsS_abs g5 (fun N5 k5 z5 => ?_)
 have k45 := k5
 have k35 := k4.trans k45
 have k25 := k3.trans k35
 have k15 := k2.trans k25
 have k05 := k1.trans k15
 refine opsS_gm p k05 ?_
 refine opsS_rgm x k05 ?_
 have hq5 : P5 N5 pl g1 rs g2 ns g3 ms g4 is g5 es := ⟨⟨z1.mono k15,fun n hn => (hp5.r.2 n hn).mono k05⟩,⟨z2.mono k25,fun n hn => (hp5.n.2 n hn).mono k05⟩,⟨z3.mono k35,fun n hn => (hp5.m.2 n hn).mono k05⟩,⟨z4.mono k45,fun n hn => (hp5.i.2 n hn).mono k05⟩,⟨z5,fun n hn => (hp5.e.2 n hn).mono k05⟩,hp5.er,hp5.en,hp5.em,hp5.ei,hp5.ee⟩
 have hr5 := hp5.mono k05
 have hl25 := hl3.trans k05
 refine Q.r ?_;(repeat (intro b1;refine Q.r ?_))
 refine Q.rd ?_;(repeat (intro b1;refine Q.rd ?_))
 refine D.e rfl rfl rfl ?_
 refine S.cmG (args := [lP5 g1 h1 rs.length g2 h2 ns.length g3 h3 ms.length g4 h4 is.length g5 h5 es.length,lP5 f1 d1 rs2.length f2 d2 ns2.length f3 d3 ms2.length f4 d4 is2.length f5 d5 es2.length]) rfl (SamePlan15_spec g1 h1 rs g2 h2 ns g3 h3 ms g4 h4 is g5 h5 es f1 d1 rs2 f2 d2 ns2 f3 d3 ms2 f4 d4 is2 f5 d5 es2 N5 pl _ hq5 (hp5'.mono k05) hpn ⟨by omega,by omega,by omega,by omega,by omega⟩) ?_
 rintro _ _ ⟨rfl,rfl⟩
 refine Q.r ?_;(repeat (intro b1;refine Q.r ?_))
 refine Q.rd ?_;(repeat (intro b1;refine Q.rd ?_))
 refine D.e rfl rfl rfl ?_
 refine S.guard rfl ?_
 refine S.cr (args := [n2.val,n1.val]) rfl (Same12_spec n2 n1 _ (hn2.mono hl25).rd (hn1.mono (hl2.trans hl25)).rd hN2 hN1 he21) ?_
 rintro _ _ ⟨rfl,rfl⟩
 refine Q.r ?_;(repeat (intro b1;refine Q.r ?_))
 refine Q.rd ?_;(repeat (intro b1;refine Q.rd ?_))
 have hu1 : ∀ n ∈ rs,NumA n.abs ∧ OkN n := fun n hn => ⟨(hpn.r _ (hp5.er ▸ List.mem_map_of_mem hn)).1,OkN.of (hpn.r _ (hp5.er ▸ List.mem_map_of_mem hn)).2⟩
 have hu2' : ∀ n ∈ ns,NumA n.abs ∧ OkN n := fun n hn => ⟨(hpn.n _ (hp5.en ▸ List.mem_map_of_mem hn)).1,OkN.of (hpn.n _ (hp5.en ▸ List.mem_map_of_mem hn)).2⟩
 have hu4 : ∀ n ∈ is,NumA n.abs ∧ OkN n := fun n hn => ⟨(hpn.i _ (hp5.ei ▸ List.mem_map_of_mem hn)).1,OkN.of (hpn.i _ (hp5.ei ▸ List.mem_map_of_mem hn)).2⟩
 have hTN := hT2.mono hl25
 by_cases hcond : o.w = false ∧ 0 < rs.length
 ·have hst : stepG j o.d o.fr o.n.abs.few o.w = appL j pl.inst := by
   unfold stepG stepL
   rw [if_neg h8,if_neg h9,if_neg h10,hpl,if_pos ⟨hcond.1,by omega⟩]
  rw [hst]
  have hrl := hcond.2
  have hww := hcond.1
  refine Q.r ?_;(repeat (intro b1;refine Q.r ?_))
  refine S.c3 (A := jdgH N5 p j) (B := rgH N5 x j) (C := roM N5) rfl (Lapply_spec a4 c4 is p x j N5 _ hr5.i hu4 hw (by omega) (by omega) hTN) ?_
  rintro _ _ ⟨M6,rfl,hl6,rfl⟩
  rw [hr5.ei]
  refine Q.r ?_;(repeat (intro b1;refine Q.r ?_))
  refine N.r1 (RV.tmp rfl RV.nil) ?_ ⟨M6,rfl,hM2.trans (hl25.trans hl6),rfl⟩
  exact Go.SX.Ent.go
 ·have hst : stepG j o.d o.fr o.n.abs.few o.w = appL (appL j pl.rec_) pl.notes := by
   unfold stepG stepL
   rw [if_neg h8,if_neg h9,if_neg h10,hpl,if_neg (fun h => hcond ⟨h.1,by omega⟩)]
   exact List.foldl_append ..
  rw [hst]
  have hok1 := appL_ok (j := j) (l := rs.map NV.abs) hw (fun r hr => by obtain ⟨w,hw,rfl⟩ := List.mem_map.1 hr;exact (hu1 w hw).1)
  rw [hr5.er] at hok1
  obtain ⟨hj1,hj2,hj3,_⟩ := hok1
  by_cases hww : o.w = false
  ·have hrl : ¬ 0 < rs.length := fun h => hcond ⟨hww,h⟩
   refine Q.r ?_;(repeat (intro b1;refine Q.r ?_))
   refine S.c3 (A := jdgH N5 p j) (B := rgH N5 x j) (C := roM N5) rfl (Lapply_spec a1 c1 rs p x j N5 _ hr5.r hu1 hw (by omega) (by omega) hTN) ?_
   rintro _ _ ⟨M6,rfl,hl6,rfl⟩
   rw [hr5.er]
   refine Q.r ?_;(repeat (intro b1;refine Q.r ?_))
   first | refine S.c3 (A := jdgH M6 p (appL j pl.rec_)) (B := rgH M6 x (appL j pl.rec_)) (C := roM M6) rfl (Lapply_spec a2 c2 ns p x (appL j pl.rec_) M6 _ (hr5.n.mono hl6) hu2' hj1 (by omega) (by omega) (hTN.mono hl6)) ?_ | (refine S.guard rfl ?_;refine S.c3 (A := jdgH M6 p (appL j pl.rec_)) (B := rgH M6 x (appL j pl.rec_)) (C := roM M6) rfl (Lapply_spec a2 c2 ns p x (appL j pl.rec_) M6 _ (hr5.n.mono hl6) hu2' hj1 (by omega) (by omega) (hTN.mono hl6)) ?_)
   rintro _ _ ⟨M7,rfl,hl7,rfl⟩
   rw [hr5.en]
   refine Q.r ?_;(repeat (intro b1;refine Q.r ?_))
   refine N.r1 (RV.tmp rfl RV.nil) ?_ ⟨M7,rfl,hM2.trans (hl25.trans (hl6.trans hl7)),rfl⟩
   exact Go.SX.Ent.go
  ·have hww : o.w = true := by simpa using hww
   refine Q.r ?_;(repeat (intro b1;refine Q.r ?_))
   refine S.c3 (A := jdgH N5 p j) (B := rgH N5 x j) (C := roM N5) rfl (Lapply_spec a1 c1 rs p x j N5 _ hr5.r hu1 hw (by omega) (by omega) hTN) ?_
   rintro _ _ ⟨M6,rfl,hl6,rfl⟩
   rw [hr5.er]
   refine Q.r ?_;(repeat (intro b1;refine Q.r ?_))
   first | refine S.c3 (A := jdgH M6 p (appL j pl.rec_)) (B := rgH M6 x (appL j pl.rec_)) (C := roM M6) rfl (Lapply_spec a2 c2 ns p x (appL j pl.rec_) M6 _ (hr5.n.mono hl6) hu2' hj1 (by omega) (by omega) (hTN.mono hl6)) ?_ | (refine S.guard rfl ?_;refine S.c3 (A := jdgH M6 p (appL j pl.rec_)) (B := rgH M6 x (appL j pl.rec_)) (C := roM M6) rfl (Lapply_spec a2 c2 ns p x (appL j pl.rec_) M6 _ (hr5.n.mono hl6) hu2' hj1 (by omega) (by omega) (hTN.mono hl6)) ?_)
   rintro _ _ ⟨M7,rfl,hl7,rfl⟩
   rw [hr5.en]
   refine Q.r ?_;(repeat (intro b1;refine Q.r ?_))
   refine N.r1 (RV.tmp rfl RV.nil) ?_ ⟨M7,rfl,hM2.trans (hl25.trans (hl6.trans hl7)),rfl⟩
   exact Go.SX.Ent.go
end Go.Proofs.YtiampehfpgcogaaGreatDoor
namespace Go.Proofs.YtiampehfpgcogaaGreatDoor
open Go Go.SX
theorem app_gone {j : JG} {x : Int} : (appG j (goneN x)).tr.length ≤ j.tr.length ∧ (appG j (goneN x)).done = j.done := by
 by_cases hE : appGE j (goneN x) = 0
 ·rw [appGe hE (.inr rfl)]
  exact ⟨delL_len _ _,rfl⟩
 ·rw [appGno hE]
  exact ⟨Nat.le_refl _,rfl⟩
theorem appL_gone : ∀ (l : List Int) (j : JG),(appL j (l.map goneN)).tr.length ≤ j.tr.length ∧ (appL j (l.map goneN)).done = j.done
 | [],j => ⟨Nat.le_refl _,rfl⟩
 | x :: l,j => by
  obtain ⟨h1,h2⟩ := appL_gone l (appG j (goneN x))
  obtain ⟨h3,h4⟩ := app_gone (j := j) (x := x)
  exact ⟨Nat.le_trans h1 h3,h2.trans h4⟩
theorem epoch_num {j : JG} (h : WN j) : NumA (epochN (j.epoch + 1)) := by
 have e0 := h.g.b.e0
 have e1 := h.g.b.e1
 have z : (0 : Int) ≤ 18446744073709551615 := by decide
 exact NumA.of (show (0 : Int) ≤ 16 by decide) (show (16 : Int) ≤ 255 by decide) (Int.le_refl _) z (Int.le_refl _) z (Int.le_refl _) z (Int.le_refl _) z (show (0 : Int) ≤ 9223372036854775807 by decide) (show 0 ≤ j.epoch + 1 by omega) (show j.epoch + 1 ≤ _ by omega) rfl rfl rfl rfl rfl
theorem step_ok {j : JG} (h : WN j) (s1 : 1 ≤ j.shards) (s2 : j.shards ≤ 4) {n : NA} (u : NumA n) (d fr : Int) (w : Bool) :
  WN (stepG j d fr n w) ∧ (stepG j d fr n w).tr.length ≤ j.tr.length + 2 ∧ (stepG j d fr n w).done.length ≤ j.done.length + 2 ∧ (stepG j d fr n w).shards = j.shards ∧ (stepG j d fr n w).dim = j.dim := by
 have hp := plan_ok h s1 s2 u fr
 have ho := plan_ones j fr n
 unfold stepG stepL
 split
 ·obtain ⟨a,b,c,e,f⟩ := appL_ok (l := [n]) h (fun r hr => by rw [List.mem_singleton.1 hr];exact u)
  rw [List.length_singleton] at b c
  exact ⟨a,by omega,by omega,e,f⟩
 split
 ·obtain ⟨a,_,_,e,f⟩ := appL_ok (l := (quitG j).notes) h (fun r hr => ((quit_ok h).1 r hr).1)
  have hm : (quitG j).notes = ((quitL j (sortL (j.tr.map (·.1)))).map (·.txn)).map goneN := by rw [List.map_map];rfl
  obtain ⟨g1,g2⟩ := appL_gone ((quitL j (sortL (j.tr.map (·.1)))).map (·.txn)) j
  rw [← hm] at g1 g2
  exact ⟨a,Nat.le_trans g1 (Nat.le_add_right _ _),by rw [g2];exact Nat.le_add_right _ _,e,f⟩
 split
 ·obtain ⟨a,b,c,e,f⟩ := appL_ok (l := [epochN (j.epoch + 1)]) h (fun r hr => by rw [List.mem_singleton.1 hr];exact epoch_num h)
  rw [List.length_singleton] at b c
  exact ⟨a,by omega,by omega,e,f⟩
 split
 ·obtain ⟨a,b,c,e,f⟩ := appL_ok (l := (planG j fr n).inst) h (fun r hr => (hp.i r hr).1)
  exact ⟨a,by omega,by omega,e,f⟩
 ·obtain ⟨a,b,c,e,f⟩ := appL_ok (l := (planG j fr n).rec_ ++ (planG j fr n).notes) h (fun r hr => by
   rcases List.mem_append.1 hr with hr | hr
   ·exact (hp.r r hr).1
   ·exact (hp.n r hr).1)
  rw [List.length_append] at b c
  exact ⟨a,by omega,by omega,e,f⟩
structure LS (j : JG) (k : Nat) : Prop where
 w : WN j
 s : j.shards = 3
 dm : j.dim = 2
 t : j.tr.length ≤ 2 * min k 40
 d : j.done.length ≤ 2 * min k 40
theorem LS.zero : LS (JG0 3 2) 0 := ⟨⟨WG.zero (by decide) (by decide),fun _ h => (by cases h),fun _ h => (by cases h)⟩,rfl,rfl,Nat.zero_le _,Nat.zero_le _⟩
theorem LS.step {j : JG} {k : Nat} (h : LS j k) (hk : k < 40) {n : NA} (u : NumA n) (d fr : Int) (w : Bool) : LS (stepG j d fr n w) (k + 1) := by
 have h1 := h.s
 obtain ⟨a,b,c,e,f⟩ := step_ok h.w (by omega) (by omega) u d fr w
 have ht := h.t
 have hd := h.d
 exact ⟨a,by omega,by rw [f];exact h.dm,by omega,by omega⟩
theorem LS.skip {j : JG} {k : Nat} (h : LS j k) : LS j (k + 1) := by
 have ht := h.t
 have hd := h.d
 exact ⟨h.w,h.s,h.dm,by omega,by omega⟩
theorem LS.b {j : JG} {k : Nat} (h : LS j k) : j.tr.length ≤ 80 ∧ j.done.length ≤ 80 := by
 have ht := h.t
 have hd := h.d
 omega
def trsL (j : JG) : List TR := (sortL (j.tr.map (·.1))).filterMap fun x => lkL j.tr x
theorem trsL_perm {j : JG} (hk : keysOK j.tr) : (trsL j).Perm (j.tr.map (·.2)) := by
 unfold trsL
 refine ((sortL_perm _).filterMap _).trans ?_
 have : ∀ l : List (Int × TR),(∀ u ∈ l,u ∈ j.tr) → (l.map (·.1)).filterMap (fun x => lkL j.tr x) = l.map (·.2) := by
  intro l
  induction l with
  | nil => exact fun _ => rfl
  | cons u l ih =>
   intro hl
   rw [List.map_cons,List.filterMap_cons,(lkL_iff hk).2 (hl u List.mem_cons_self),List.map_cons,← ih fun v hv => hl v (List.mem_cons_of_mem _ hv)]
 rw [this j.tr fun _ h => h]
theorem trialsL (j : JG) : trialsG j = (trsL j).map bareT := by
 unfold trialsG trsL
 rw [List.map_filterMap]
theorem trials_len {j : JG} (hk : keysOK j.tr) : (trialsG j).length = j.tr.length := by
 rw [trialsL,List.length_map,(trsL_perm hk).length_eq,List.length_map]
end Go.Proofs.YtiampehfpgcogaaGreatDoor
namespace Go.Proofs.YtiampehfpgcogaaGreatDoor
open Go Go.SX
attribute [local irreducible] swp opsS thenS blockS retS CallsS St Ent YieldS anyS drawS
theorem rg_new {p : Nat} (M : Nat → Option Obj) {L : List HP} : Ent (pt p (cl [.int .i64 3,.int .i64 2,.int .u64 0,.int .u64 0,.int .u64 0,.slice none 0 0,.slice none 0 0] 33) :: L) (rgH M p (JG0 3 2) :: L) :=
 rg_shut (p := p) (j := JG0 3 2) (ta := none) (tc := 0) (ts := []) (da := none) (dc := 0) (ds := []) ⟨by decide,by decide,List.Perm.refl _,List.Pairwise.nil,fun _ h => (by cases h),fun _ h => (by cases h),SlM.nil0,Nat.le_refl _,List.Perm.refl _,List.Pairwise.nil,SlM.nil0⟩
end Go.Proofs.YtiampehfpgcogaaGreatDoor
namespace Go.SX
open Go
section
variable {P : Program} {n : Nat} {ops rest : List Oper} {Q : Post} {f : Env} {A L : List HP} {d : Tmp} {ty : TypeId} {pos : String} {af : Array Edge}
theorem Y.anI {x y : Operand} {t t' : TypeId} {k : IntKind} {a b : Int} (hx : ev f x = some (.int k a)) (hy : ev f y = some (.int k b)) : YieldS P n ops ⟨some d,.binOp .andNot t x y t',ty,pos,af,none⟩ f A ((.int k (k.wrap ((BitVec.ofInt k.bits a) &&& ~~~(BitVec.ofInt k.bits b)).toNat))) := Y.of (fun _ w s => by simp [execOp,s.eval hx,s.eval hy,eqGuard,binOp,Op.intBits])
theorem S.mks {x y : Operand} {t e : TypeId} {sz bts : Nat} {ag : Bool} {zs : List Value} {kx ky : IntKind} {m : Nat} [h : SlTy P t e] [h2 : Ty P e ag sz zs bts] (hx : ev f x = some (.int kx m)) (hy : ev f y = some (.int ky m)) (hz : zs.length = sz)
  (hb : bts * m ≤ 281474976710656) (h63 : m ≤ 9223372036854775807) (hs : m * sz ≤ 16777216) (hk : ∀ b,opsS P n ops rest Q (upd f d (.slice (some ⟨b,0,none⟩) m m)) (pt b (cl (rep m zs) e) :: L)) :
  opsS P n ops (⟨some d,.makeSlice t x y,ty,pos,af,none⟩ :: rest) Q f L := by
 obtain ⟨i,z,hi,hisz,hib,hiz,hzz⟩ := h2.raw
 refine opsS_value (R := fun v L1 => ∃ b,v = .slice (some ⟨b,0,none⟩) m m ∧ L1 = pt b (cl (rep m zs) e) :: L) (fun F ac w s t1 => ?_) (by rintro _ _ ⟨b,rfl,rfl⟩;exact hk b)
 have hr := run_makeSlice (P := P) w t e i z h.raw hi hiz kx ky (m : Int) m (by omega) (by omega) (by rw [hisz];simpa using hs) (by rw [hib];omega) (by omega)
 have hzl : z.cells.size = sz := by rw [← hz,← hzz];simp
 have e1 : madeCells z.cells (m * sz) = (rep m zs).toArray := by
  have := zero_row z.cells m sz hzl
  rw [hzz] at this
  exact this
 rw [hisz,Int.toNat_natCast,e1] at hr
 refine ⟨_,w.alloc (.cells (rep m zs).toArray e),pt w.heap.size (cl (rep m zs) e) :: L,?_,?_,_,rfl,rfl⟩
 ·simp [execOp,s.eval hx,s.eval hy,hr]
 ·exact St.pt_new t1 rfl
theorem S.cpy0 {x y : Operand} {t tx e : TypeId} {sz bts : Nat} {ag : Bool} {zs : List Value} {b o dl dc kc : Nat} {a : Option Addr} [h : SlTy P t e] [h2 : Ty P e ag sz zs bts]
  (hx : ev f x = some (.slice (some ⟨b,o,none⟩) dl dc)) (hy : ev f y = some (.slice a 0 kc)) (hk : opsS P n ops rest Q (upd f d (.int .i64 0)) L) :
  opsS P n ops (⟨some d,.call ⟨.builtin .copy,#[x,y],#[t,tx]⟩,ty,pos,af,none⟩ :: rest) Q f L := by
 refine opsS_value (R := fun v L1 => v = .int .i64 0 ∧ L1 = L) (fun F ac w s t1 => ?_) (by rintro _ _ ⟨rfl,rfl⟩;exact hk)
 have hst : (storeCells ⟨b,o,none⟩ []).run P w = .ok () w := rfl
 have hrun : (Builtin.copy_ #[t,tx] ty #[.slice (some ⟨b,o,none⟩) dl dc,.slice a 0 kc]).run P w = .ok (goInt 0) w := by
  cases a with
  | none => simp [Builtin.copy_,run_underlying h.raw,Builtin.lenOf,Builtin.firstCells,h2.size,hst]
  | some ad =>
   have hld := run_loadCells_list (P := P) w ad [] (fun j v e => by simp at e)
   simp only [List.length_nil] at hld
   simp [Builtin.copy_,run_underlying h.raw,Builtin.lenOf,Builtin.firstCells,h2.size,hld,hst]
 refine ⟨_,w,_,?_,t1,rfl,rfl⟩
 simp [execOp,resolve,invoke,s.eval hx,s.eval hy,builtin,hrun,goInt]
end
theorem SlM.fromA {M : Nat → Option Obj} {a : Option Addr} {m c l sz : Nat} {cs : List Value} (h : SlM M a m sz cs) (h1 : l ≤ m) (h2 : m ≤ c) : SlM M (Go.Proofs.YtiampehfpgcogaaGreatDoor.subA a c l sz) (m - l) sz (cs.drop (l * sz)) := by
 by_cases h0 : l = 0
 ·subst h0
  unfold Go.Proofs.YtiampehfpgcogaaGreatDoor.subA
  rw [if_pos rfl,Nat.zero_mul,List.drop_zero]
  exact h
 ·refine ⟨by rw [List.length_drop,h.1,Nat.sub_mul],?_⟩
  rcases h.2 with h3 | ⟨b,o,l',t,fz,e,e1,e2⟩
  ·omega
  ·by_cases hc : c = l
   ·exact .inl (by omega)
   ·subst e
    unfold Go.Proofs.YtiampehfpgcogaaGreatDoor.subA
    rw [if_neg h0]
    refine .inr ⟨b,o + l * sz,l',t,fz,by simp [hc],e1,fun j v hj => ?_⟩
    rw [List.getElem?_drop] at hj
    have := e2 _ v hj
    rwa [← Nat.add_assoc] at this
end Go.SX
namespace Go.Proofs.YtiampehfpgcogaaGreatDoor
open Go Go.SX
attribute [local irreducible] swp opsS thenS blockS retS CallsS St Ent YieldS anyS drawS
def peekF : List UInt8 → Nat → Nat → Nat × Nat × Int
 | [],_,_ => (0,0,2)
 | b :: bs,i,n => if i = 9 ∧ 1 < b.toNat then (0,0,4) else if b.toNat < 128 then (if b.toNat = 0 ∧ 0 < i then (0,0,4) else (n + b.toNat % 128 * 2 ^ (7 * i),i + 1,0)) else peekF bs (i + 1) (n + b.toNat % 128 * 2 ^ (7 * i))
theorem peekF_cons (b : UInt8) (bs : List UInt8) (i n : Nat) : peekF (b :: bs) i n = if i = 9 ∧ 1 < b.toNat then (0,0,4) else if b.toNat < 128 then (if b.toNat = 0 ∧ 0 < i then (0,0,4) else (n + b.toNat % 128 * 2 ^ (7 * i),i + 1,0)) else peekF bs (i + 1) (n + b.toNat % 128 * 2 ^ (7 * i)) := rfl
theorem peekF_size : ∀ (bs : List UInt8) (i n : Nat),(peekF bs i n).2.1 ≤ i + bs.length
 | [],i,n => by simp [peekF]
 | b :: bs,i,n => by
  unfold peekF
  have := peekF_size bs (i + 1) (n + b.toNat % 128 * 2 ^ (7 * i))
  rw [List.length_cons]
  repeat' split
  all_goals ((try dsimp only);omega)
set_option maxRecDepth 100000 in
theorem u8an (b : Nat) (hb : b < 256) : IntKind.u8.wrap (((BitVec.ofInt IntKind.u8.bits (b : Int)) &&& ~~~(BitVec.ofInt IntKind.u8.bits 128)).toNat : Int) = ((b % 128 : Nat) : Int) := by
 show IntKind.u8.wrap (((BitVec.ofInt 8 (b : Int)) &&& ~~~(BitVec.ofInt 8 128)).toNat : Int) = _
 rw [BitVec.toNat_and,show (BitVec.ofInt 8 (b : Int)).toNat = b by simp;omega,show (~~~(BitVec.ofInt 8 128)).toNat = 127 by decide]
 have e3 : b &&& 127 = b % 128 := (by decide : ∀ x,x < 256 → x &&& 127 = x % 128) b hb
 rw [e3,wrap_u8 (by omega) (by omega)]
theorem acc_lt {n b i : Nat} (hn : n < 2 ^ (7 * i)) (hb : b < 128) : n + b * 2 ^ (7 * i) < 2 ^ (7 * (i + 1)) := by
 have e : 2 ^ (7 * (i + 1)) = 128 * 2 ^ (7 * i) := by rw [Nat.mul_add,Nat.pow_add,Nat.mul_comm]
 have := Nat.mul_le_mul_right (2 ^ (7 * i)) (show b ≤ 127 by omega)
 omega
theorem acc_or {n b i : Nat} (hn : n < 2 ^ (7 * i)) (hi : i ≤ 9) (hb : b < 128) (h9 : i = 9 → b ≤ 1) : n + b * 2 ^ (7 * i) < 18446744073709551616 ∧
  IntKind.u64.wrap (((BitVec.ofInt IntKind.u64.bits (n : Int)) ||| (BitVec.ofInt IntKind.u64.bits (IntKind.u64.wrap ((b : Int) * 2 ^ (7 * i))))).toNat : Int) = ((n + b * 2 ^ (7 * i) : Nat) : Int) := by
 have h1 : n + b * 2 ^ (7 * i) < 18446744073709551616 := by
  by_cases h : i = 9
  ·subst h
   have := h9 rfl
   have e : (2 : Nat) ^ (7 * 9) = 9223372036854775808 := by decide
   rw [e] at hn ⊢
   omega
  ·have := acc_lt hn hb
   have h2 : 2 ^ (7 * (i + 1)) ≤ 2 ^ (7 * 9) := Nat.pow_le_pow_right (by omega) (by omega)
   have e : (2 : Nat) ^ (7 * 9) = 9223372036854775808 := by decide
   omega
 refine ⟨h1,?_⟩
 have e2 : IntKind.u64.wrap ((b : Int) * 2 ^ (7 * i)) = ((b * 2 ^ (7 * i) : Nat) : Int) := by
  have : ((b : Int) * 2 ^ (7 * i)) = ((b * 2 ^ (7 * i) : Nat) : Int) := by push_cast;rfl
  rw [this,wrap_u64 (by omega) (by omega)]
 have e : ∀ x : Nat,x < 18446744073709551616 → (BitVec.ofInt IntKind.u64.bits (x : Int)).toNat = x := fun x hx => by
  show (BitVec.ofInt 64 (x : Int)).toNat = x
  simp;omega
 have e5 : n ||| b * 2 ^ (7 * i) = n + b * 2 ^ (7 * i) := by rw [Nat.or_comm,Nat.mul_comm b,← Nat.two_pow_add_eq_or_of_lt hn,Nat.add_comm]
 rw [e2,BitVec.toNat_or,e _ (by omega),e _ (by omega),e5,wrap_u64 (by omega) (by omega)]
abbrev cB (b : UInt8) : List Value := [B b]
theorem flat_B (xs : List UInt8) : xs.flatMap cB = xs.map B := by induction xs with
 | nil => rfl
 | cons x xs ih => simp [List.flatMap_cons,ih]
set_option maxHeartbeats 2000000 in
set_option maxRecDepth 100000 in
theorem peek_spec (a : Option Addr) (c : Nat) (bs : List UInt8) (L : List HP) (h : RdS L a bs.length 1 (bs.map B)) (hb : bs.length ≤ 1000000000000) :
  CallsS Tryz.prog 131 [.slice a bs.length c] L (fun v L' => v = .tuple #[.int .u64 (peekF bs 0 0).1,.int .i64 (peekF bs 0 0).2.1,.int .i64 (peekF bs 0 0).2.2] ∧ L' = L) := by
 refine CallsS.of_body Tryz.func131 rfl rfl rfl ?_
 refine Q.r ?_;(repeat (intro b1;refine Q.r ?_))
 refine swp_cutB (σ := Unit) (fun _ => []) (fun _ => L) (fun _ => peekF bs 0 0 = (0,0,2)) ?_ ?_
 ·refine swp_loop (σ := Nat × Nat) (fun s => [(8,.slice a bs.length c),(9,.int .i64 bs.length),(5,.int .u64 s.2),(10,.int .i64 s.1)]) (fun _ => L)
   (fun s => s.1 ≤ bs.length ∧ s.1 ≤ 9 ∧ s.2 < 2 ^ (7 * s.1) ∧ peekF (bs.drop s.1) s.1 s.2 = peekF bs 0 0) (fun s => bs.length - s.1) (0,0) ⟨rfl,rfl,rfl,rfl,trivial⟩ (Ent.refl _) ⟨by omega,by omega,by simp,rfl⟩ ?_
  rintro ⟨k,n⟩ ⟨hk,h9,hn,hp⟩
  dsimp only at hk h9 hn hp ⊢
  by_cases hlt : k < bs.length
  ·obtain ⟨x,hx⟩ := mem_get hlt
   have hd : bs.drop k = x :: bs.drop (k + 1) := by
    rw [List.drop_eq_getElem_cons hlt]
    congr 1
    exact (List.getElem?_eq_some_iff.1 hx).2
   rw [hd,peekF_cons] at hp
   have hx8 : x.toNat < 256 := x.toNat_lt
   have hrs : RdS L a bs.length 1 (bs.flatMap cB) := by rw [flat_B];exact h
   obtain ⟨b,o,hia,hr⟩ := RdS.elem (g := cB) (fun _ => rfl) hrs hx rfl
   clear hrs
   rw [hia]
   have em : IntKind.i64.wrap (7 * (k : Int)) = ((7 * k : Nat) : Int) := by rw [wrap_i64 (by omega) (by omega)];push_cast;rfl
   by_cases c9 : k = 9 ∧ 1 < x.toNat
   ·rw [if_pos c9] at hp
    obtain ⟨c91,c92⟩ := c9
    rw [← hp]
    refine Q.r ?_;(repeat (intro b1;refine Q.r ?_))
    exact N.r3 (RV.tmp rfl (RV.tmp rfl (RV.tmp rfl RV.nil))) (Ent.refl _) ⟨rfl,rfl⟩
   ·rw [if_neg c9] at hp
    have hm9 : k = 9 → x.toNat % 128 ≤ 1 := fun e => by omega
    obtain ⟨ho1,ho2⟩ := acc_or (b := x.toNat % 128) hn h9 (by omega) hm9
    have hm2 := acc_lt (b := x.toNat % 128) hn (by omega)
    generalize hm : n + x.toNat % 128 * 2 ^ (7 * k) = m at *
    have hpw : (2 : Nat) ^ (7 * (k + 1)) = 2 ^ (7 * (k + 1)) := rfl
    clear hpw hn hm
    have hgo : ∀ {R : Prop},(k = 9 → x.toNat ≤ 1 → R) → (k ≠ 9 → R) → R := fun h1 h2 => by
     by_cases e : k = 9
     ·exact h1 e (by omega)
     ·exact h2 e
    refine hgo (fun c91 c92 => ?_) (fun c91 => ?_)
    all_goals refine Q.r ?_;(repeat (intro b1;refine Q.r ?_))
    all_goals refine S.y (Y.anI rfl rfl) ?_
    all_goals rw [u8an _ hx8]
    all_goals refine Q.r ?_;(repeat (intro b1;refine Q.r ?_))
    all_goals refine S.y (Y.cvi rfl) ?_
    all_goals rw [wrap_u64 (by omega) (by omega)]
    all_goals refine Q.r ?_;(repeat (intro b1;refine Q.r ?_))
    all_goals refine S.y (Y.mul rfl rfl) ?_
    all_goals rw [em]
    all_goals refine S.y (Y.shlI (b := 7 * k) rfl rfl (by show 7 * k ≤ 64;omega)) ?_
    all_goals refine S.y (Y.or rfl rfl) ?_
    all_goals rw [ho2]
    all_goals clear ho2 hgo hm9 em c9 hd hia ho1
    ·rw [if_pos (by omega)] at hp
     by_cases hx0 : x.toNat = 0
     ·rw [if_pos ⟨hx0,by omega⟩] at hp
      rw [← hp]
      clear hp
      refine Q.r ?_;(repeat (intro b1;refine Q.r ?_))
      exact N.r3 (RV.tmp rfl (RV.tmp rfl (RV.tmp rfl RV.nil))) (Ent.refl _) ⟨rfl,rfl⟩
     ·rw [if_neg (by omega)] at hp
      rw [← hp]
      clear hp
      refine Q.r ?_;(repeat (intro b1;refine Q.r ?_))
      exact N.r3 (RV.tmp rfl (RV.tmp rfl (RV.tmp rfl RV.nil))) (Ent.refl _) ⟨rfl,rfl⟩
    ·by_cases hx1 : x.toNat < 128
     ·rw [if_pos hx1] at hp
      by_cases hx0 : x.toNat = 0
      ·by_cases hk0 : 0 < k
       ·rw [if_pos ⟨hx0,hk0⟩] at hp
        rw [← hp]
        clear hp
        refine Q.r ?_;(repeat (intro b1;refine Q.r ?_))
        exact N.r3 (RV.tmp rfl (RV.tmp rfl (RV.tmp rfl RV.nil))) (Ent.refl _) ⟨rfl,rfl⟩
       ·rw [if_neg (by omega)] at hp
        rw [← hp]
        clear hp
        refine Q.r ?_;(repeat (intro b1;refine Q.r ?_))
        exact N.r3 (RV.tmp rfl (RV.tmp rfl (RV.tmp rfl RV.nil))) (Ent.refl _) ⟨rfl,rfl⟩
      ·rw [if_neg (by omega)] at hp
       rw [← hp]
       clear hp
       refine Q.r ?_;(repeat (intro b1;refine Q.r ?_))
       exact N.r3 (RV.tmp rfl (RV.tmp rfl (RV.tmp rfl RV.nil))) (Ent.refl _) ⟨rfl,rfl⟩
     ·rw [if_neg hx1] at hp
      refine Q.r ?_;(repeat (intro b1;refine Q.r ?_))
      exact ⟨(k + 1,m),⟨rfl,rfl,rfl,rfl,trivial⟩,Ent.refl _,⟨by omega,by omega,hm2,hp⟩,by dsimp only;omega⟩
  ·have hke : k = bs.length := by omega
   subst hke
   rw [List.drop_length] at hp
   refine Q.r ?_;(repeat (intro b1;refine Q.r ?_))
   exact ⟨(),trivial,Ent.refl _,hp.symm⟩
 ·rintro _ hp
  (try dsimp only at hp)
  rw [hp]
  refine Q.r ?_;(repeat (intro b1;refine Q.r ?_))
  exact N.r3 (RV.tmp rfl (RV.tmp rfl (RV.tmp rfl RV.nil))) (Ent.refl _) ⟨rfl,rfl⟩
def takeF (bs : List UInt8) (most : Nat) : Nat × Nat × Int := if (peekF bs 0 0).2.2 ≠ 0 then (0,0,(peekF bs 0 0).2.2) else if most < (peekF bs 0 0).1 then (0,0,3) else ((peekF bs 0 0).1,(peekF bs 0 0).2.1,0)
def restV (a : Option Addr) (c : Nat) (bs : List UInt8) (q : Nat × Nat × Int) : Value := if q.2.2 ≠ 0 then .slice none 0 0 else .slice (subA a c q.2.1 1) (bs.length - q.2.1) (c - q.2.1)
theorem takeF_size (bs : List UInt8) (most : Nat) : (takeF bs most).2.1 ≤ bs.length := by
 unfold takeF
 have := peekF_size bs 0 0
 split
 ·simp
 ·split
  ·simp
  ·dsimp only;omega
theorem RdS.atA {L : List HP} {a : Option Addr} {m sz : Nat} {cs : List Value} (h : RdS L a m sz cs) : m = 0 ∨ ∃ b o,a = some ⟨b,o,none⟩ := by
 rcases h.2 with h0 | ⟨b,o,e,_⟩
 ·exact .inl h0
 ·exact .inr ⟨b,o,e⟩
set_option maxHeartbeats 2000000 in
set_option maxRecDepth 100000 in
theorem take_spec (a : Option Addr) (c : Nat) (bs : List UInt8) (most : Nat) (L : List HP) (h : RdS L a bs.length 1 (bs.map B)) (hb : bs.length ≤ 1000000000000) :
  CallsS Tryz.prog 110 [.slice a bs.length c,.int .u64 most] L (fun v L' => v = .tuple #[.int .u64 (takeF bs most).1,restV a c bs (takeF bs most),.int .i64 (takeF bs most).2.2] ∧ L' = L) := by
 have hsz := peekF_size bs 0 0
 have hat := RdS.atA h
 have hp := peek_spec a c bs L h hb
 unfold takeF
 generalize peekF bs 0 0 = q at *
 obtain ⟨v,sz,e⟩ := q
 dsimp only at *
 refine CallsS.of_body Tryz.func110 rfl rfl rfl ?_
 refine Q.r ?_;(repeat (intro b1;refine Q.r ?_))
 refine S.cr rfl hp ?_
 rintro _ _ ⟨rfl,rfl⟩
 clear hp
 by_cases he : e = 0
 ·subst he
  by_cases hm : most < v
  ·rw [if_neg (by decide),if_pos hm]
   refine Q.r ?_;(repeat (intro b1;refine Q.r ?_))
   exact N.r3 (RV.tmp rfl (RV.tmp rfl (RV.tmp rfl RV.nil))) (Ent.refl _) ⟨rfl,rfl⟩
  ·rw [if_neg (by decide),if_neg hm]
   refine Q.r ?_;(repeat (intro b1;refine Q.r ?_))
   refine Q.dgo [] [] [] [0,1,2,3,4,5,6] ?_
   refine Q.rd ?_;(repeat (intro b1;refine Q.rd ?_))
   refine D.y rfl rfl rfl (by kernel_rfl) (Y.slFa rfl rfl rfl (by omega) hat) ?_
   refine Q.rd ?_;(repeat (intro b1;refine Q.rd ?_))
   refine Q.r ?_;(repeat (intro b1;refine Q.r ?_))
   exact N.r3 (RV.tmp rfl (RV.tmp rfl (RV.tmp rfl RV.nil))) (Ent.refl _) ⟨rfl,rfl⟩
 ·rw [if_pos he]
  refine Q.r ?_;(repeat (intro b1;refine Q.r ?_))
  refine N.r3 (RV.tmp rfl (RV.tmp rfl (RV.tmp rfl RV.nil))) (Ent.refl _) ⟨?_,rfl⟩
  unfold restV
  rw [if_pos he]
  rfl
abbrev rdP (r : Nat) (a : Option Addr) (m c : Nat) (bad : Int) : HP := pt r (cl [.slice a m c,.int .i64 bad] 182)
set_option maxHeartbeats 1000000 in
theorem fail_spec (r : Nat) (a : Option Addr) (m c : Nat) (bad e : Int) (L : List HP) :
  CallsS Tryz.prog 132 [.pointer (some ⟨r,0,none⟩),.int .i64 e] (rdP r a m c bad :: L) (fun v L' => v = .tuple #[] ∧ L' = rdP r a m c (if bad = 0 then e else bad) :: L) := by
 refine CallsS.of_body Tryz.func132 rfl rfl rfl ?_
 by_cases hb : bad = 0
 ·rw [if_pos hb]
  refine Q.r ?_;(repeat (intro b1;refine Q.r ?_))
  exact N.n0 RV.nil (Ent.refl _) ⟨rfl,rfl⟩
 ·rw [if_neg hb]
  refine Q.r ?_;(repeat (intro b1;refine Q.r ?_))
  exact N.n0 RV.nil (Ent.refl _) ⟨rfl,rfl⟩
set_option maxHeartbeats 1000000 in
theorem rstep_spec (r : Nat) (a a2 : Option Addr) (m c m2 c2 : Nat) (bad e : Int) (L : List HP) :
  CallsS Tryz.prog 111 [.pointer (some ⟨r,0,none⟩),.slice a2 m2 c2,.int .i64 e] (rdP r a m c bad :: L)
   (fun v L' => v = .bool (decide (e = 0)) ∧ L' = (if e = 0 then rdP r a2 m2 c2 bad else rdP r a m c (if bad = 0 then e else bad)) :: L) := by
 refine CallsS.of_body Tryz.func111 rfl rfl rfl ?_
 by_cases he : e = 0
 ·rw [if_pos he]
  refine Q.r ?_;(repeat (intro b1;refine Q.r ?_))
  exact N.r1 (RV.tmp rfl RV.nil) (Ent.refl _) ⟨by rw [decide_eq_true he],rfl⟩
 ·rw [if_neg he]
  refine Q.r ?_;(repeat (intro b1;refine Q.r ?_))
  refine S.cr rfl (fail_spec r a m c bad e L) ?_
  rintro _ _ ⟨rfl,rfl⟩
  refine Q.r ?_;(repeat (intro b1;refine Q.r ?_))
  exact N.r1 (RV.tmp rfl RV.nil) (Ent.refl _) ⟨by rw [decide_eq_false he],rfl⟩
set_option maxHeartbeats 1000000 in
theorem dead_spec (r : Nat) (a : Option Addr) (m c : Nat) (bad : Int) (L : List HP) :
  CallsS Tryz.prog 109 [.pointer (some ⟨r,0,none⟩)] (rdP r a m c bad :: L) (fun v L' => v = .bool (!decide (bad = 0)) ∧ L' = rdP r a m c bad :: L) := by
 refine CallsS.of_body Tryz.func109 rfl rfl rfl ?_
 refine Q.r ?_;(repeat (intro b1;refine Q.r ?_))
 exact N.r1 (RV.tmp rfl RV.nil) (Ent.refl _) ⟨rfl,rfl⟩
def numF (most : Nat) (bs : List UInt8) (bad : Int) : Nat × List UInt8 × Int := if bad ≠ 0 then (0,bs,bad) else if (takeF bs most).2.2 ≠ 0 then (0,bs,(takeF bs most).2.2) else ((takeF bs most).1,bs.drop (takeF bs most).2.1,0)
set_option maxHeartbeats 2000000 in
set_option maxRecDepth 100000 in
theorem rNum_spec (r : Nat) (a : Option Addr) (c : Nat) (bs : List UInt8) (bad : Int) (most : Nat) (M : Nat → Option Obj) (L : List HP) [hM : HasM M L] (h : SlM M a bs.length 1 (bs.map B)) (hc : bs.length ≤ c) (hb : bs.length ≤ 1000000000000) :
  CallsS Tryz.prog 66 [.pointer (some ⟨r,0,none⟩),.int .u64 most] (rdP r a bs.length c bad :: L)
   (fun v L' => v = .int .u64 (numF most bs bad).1 ∧ ∃ a' c',SlM M a' (numF most bs bad).2.1.length 1 ((numF most bs bad).2.1.map B) ∧ (numF most bs bad).2.1.length ≤ c' ∧ L' = rdP r a' (numF most bs bad).2.1.length c' (numF most bs bad).2.2 :: L) := by
 refine CallsS.of_body Tryz.func66 rfl rfl rfl ?_
 refine Q.r ?_;(repeat (intro b1;refine Q.r ?_))
 refine S.cr rfl (dead_spec r a bs.length c bad L) ?_
 rintro _ _ ⟨rfl,rfl⟩
 unfold numF
 by_cases hd : bad = 0
 ·subst hd
  rw [if_neg (by decide)]
  refine Q.r ?_;(repeat (intro b1;refine Q.r ?_))
  refine S.cr rfl (take_spec a c bs most (rdP r a bs.length c 0 :: L) (h.rd (hm := HasM.there)) hb) ?_
  rintro _ _ ⟨rfl,rfl⟩
  have hsz := takeF_size bs most
  generalize takeF bs most = q at *
  obtain ⟨v,sz,e⟩ := q
  dsimp only at *
  refine Q.r ?_;(repeat (intro b1;refine Q.r ?_))
  unfold restV
  dsimp only
  by_cases he : e = 0
  ·subst he
   rw [if_neg (by decide),if_neg (by decide)]
   refine S.cr rfl (rstep_spec r a (subA a c sz 1) bs.length c (bs.length - sz) (c - sz) 0 0 L) ?_
   rintro _ _ ⟨rfl,rfl⟩
   rw [if_pos rfl]
   refine Q.r ?_;(repeat (intro b1;refine Q.r ?_))
   have hs := h.fromA (l := sz) hsz hc
   rw [Nat.mul_one,← List.map_drop] at hs
   refine N.r1 (RV.tmp rfl RV.nil) (Ent.refl _) ⟨rfl,subA a c sz 1,c - sz,?_,?_,?_⟩
   ·dsimp only
    rw [List.length_drop]
    exact hs
   ·dsimp only
    rw [List.length_drop]
    omega
   ·dsimp only
    rw [List.length_drop]
  ·rw [if_pos he,if_pos he]
   refine S.cr rfl (rstep_spec r a none bs.length c 0 0 0 e L) ?_
   rintro _ _ ⟨rfl,rfl⟩
   rw [if_neg he,if_pos rfl]
   refine Q.r ?_;(repeat (intro b1;refine Q.r ?_))
   exact N.r1 (RV.tmp rfl RV.nil) (Ent.refl _) ⟨rfl,a,c,h,hc,rfl⟩
 ·rw [if_pos hd]
  refine Q.r ?_;(repeat (intro b1;refine Q.r ?_))
  exact N.r1 (RV.tmp rfl RV.nil) (Ent.refl _) ⟨rfl,a,c,h,hc,rfl⟩
set_option maxHeartbeats 1000000 in
theorem rLeft_spec (r : Nat) (a : Option Addr) (m c : Nat) (bad : Int) (L : List HP) :
  CallsS Tryz.prog 68 [.pointer (some ⟨r,0,none⟩)] (rdP r a m c bad :: L) (fun v L' => v = .int .i64 m ∧ L' = rdP r a m c bad :: L) := by
 refine CallsS.of_body Tryz.func68 rfl rfl rfl ?_
 refine Q.r ?_;(repeat (intro b1;refine Q.r ?_))
 exact N.r1 (RV.tmp rfl RV.nil) (Ent.refl _) ⟨rfl,rfl⟩
def endF (bs : List UInt8) (bad : Int) : Int := if bad ≠ 0 then bad else if bs.length = 0 then 0 else 4
set_option maxHeartbeats 1000000 in
theorem rEnd_spec (r : Nat) (a : Option Addr) (c : Nat) (bs : List UInt8) (bad : Int) (L : List HP) :
  CallsS Tryz.prog 69 [.pointer (some ⟨r,0,none⟩)] (rdP r a bs.length c bad :: L) (fun v L' => v = .int .i64 (endF bs bad) ∧ L' = rdP r a bs.length c bad :: L) := by
 refine CallsS.of_body Tryz.func69 rfl rfl rfl ?_
 unfold endF
 by_cases hd : bad = 0
 ·rw [if_neg (by simpa using hd)]
  by_cases hl : bs.length = 0
  ·rw [if_pos hl]
   refine Q.r ?_;(repeat (intro b1;refine Q.r ?_))
   exact N.r1 (RV.tmp rfl RV.nil) (Ent.refl _) ⟨rfl,rfl⟩
  ·rw [if_neg hl]
   refine Q.r ?_;(repeat (intro b1;refine Q.r ?_))
   exact N.r1 (RV.tmp rfl RV.nil) (Ent.refl _) ⟨rfl,rfl⟩
 ·rw [if_pos hd]
  refine Q.r ?_;(repeat (intro b1;refine Q.r ?_))
  exact N.r1 (RV.tmp rfl RV.nil) (Ent.refl _) ⟨rfl,rfl⟩
set_option maxHeartbeats 1000000 in
theorem rNew_spec (a : Option Addr) (c : Nat) (bs : List UInt8) (M : Nat → Option Obj) (L L0 : List HP) [hP : PickM L M L0] (h : RdS L a bs.length 1 (bs.map B)) (hb : bs.length ≤ 1000000) :
  CallsS Tryz.prog 65 [.slice a bs.length c] L (fun v L' => ∃ r a' M',v = .pointer (some ⟨r,0,none⟩) ∧ leM M M' ∧ SlM M' a' bs.length 1 (bs.map B) ∧ L' = rdP r a' bs.length bs.length 0 :: roM M' :: L0) := by
 refine CallsS.of_body Tryz.func65 rfl rfl rfl ?_
 refine Q.r ?_;(repeat (intro b1;refine Q.r ?_))
 refine S.mks (m := bs.length) rfl rfl (by rfl) (by omega) (by omega) (by omega) (fun b1 => ?_)
 refine Q.r ?_;(repeat (intro b1;refine Q.r ?_))
 have hput : putAt (rep bs.length [.int .u8 0]) 0 (bs.map B) = bs.map B := by
  have hl : (rep bs.length [Value.int .u8 0]).length = bs.length := by rw [rep_length];simp
  unfold putAt
  rw [List.take_zero,List.nil_append,Nat.zero_add,List.drop_eq_nil_of_le (by rw [hl,List.length_map];exact Nat.le_refl _),List.append_nil]
 rcases h.2 with h0 | ⟨b2,o2,rfl,hr⟩
 ·have hn : bs = [] := List.eq_nil_of_length_eq_zero h0
  subst hn
  refine S.cpy0 rfl rfl ?_
  refine opsS_ent (slO_fold (sz := 1) (m := 0) rfl) ?_
  refine opsS_absorb (fun M' hl hs => ?_)
  refine Q.r ?_;(repeat (intro b1;refine Q.r ?_))
  exact N.r1 (RV.tmp rfl RV.nil) (Ent.refl _) ⟨b1,_,M',rfl,hl,hs,rfl⟩
 ·refine S.cpy (l' := bs.map B) rfl rfl hr.sub (by simp) (by rw [rep_length];simp) (B_one _) hput ?_
  refine opsS_ent (slO_fold (sz := 1) (m := bs.length) (by simp)) ?_
  refine opsS_absorb (fun M' hl hs => ?_)
  refine Q.r ?_;(repeat (intro b1;refine Q.r ?_))
  exact N.r1 (RV.tmp rfl RV.nil) (Ent.refl _) ⟨b1,_,M',rfl,hl,hs,rfl⟩
end Go.Proofs.YtiampehfpgcogaaGreatDoor
namespace Go.Proofs.YtiampehfpgcogaaGreatDoor
open Go Go.SX
attribute [local irreducible] swp opsS thenS blockS retS CallsS St Ent YieldS anyS drawS
set_option maxHeartbeats 2000000 in
set_option maxRecDepth 100000 in
theorem equalB_spec (a a2 : Option Addr) (c c2 : Nat) (xs ys : List UInt8) (M : Nat → Option Obj) (L : List HP) (h1 : SlM M a xs.length 1 (xs.map B)) (h2 : SlM M a2 ys.length 1 (ys.map B)) (hb0 : ys.length ≤ 1000000000000) :
  CallsS Tryz.prog 70 [.slice a xs.length c,.slice a2 ys.length c2] (roM M :: L) (fun v L' => v = .bool (decide (xs = ys)) ∧ L' = roM M :: L) := by
 refine CallsS.of_body Tryz.func70 rfl rfl rfl ?_
 by_cases hl : xs.length = ys.length
 ·have hb : xs.length ≤ 1000000000000 := by omega
  refine Q.r ?_;(repeat (intro b1;refine Q.r ?_))
  refine swp_cutB (σ := Unit) (fun _ => []) (fun _ => roM M :: L) (fun _ => xs = ys) ?_ ?_
  ·refine swp_loop (σ := Nat) (fun k => [(0,.slice a xs.length c),(1,.slice a2 ys.length c2),(12,.int .i64 xs.length),(13,.int .i64 k)]) (fun _ => roM M :: L)
    (fun k => k ≤ xs.length ∧ xs.take k = ys.take k) (fun k => xs.length - k) 0 ⟨rfl,rfl,rfl,rfl,trivial⟩ (Ent.refl _) ⟨by omega,rfl⟩ ?_
   rintro k ⟨hk,ht⟩
   by_cases hlt : k < xs.length
   ·obtain ⟨x,hx⟩ := mem_get hlt
    obtain ⟨y,hy⟩ := mem_get (l := ys) (k := k) (by omega)
    obtain ⟨b,o,hia,cr1⟩ := SlM.cm1 (g := B) h1 hx rfl
    obtain ⟨b',o',hia2,cr2⟩ := SlM.cm1 (g := B) h2 hy rfl
    have hr := cr1.rd (L := roM M :: L)
    have hr' := cr2.rd (L := roM M :: L)
    have hrA := cr1.rd (L := [roM M])
    have hrA' := cr2.rd (L := [roM M])
    rw [hia,hia2]
    by_cases he : x = y
    ·subst he
     refine Q.r ?_;(repeat (intro b1;refine Q.r ?_))
     refine Q.dgo [true] [] [] [0,1,2,3,4,5,6,7,8] ?_
     refine Q.rd ?_;(repeat (intro b1;refine Q.rd ?_))
     refine Q.r ?_;(repeat (intro b1;refine Q.r ?_))
     exact ⟨k + 1,⟨rfl,rfl,rfl,rfl,trivial⟩,Ent.refl _,⟨by omega,by rw [take_snoc hx,take_snoc hy,ht]⟩,by omega⟩
    ·have hne : ¬ x.toNat = y.toNat := fun e => he (UInt8.toNat_inj.1 e)
     refine Q.r ?_;(repeat (intro b1;refine Q.r ?_))
     refine Q.dgo [true] [] [] [0,1,2,3,4,5,6,7,8] ?_
     refine Q.rd ?_;(repeat (intro b1;refine Q.rd ?_))
     refine Q.r ?_;(repeat (intro b1;refine Q.r ?_))
     refine N.r1 (RV.tmp rfl RV.nil) (Ent.refl _) ⟨?_,rfl⟩
     rw [decide_eq_false]
     intro e
     subst e
     rw [hx] at hy
     exact he (Option.some.inj hy)
   ·have hke : k = xs.length := by omega
    subst hke
    rw [List.take_length,hl,List.take_length] at ht
    refine Q.r ?_;(repeat (intro b1;refine Q.r ?_))
    exact ⟨(),trivial,Ent.refl _,ht⟩
  ·rintro _ he
   refine Q.r ?_;(repeat (intro b1;refine Q.r ?_))
   exact N.r1 (RV.tmp rfl RV.nil) (Ent.refl _) ⟨by rw [decide_eq_true he],rfl⟩
 ·refine Q.r ?_;(repeat (intro b1;refine Q.r ?_))
  exact N.r1 (RV.tmp rfl RV.nil) (Ent.refl _) ⟨by rw [decide_eq_false (fun e => hl (by rw [e]))],rfl⟩
theorem peekF_numB : ∀ (m : Nat) (i n : Nat) (rest : List UInt8),i ≤ 9 → m * 2 ^ (7 * i) < 18446744073709551616 → (0 < i → 0 < m) → peekF (numB m ++ rest) i n = (n + m * 2 ^ (7 * i),i + (numB m).length,0) := by
 intro m
 induction m using Nat.strongRecOn with
 | ind m ih =>
  intro i n rest hi hm hp
  by_cases hl : m < 128
  ·rw [numB_lo hl]
   show peekF (UInt8.ofNat m :: rest) i n = _
   have e : (UInt8.ofNat m).toNat = m := by rw [UInt8.toNat_ofNat'];omega
   have h9 : ¬ (i = 9 ∧ 1 < m) := by
    rintro ⟨rfl,h1⟩
    have e2 : (2 : Nat) ^ (7 * 9) = 9223372036854775808 := by decide
    rw [e2] at hm
    omega
   rw [peekF_cons,e,if_neg h9,if_pos hl,if_neg (by omega),Nat.mod_eq_of_lt hl]
   rfl
  ·rw [numB_hi hl]
   show peekF (UInt8.ofNat (m % 128 + 128) :: (numB (m / 128) ++ rest)) i n = _
   have e : (UInt8.ofNat (m % 128 + 128)).toNat = m % 128 + 128 := by rw [UInt8.toNat_ofNat'];omega
   have hp2 : 2 ^ (7 * (i + 1)) = 128 * 2 ^ (7 * i) := by rw [Nat.mul_add,Nat.pow_add,Nat.mul_comm]
   have hi9 : i < 9 := by
    by_cases h : i = 9
    ·subst h
     have e2 : (2 : Nat) ^ (7 * 9) = 9223372036854775808 := by decide
     rw [e2] at hm
     omega
    ·omega
   have hdm : m = 128 * (m / 128) + m % 128 := (Nat.div_add_mod m 128).symm
   have hmul : m / 128 * 2 ^ (7 * (i + 1)) + m % 128 * 2 ^ (7 * i) = m * 2 ^ (7 * i) := by
    rw [hp2]
    conv => rhs;rw [hdm,Nat.add_mul]
    rw [Nat.mul_left_comm,Nat.mul_assoc]
   rw [peekF_cons,e,if_neg (by omega),if_neg (by omega),ih (m / 128) (by omega) (i + 1) _ rest (by omega) (by omega) (by omega),List.length_cons]
   have e4 : (m % 128 + 128) % 128 = m % 128 := by omega
   rw [e4,Nat.add_assoc,Nat.add_comm (m % 128 * 2 ^ (7 * i)),hmul]
   congr 2
   omega
theorem takeF_num {m most : Nat} (rest : List UInt8) (hm : m < 18446744073709551616) (h : m ≤ most) : takeF (numB m ++ rest) most = (m,(numB m).length,0) := by
 unfold takeF
 rw [peekF_numB m 0 0 rest (by omega) (by simpa using hm) (by omega),if_neg (by simp),if_neg (by simpa using h)]
 simp
theorem numF_num {m most : Nat} (rest : List UInt8) (hm : m < 18446744073709551616) (h : m ≤ most) : numF most (numB m ++ rest) 0 = (m,rest,0) := by
 unfold numF
 rw [takeF_num rest hm h,if_neg (by simp),if_neg (by simp),List.drop_left]
theorem numF_numI {z : Int} {most : Nat} (rest : List UInt8) (h0 : 0 ≤ z) (hm : z ≤ 18446744073709551615) (h : z ≤ most) : numF most (numI z ++ rest) 0 = (z.toNat,rest,0) := by
 unfold numI
 rw [if_neg (by omega)]
 exact numF_num rest (by omega) (by omega)
end Go.Proofs.YtiampehfpgcogaaGreatDoor
namespace Go.Proofs.YtiampehfpgcogaaGreatDoor
open Go Go.SX
attribute [local irreducible] swp opsS thenS blockS retS CallsS St Ent YieldS anyS drawS
end Go.Proofs.YtiampehfpgcogaaGreatDoor
namespace Go.Proofs.YtiampehfpgcogaaGreatDoor
open Go Go.SX
attribute [local irreducible] swp opsS thenS blockS retS CallsS St Ent YieldS anyS drawS
def packD (d : Int × Int) : List UInt8 := numI d.1 ++ numI d.2
def packT (t : TR) : List UInt8 := numI t.txn ++ numI t.batch ++ numI t.stamp ++ numI (t.parts.length : Int) ++ t.parts.flatMap numI
def dnL (j : JG) : List (Int × Int) := (sortL (j.done.map (·.1))).map fun b => (b,(lkL j.done b).getD 0)
def com0 (t : TR) : Bool := decide (0 < t.stamp)
def comL (j : JG) : List TR := (trsL j).filter com0
def packW (j : JG) : List UInt8 := numI j.epoch ++ numI j.last ++ numI (j.done.length : Int)
def packG (j : JG) : List UInt8 := packW j ++ (dnL j).flatMap packD ++ numI ((comL j).length : Int) ++ (comL j).flatMap packT
theorem dn_lk {j : JG} {b : Int} (h : b ∈ sortL (j.done.map (·.1))) (hk : keysOK j.done) : ∃ s,lkL j.done b = some s := by
 obtain ⟨u,hu,rfl⟩ := List.mem_map.1 ((sortL_perm _).mem_iff.1 h)
 exact ⟨u.2,(lkL_iff hk).2 hu⟩
theorem packD_len {d : Int × Int} (h1 : d.1 ≤ 18446744073709551615) (h2 : d.2 ≤ 18446744073709551615) : (packD d).length ≤ 20 := by
 have := numI_len h1
 have := numI_len h2
 unfold packD
 rw [List.length_append];omega
structure PT (x : Int) (t : TR) : Prop where
 xx : t.txn = x
 x1 : x ≤ 18446744073709551615
 b1 : t.batch ≤ 18446744073709551615
 s1 : t.stamp ≤ 1099511627776
 pl : t.parts.length ≤ 4
 pb : ∀ q ∈ t.parts,0 ≤ q ∧ q < 16
structure PB (j : JG) : Prop where
 e0 : 0 ≤ j.epoch
 e1 : j.epoch ≤ 1099511627776
 l0 : 0 ≤ j.last
 l1 : j.last ≤ 1099511627776
 kt : keysOK j.tr
 kd : keysOK j.done
 tx : ∀ u ∈ j.tr,PT u.1 u.2
 d : ∀ u ∈ j.done,u.1 ≤ 18446744073709551615 ∧ u.2 ≤ 1099511627776
theorem PB.lk {j : JG} (h : PB j) {x : Int} {t : TR} (ht : lkL j.tr x = some t) : PT x t := h.tx _ ((lkL_iff h.kt).1 ht)
theorem WN.pb {j : JG} (h : WN j) : PB j := ⟨h.g.b.e0,h.g.b.e1,h.g.b.l0,h.g.b.l1,h.g.kt,h.g.kd,fun u hu => ⟨(h.g.tx u hu).xx,(h.t u hu).x1,(h.t u hu).b1,(h.t u hu).s1,(h.g.tx u hu).pl,(h.g.tx u hu).pb⟩,fun u hu => (h.d u hu).2⟩
theorem packT_lenB {j : JG} (h : PB j) {x : Int} {t : TR} (ht : lkL j.tr x = some t) : (packT t).length ≤ 80 := by
 have hW := h.lk ht
 have hx := hW.xx
 have hx1 := hW.x1
 have hs1 := hW.s1
 have hpl := hW.pl
 have h1 := numI_len (z := t.txn) (by omega)
 have h2 := numI_len hW.b1
 have h3 := numI_len (z := t.stamp) (by omega)
 have h4 := numI_len (z := (t.parts.length : Int)) (by omega)
 have h5 : (t.parts.flatMap numI).length ≤ t.parts.length * 10 := flat_le fun q hq => numI_len (by have := hW.pb q hq;omega)
 unfold packT
 simp only [List.length_append]
 omega
theorem trs_memB {j : JG} (h : PB j) {t : TR} (ht : t ∈ trsL j) : lkL j.tr t.txn = some t := by
 obtain ⟨w,hw,rfl⟩ := List.mem_map.1 ((trsL_perm h.kt).mem_iff.1 ht)
 rw [(h.tx w hw).xx]
 exact (lkL_iff h.kt).2 hw
theorem packT_len {j : JG} (h : WN j) {x : Int} {t : TR} (ht : lkL j.tr x = some t) : (packT t).length ≤ 80 := packT_lenB h.pb ht
theorem trs_mem {j : JG} (h : WN j) {t : TR} (ht : t ∈ trsL j) : lkL j.tr t.txn = some t := trs_memB h.pb ht
theorem trsL_snoc {j : JG} {xs : List Int} {i : Nat} {x : Int} {t : TR} (hx : xs[i]? = some x) (ht : lkL j.tr x = some t) : (((xs.take (i + 1)).filterMap fun x => lkL j.tr x).filter com0) = (((xs.take i).filterMap fun x => lkL j.tr x).filter com0) ++ if 0 < t.stamp then [t] else [] := by
 rw [take_snoc hx,List.filterMap_append,List.filterMap_cons,ht,List.filter_append]
 by_cases h : 0 < t.stamp
 ·rw [if_pos h];simp [com0,h]
 ·rw [if_neg h];simp [com0,h]
theorem mapP_len {α β : Type} {f : α → β} {l : List α} {m : List β} (h : l.map f = m) : l.length = m.length := by rw [← h,List.length_map]
abbrev ptU (u : TB) : Value := ptT u.2
set_option maxHeartbeats 8000000 in
theorem GPack_specB (M : Nat → Option Obj) (p : Nat) (j : JG) (L : List HP) (hw : PB j) (htl : j.tr.length ≤ 100000) (hdl : j.done.length ≤ 100000) :
  CallsS Tryz.prog 19 [ptrG p] (jdgH M p j :: roM M :: L) (fun r L' => ∃ (a : Option Addr) (c : Nat) (M' : Nat → Option Obj),r = .slice a (packG j).length c ∧ leM M M' ∧ L' = slO 5 1 a (packG j).length c ((packG j).map B) :: jdgH M' p j :: roM M' :: L) := by
 have e0 := hw.e0
 have e1 := hw.e1
 have l0 := hw.l0
 have l1 := hw.l1
 refine CallsS.of_body Tryz.func19 rfl rfl rfl ?_
 refine Q.r ?_;(repeat (intro b1;refine Q.r ?_))
 revert b1
 intro bw
 refine swp_ent wH_new ?_
 refine swp_jdg p (fun mt md ts hq => ?_)
 have hlts : ts.length = j.tr.length := by rw [← hq.tr,List.length_map]
 refine Q.dgo [true,false,false,true] [15,16] [] [0,1,2,3,4,5,6,7,8,9,10,11,12,13,14,15,16] ?_
 refine Q.rd ?_;(repeat (intro b1;refine Q.rd ?_))
 refine D.y rfl rfl rfl (by kernel_rfl) (Y.cvi rfl) ?_
 rw [wrap_u64 (by omega) (by omega)]
 refine Q.rd ?_;(repeat (intro b1;refine Q.rd ?_))
 refine D.e rfl rfl rfl ?_
 refine S.c1 (A := wH bw []) rfl (wNums_spec bw [] (some ⟨b1,0,none⟩) 3 [j.epoch,j.last,(j.done.length : Int)] _ (RdS.row1 rfl) (by intro z hz;rcases (by simpa using hz : z = j.epoch ∨ z = j.last ∨ z = (j.done.length : Int)) with rfl | rfl | rfl <;> omega) (by simp)) ?_
 rintro _ _ ⟨rfl,rfl⟩
 have eW : [] ++ [j.epoch,j.last,(j.done.length : Int)].flatMap numI = packW j := by simp [packW]
 rw [eW]
 have hWl : (packW j).length ≤ 30 := by
  have h1 := numI_len (z := j.epoch) (by omega)
  have h2 := numI_len (z := j.last) (by omega)
  have h3 := numI_len (z := (j.done.length : Int)) (by omega)
  unfold packW
  simp only [List.length_append];omega
 obtain ⟨W0,hW0⟩ : ∃ W0,W0 = packW j := ⟨_,rfl⟩
 rw [← hW0] at hWl ⊢
 refine Q.r ?_;(repeat (intro b1;refine Q.r ?_))
 refine Q.rd ?_;(repeat (intro b1;refine Q.rd ?_))
 refine Q.r ?_;(repeat (intro b1;refine Q.r ?_))
 refine S.cr rfl (MapKeysU_spec (some md) _) ?_
 rintro _ _ ⟨bm,rfl,rfl⟩
 refine Q.r ?_;(repeat (intro b1;refine Q.r ?_))
 refine opsS_ent (L' := pt bm (cl [.map (some md)] 79) :: gD md j.done :: gP p j mt md :: wH bw W0 :: gT mt ts :: trsH ts :: roM M :: L) (by exact Go.SX.Ent.go) ?_
 have hs := KeysU_spec U64 bm md j.done (gP p j mt md :: wH bw W0 :: gT mt ts :: trsH ts :: roM M :: L)
 refine S.cr rfl (Sorted_spec _ _ (j.done.map (·.1)) _ _ (by rw [List.length_map];omega) (by rw [List.length_map];exact hs)) ?_
 rintro _ _ ⟨a1,c1,rfl,rfl⟩
 rw [List.length_map]
 have hdk : (sortL (j.done.map (·.1))).length = j.done.length := by rw [sortL_len,List.length_map]
 have hdnl : (dnL j).length = j.done.length := by unfold dnL;rw [List.length_map,hdk]
 have hdm : ∀ d ∈ dnL j,d.1 ≤ 18446744073709551615 ∧ d.2 ≤ 18446744073709551615 := fun d hd => by
  obtain ⟨b,hb,rfl⟩ := List.mem_map.1 hd
  obtain ⟨s,hs⟩ := dn_lk hb hw.kd
  have hm := hw.d _ (lk_memL hs)
  dsimp only
  rw [hs]
  have := hm.2
  exact ⟨hm.1,by show s ≤ _;omega⟩
 have hpd : ∀ d ∈ dnL j,(packD d).length ≤ 20 := fun d hd => packD_len (hdm d hd).1 (hdm d hd).2
 refine Q.r ?_;(repeat (intro b1;refine Q.r ?_))
 refine swp_abs a1 (fun M1 hl1 hs1 => ?_)
 refine swp_cutB (σ := Unit) (fun _ => [(0,ptrG p),(3,.pointer (some ⟨bw,0,none⟩))])
  (fun _ => wH bw (W0 ++ (dnL j).flatMap packD) :: jdgH M1 p j :: roM M1 :: L) (fun _ => True) ?_ ?_
 ·refine swp_loop (σ := Nat) (fun i => [(0,ptrG p),(3,.pointer (some ⟨bw,0,none⟩)),(40,.slice a1 j.done.length c1),(41,.int .i64 j.done.length),(42,.int .i64 i)])
   (fun i => wH bw (W0 ++ ((dnL j).take i).flatMap packD) :: gP p j mt md :: gD md j.done :: gT mt ts :: trsH ts :: roM M1 :: L) (fun i => i ≤ j.done.length) (fun i => j.done.length - i) 0 ⟨rfl,rfl,rfl,rfl,rfl,trivial⟩ (by simp only [List.take_zero,List.flatMap_nil,List.append_nil];exact Go.SX.Ent.go) (Nat.zero_le _) ?_
  intro i hi
  by_cases hlt : i < j.done.length
  ·obtain ⟨b,hb⟩ := mem_get (l := sortL (j.done.map (·.1))) (k := i) (by omega)
   obtain ⟨s,hsb⟩ := dn_lk (List.mem_of_getElem? hb) hw.kd
   have hd : (dnL j)[i]? = some (b,s) := by unfold dnL;rw [List.getElem?_map,hb];simp [hsb]
   obtain ⟨ba,oa,haa,cr⟩ := SlM.cm1 (g := U64) hs1 hb hdk.symm
   have hbs := hdm _ (List.mem_of_getElem? hd)
   have hXl : (((dnL j).take i).flatMap packD).length ≤ (dnL j).length * 20 := take_le i hpd
   have hnx : ((dnL j).take (i + 1)).flatMap packD = ((dnL j).take i).flatMap packD ++ packD (b,s) := flat1 hd
   generalize hX : ((dnL j).take i).flatMap packD = X at hXl hnx ⊢
   rw [haa]
   refine Q.r ?_;(repeat (intro b1;refine Q.r ?_))
   refine S.y (Y.lk false rfl rfl (fun w => Tryz.zeroValue29 w)) ?_
   rw [hsb]
   dsimp only
   refine Q.r ?_;(repeat (intro b1;refine Q.r ?_))
   refine S.c1 (A := wH bw (W0 ++ X)) rfl (wNums_spec bw (W0 ++ X) (some ⟨b1,0,none⟩) 2 [b,s] _ (RdS.row1 rfl) (by intro z hz;rcases (by simpa using hz : z = b ∨ z = s) with rfl | rfl;exact hbs.1;exact hbs.2) (by rw [List.length_append];simp only [List.length_cons,List.length_nil];omega)) ?_
   rintro _ _ ⟨rfl,rfl⟩
   have eX : W0 ++ X ++ [b,s].flatMap numI = W0 ++ ((dnL j).take (i + 1)).flatMap packD := by rw [hnx];simp [packD]
   rw [eX]
   refine Q.r ?_;(repeat (intro b1;refine Q.r ?_))
   rw [← haa]
   refine ⟨i + 1,⟨rfl,rfl,rfl,rfl,rfl,trivial⟩,by exact Go.SX.Ent.go,hlt,Nat.sub_succ_lt_self j.done.length i hlt⟩
  ·have hie : i = (dnL j).length := by omega
   rw [hie,List.take_length]
   refine Q.r ?_;(repeat (intro b1;refine Q.r ?_))
   exact ⟨(),⟨rfl,rfl,trivial⟩,Ent.trans (gclose (p := p) (mt := mt) (md := md) (hq.mono hl1)) (by exact Go.SX.Ent.go),trivial⟩
 rintro _ _
 clear hs hs1
 have hW1 : (W0 ++ (dnL j).flatMap packD).length ≤ 3000000 := by
  have h1 : ((dnL j).flatMap packD).length ≤ (dnL j).length * 20 := flat_le hpd
  rw [List.length_append];omega
 obtain ⟨W1,hW1e⟩ : ∃ W1,W1 = W0 ++ (dnL j).flatMap packD := ⟨_,rfl⟩
 rw [← hW1e] at hW1 ⊢
 have hsl : (sortL (j.tr.map (·.1))).length = j.tr.length := by rw [sortL_len,List.length_map]
 refine Q.r ?_;(repeat (intro b1;refine Q.r ?_))
 refine S.cgn p rfl (Gtxns_spec M1 p j _ (by omega)) ?_
 rintro _ _ ⟨a2,c2,rfl,rfl⟩
 refine Q.r ?_;(repeat (intro b1;refine Q.r ?_))
 refine swp_abs a2 (fun M2 hl2 hs2 => ?_)
 refine swp_gm p hl2 ?_
 clear hq
 clear hlts
 refine swp_jdg p (fun mt md ts hq => ?_)
 refine swp_cutB (σ := Option Addr × Nat × List TB) (fun s => [(3,.pointer (some ⟨bw,0,none⟩)),(6,.slice s.1 s.2.2.length s.2.1)])
  (fun s => slO 96 1 s.1 s.2.2.length s.2.1 (s.2.2.map ptU) :: gP p j mt md :: gT mt ts :: trsH ts :: gD md j.done :: wH bw W1 :: roM M2 :: L) (fun s => s.2.2.map (fun u => u.2.2.abs) = comL j ∧ (∀ u ∈ s.2.2,∃ k : Nat,ts[k]? = some u) ∧ s.2.2.length ≤ 100000) ?_ ?_
 ·refine swp_loop (σ := Nat × Option Addr × Nat × List TB) (fun s => [(0,ptrG p),(3,.pointer (some ⟨bw,0,none⟩)),(58,.slice a2 j.tr.length c2),(59,.int .i64 j.tr.length),(6,.slice s.2.1 s.2.2.2.length s.2.2.1),(60,.int .i64 s.1)])
   (fun s => slO 96 1 s.2.1 s.2.2.2.length s.2.2.1 (s.2.2.2.map ptU) :: gP p j mt md :: gT mt ts :: trsH ts :: gD md j.done :: wH bw W1 :: roM M2 :: L) (fun s => s.1 ≤ j.tr.length ∧ s.2.2.2.map (fun u => u.2.2.abs) = ((((sortL (j.tr.map (·.1))).take s.1).filterMap fun x => lkL j.tr x).filter com0) ∧ (∀ u ∈ s.2.2.2,∃ k : Nat,ts[k]? = some u) ∧ s.2.2.2.length ≤ s.1) (fun s => j.tr.length - s.1) (0,none,0,[]) ⟨rfl,rfl,rfl,rfl,rfl,rfl,trivial⟩ (Ent.trans (slO_nil (t := 96) (sz := 1)) (by exact Go.SX.Ent.go)) ⟨Nat.zero_le _,rfl,fun _ h => (by cases h),Nat.le_refl _⟩ ?_
  rintro ⟨i,a3,c3,us⟩ ⟨hi,hus,huk,hul⟩
  dsimp only at hi hus huk hul ⊢
  by_cases hlt : i < j.tr.length
  ·obtain ⟨x,hx⟩ := mem_get (l := sortL (j.tr.map (·.1))) (k := i) (by omega)
   obtain ⟨t,ht⟩ := sort_lk (List.mem_of_getElem? hx) hw.kt
   obtain ⟨ba,oa,haa,cr⟩ := SlM.cm1 (g := U64) hs2 hx hsl.symm
   have hsn := trsL_snoc hx ht
   have hlk := lk_tr hq.tr x
   rw [ht] at hlk
   rw [haa]
   refine Q.r ?_;(repeat (intro b1;refine Q.r ?_))
   refine S.y (Y.lk false rfl rfl (fun w => Tryz.zeroValue96 w)) ?_
   cases hz : lkL (α := Nat × TV) ts x with
   | none => rw [hz] at hlk;cases hlk
   | some u =>
    rw [hz] at hlk
    obtain ⟨k,hkk⟩ := lk_idx hz
    have htu : t = u.2.abs := Option.some.inj hlk
    dsimp only
    refine Q.r ?_;(repeat (intro b1;refine Q.r ?_))
    refine opsS_trs hkk ?_
    by_cases hs : 0 < u.2.stamp
    ·have hs' : 0 < t.stamp := by rw [htu];exact hs
     rw [if_pos hs'] at hsn
     refine Q.r ?_;(repeat (intro b1;refine Q.r ?_))
     refine S.app rfl rfl (SrcS.sl RdC.row (by rfl) (by rfl)) (by rfl) (by omega) (by omega) (fun a7 c7 => ?_)
     refine Q.r ?_;(repeat (intro b1;refine Q.r ?_))
     rw [← haa]
     refine ⟨(i + 1,a7,c7,us ++ [(x,u)]),⟨rfl,rfl,rfl,rfl,congrArg some (by simp),rfl,trivial⟩,?_,⟨hlt,?_,?_,?_⟩,Nat.sub_succ_lt_self j.tr.length i hlt⟩
     ·dsimp only
      have e9 : (us ++ [((x,u) : TB)]).map ptU = us.map ptU ++ [ptT u] := by rw [List.map_append];rfl
      rw [len_snoc,e9]
      refine Ent.trans (M := oneT u :: trsH (ts.eraseIdx k) :: slO 96 1 a7 (us.length + 1) c7 (us.map ptU ++ [ptT u]) :: gP p j mt md :: gT mt ts :: gD md j.done :: wH bw W1 :: roM M2 :: L) (by exact Go.SX.Ent.go) (Ent.trans (trs_back hkk) ?_)
      exact Go.SX.Ent.go
     ·dsimp only
      rw [hsn,List.map_append,hus,htu];rfl
     ·intro w hw
      rcases List.mem_append.1 hw with hw | hw
      ·exact huk w hw
      ·rw [List.mem_singleton] at hw;subst hw;exact ⟨k,hkk⟩
     ·dsimp only
      rw [len_snoc];omega
    ·have hs' : ¬ 0 < t.stamp := by rw [htu];exact hs
     rw [if_neg hs',List.append_nil] at hsn
     refine Q.r ?_;(repeat (intro b1;refine Q.r ?_))
     rw [← haa]
     refine ⟨(i + 1,a3,c3,us),⟨rfl,rfl,rfl,rfl,rfl,rfl,trivial⟩,?_,⟨hlt,by dsimp only;rw [hsn];exact hus,huk,Nat.le_succ_of_le hul⟩,Nat.sub_succ_lt_self j.tr.length i hlt⟩
     dsimp only
     refine Ent.trans (M := oneT u :: trsH (ts.eraseIdx k) :: slO 96 1 a3 us.length c3 (us.map ptU) :: gP p j mt md :: gT mt ts :: gD md j.done :: wH bw W1 :: roM M2 :: L) (by exact Go.SX.Ent.go) (Ent.trans (trs_back hkk) ?_)
     exact Go.SX.Ent.go
  ·have hie : i = (sortL (j.tr.map (·.1))).length := by omega
   rw [hie,List.take_length] at hus
   refine Q.r ?_;(repeat (intro b1;refine Q.r ?_))
   exact ⟨(a3,c3,us),⟨rfl,rfl,trivial⟩,by exact Go.SX.Ent.go,hus,huk,by dsimp only;omega⟩
 rintro ⟨a3,c3,us⟩ ⟨hus,huk,hul⟩
 dsimp only at hus huk hul ⊢
 refine swp_abs a3 (fun M3 hl3 hs3 => ?_)
 have hcl : us.length = (comL j).length := mapP_len hus
 refine Q.r ?_;(repeat (intro b1;refine Q.r ?_))
 refine S.y (Y.cvi rfl) ?_
 rw [wrap_u64 (by omega) (by omega)]
 refine Q.r ?_;(repeat (intro b1;refine Q.r ?_))
 refine S.c1 (A := wH bw W1) rfl (wNums_spec bw W1 (some ⟨b1,0,none⟩) 1 [(us.length : Int)] _ (RdS.row1 rfl) (by intro z hz;rw [List.mem_singleton.1 hz];omega) (by simp only [List.length_cons,List.length_nil];omega)) ?_
 rintro _ _ ⟨rfl,rfl⟩
 have hW2 : (W1 ++ [(us.length : Int)].flatMap numI).length ≤ 3000010 := by
  have h1 := numI_len (z := (us.length : Int)) (by omega)
  simp only [List.flatMap_cons,List.flatMap_nil,List.append_nil,List.length_append];omega
 have hW2p : packG j = W1 ++ [(us.length : Int)].flatMap numI ++ us.flatMap fun u => packT u.2.2.abs := by
  unfold packG
  rw [← hW0,← hW1e,← hcl,← hus,List.flatMap_map];simp
 obtain ⟨W2,hW2e⟩ : ∃ W2,W2 = W1 ++ [(us.length : Int)].flatMap numI := ⟨_,rfl⟩
 rw [← hW2e] at hW2 hW2p ⊢
 have hpt : ∀ u ∈ us,(packT u.2.2.abs).length ≤ 80 := fun u hu => by
  have hm : u.2.2.abs ∈ comL j := hus ▸ List.mem_map_of_mem (f := fun u : TB => u.2.2.abs) hu
  exact packT_lenB hw (trs_memB hw (List.mem_filter.1 hm).1)
 have hq3 := hq.mono hl3
 refine Q.r ?_;(repeat (intro b1;refine Q.r ?_))
 refine swp_cutB (σ := Unit) (fun _ => [(3,.pointer (some ⟨bw,0,none⟩))])
  (fun _ => wH bw (packG j) :: gP p j mt md :: gT mt ts :: trsH ts :: gD md j.done :: roM M3 :: L) (fun _ => True) ?_ ?_
 ·refine swp_loop (σ := Nat) (fun i => [(3,.pointer (some ⟨bw,0,none⟩)),(87,.slice a3 us.length c3),(88,.int .i64 us.length),(89,.int .i64 i)])
   (fun i => wH bw (W2 ++ (us.take i).flatMap fun u => packT u.2.2.abs) :: gP p j mt md :: gT mt ts :: trsH ts :: gD md j.done :: roM M3 :: L) (fun i => i ≤ us.length) (fun i => us.length - i) 0 ⟨rfl,rfl,rfl,rfl,trivial⟩ (by simp only [List.take_zero,List.flatMap_nil,List.append_nil];exact Go.SX.Ent.go) (Nat.zero_le _) ?_
  intro i hi
  by_cases hlt : i < us.length
  ·obtain ⟨u,hu⟩ := mem_get hlt
   obtain ⟨k,hkk⟩ := huk u (List.mem_of_getElem? hu)
   have hum := List.mem_of_getElem? hkk
   have hok := hq3.ok u hum
   obtain ⟨ba,oa,haa,cr⟩ := SlM.cm1 (g := ptU) hs3 hu rfl
   have hlku : lkL j.tr u.1 = some u.2.2.abs := by
    refine (lkL_iff hw.kt).2 ?_
    rw [← hq.tr]
    exact List.mem_map_of_mem (f := fun u : TB => (u.1,u.2.2.abs)) hum
   have hWu := hw.lk hlku
   have hTu := hw.lk hlku
   have hxx : u.2.2.txn = u.1 := hWu.xx
   have hx1 := hTu.x1
   have hb1 : u.2.2.batch ≤ 18446744073709551615 := hTu.b1
   have hs1' : u.2.2.stamp ≤ 1099511627776 := hTu.s1
   have hp4 : u.2.2.parts.length ≤ 4 := hWu.pl
   have hpb : ∀ q ∈ u.2.2.parts,0 ≤ q ∧ q < 16 := hWu.pb
   have hXl : ((us.take i).flatMap fun u => packT u.2.2.abs).length ≤ us.length * 80 := take_le i hpt
   have hnx : ((us.take (i + 1)).flatMap fun u => packT u.2.2.abs) = ((us.take i).flatMap fun u => packT u.2.2.abs) ++ packT u.2.2.abs := flat1 hu
   generalize hX : ((us.take i).flatMap fun u => packT u.2.2.abs) = X at hXl hnx ⊢
   rw [haa]
   refine Q.r ?_;(repeat (intro b1;refine Q.r ?_))
   refine swp_trs hkk ?_
   refine Q.dgo [true] [23,24] [] [0,1,2,3,4,5,6,7,8,9,10,11,12,13,14,15,16,17,18,19,20,21,22,23,24] ?_
   refine Q.rd ?_;(repeat (intro b1;refine Q.rd ?_))
   refine D.y rfl rfl rfl (by kernel_rfl) (Y.cvi rfl) ?_
   rw [wrap_u64 (by omega) (by omega)]
   refine Q.rd ?_;(repeat (intro b1;refine Q.rd ?_))
   refine D.e rfl rfl rfl ?_
   refine S.c1 (A := wH bw (W2 ++ X)) rfl (wNums_spec bw (W2 ++ X) (some ⟨b1,0,none⟩) 4 [u.2.2.txn,u.2.2.batch,u.2.2.stamp,(u.2.2.parts.length : Int)] _ (RdS.row1 rfl) (by intro z hz;rcases (by simpa using hz : z = u.2.2.txn ∨ z = u.2.2.batch ∨ z = u.2.2.stamp ∨ z = (u.2.2.parts.length : Int)) with rfl | rfl | rfl | rfl <;> omega) (by rw [List.length_append];simp only [List.length_cons,List.length_nil];omega)) ?_
   rintro _ _ ⟨rfl,rfl⟩
   have hYl : (W2 ++ X ++ [u.2.2.txn,u.2.2.batch,u.2.2.stamp,(u.2.2.parts.length : Int)].flatMap numI).length ≤ 20000000 := by
    have h1 := numI_len (z := u.2.2.txn) (by omega)
    have h2 := numI_len hb1
    have h3 := numI_len (z := u.2.2.stamp) (by omega)
    have h4 := numI_len (z := (u.2.2.parts.length : Int)) (by omega)
    simp only [List.flatMap_cons,List.flatMap_nil,List.append_nil,List.length_append];omega
   have hY2 : W2 ++ X ++ [u.2.2.txn,u.2.2.batch,u.2.2.stamp,(u.2.2.parts.length : Int)].flatMap numI ++ u.2.2.parts.flatMap numI = W2 ++ ((us.take (i + 1)).flatMap fun u => packT u.2.2.abs) := by
    rw [hnx];simp [packT]
   generalize W2 ++ X ++ [u.2.2.txn,u.2.2.batch,u.2.2.stamp,(u.2.2.parts.length : Int)].flatMap numI = Y1 at hYl hY2 ⊢
   refine Q.r ?_;(repeat (intro b1;refine Q.r ?_))
   refine Q.rd ?_;(repeat (intro b1;refine Q.rd ?_))
   refine Q.r ?_;(repeat (intro b1;refine Q.r ?_))
   refine swp_loop (σ := Nat) (fun m => [(3,.pointer (some ⟨bw,0,none⟩)),(87,.slice (some ⟨ba,oa,none⟩) us.length c3),(88,.int .i64 us.length),(89,.int .i64 i),(122,.slice u.2.2.pa u.2.2.parts.length u.2.2.pc),(123,.int .i64 u.2.2.parts.length),(124,.int .i64 m)])
    (fun m => wH bw (Y1 ++ (u.2.2.parts.take m).flatMap numI) :: oneT u.2 :: trsH (ts.eraseIdx k) :: gP p j mt md :: gT mt ts :: gD md j.done :: roM M3 :: L) (fun m => m ≤ u.2.2.parts.length) (fun m => u.2.2.parts.length - m) 0 ⟨rfl,rfl,rfl,rfl,rfl,rfl,rfl,trivial⟩ (by simp only [List.take_zero,List.flatMap_nil,List.append_nil];exact Go.SX.Ent.go) (Nat.zero_le _) ?_
   intro m hm
   by_cases hmt : m < u.2.2.parts.length
   ·obtain ⟨q,hq1⟩ := mem_get hmt
    obtain ⟨bp,op,hpa,cp⟩ := SlM.cm1 (g := I64) hok.p hq1 rfl
    have hqb := hpb q (List.mem_of_getElem? hq1)
    have hZl : ((u.2.2.parts.take m).flatMap numI).length ≤ u.2.2.parts.length * 10 := take_le m fun q hq => numI_len (by have := hpb q hq;omega)
    have hnz : (u.2.2.parts.take (m + 1)).flatMap numI = (u.2.2.parts.take m).flatMap numI ++ numI q := flat1 hq1
    generalize (u.2.2.parts.take m).flatMap numI = Z at hZl hnz ⊢
    rw [hpa]
    refine Q.r ?_;(repeat (intro b1;refine Q.r ?_))
    refine S.y (Y.cvi rfl) ?_
    rw [wrap_u64 (by omega) (by omega)]
    refine Q.r ?_;(repeat (intro b1;refine Q.r ?_))
    refine S.c1 (A := wH bw (Y1 ++ Z)) rfl (wNums_spec bw (Y1 ++ Z) (some ⟨b1,0,none⟩) 1 [q] _ (RdS.row1 rfl) (by intro z hz;rw [List.mem_singleton.1 hz];omega) (by rw [List.length_append];simp only [List.length_cons,List.length_nil];omega)) ?_
    rintro _ _ ⟨rfl,rfl⟩
    have eZ : Y1 ++ Z ++ [q].flatMap numI = Y1 ++ (u.2.2.parts.take (m + 1)).flatMap numI := by rw [hnz];simp
    rw [eZ]
    refine Q.r ?_;(repeat (intro b1;refine Q.r ?_))
    refine ⟨m + 1,⟨rfl,rfl,rfl,rfl,by rw [← hpa];rfl,rfl,rfl,trivial⟩,by exact Go.SX.Ent.go,hmt,Nat.sub_succ_lt_self u.2.2.parts.length m hmt⟩
   ·have hme : m = u.2.2.parts.length := by omega
    rw [hme,List.take_length,hY2]
    refine Q.r ?_;(repeat (intro b1;refine Q.r ?_))
    refine ⟨i + 1,⟨rfl,rfl,rfl,rfl,trivial⟩,?_,hlt,Nat.sub_succ_lt_self us.length i hlt⟩
    refine Ent.trans (M := oneT u.2 :: trsH (ts.eraseIdx k) :: wH bw (W2 ++ ((us.take (i + 1)).flatMap fun u => packT u.2.2.abs)) :: gP p j mt md :: gT mt ts :: gD md j.done :: roM M3 :: L) (by exact Go.SX.Ent.go) (Ent.trans (trs_back hkk) ?_)
    exact Go.SX.Ent.go
  ·have hie : i = us.length := by omega
   rw [hie,List.take_length,← hW2p]
   refine Q.r ?_;(repeat (intro b1;refine Q.r ?_))
   exact ⟨(),⟨rfl,trivial⟩,by exact Go.SX.Ent.go,trivial⟩
 rintro _ _
 have hpl : (packG j).length ≤ 140737488355328 := by
  rw [hW2p,List.length_append]
  have h1 : (us.flatMap fun u => packT u.2.2.abs).length ≤ us.length * 80 := flat_le hpt
  omega
 refine Q.r ?_;(repeat (intro b1;refine Q.r ?_))
 refine S.c1 (A := wH bw (packG j)) rfl (wBytes_spec bw (packG j) _ hpl) ?_
 rintro _ _ ⟨a9,c9,rfl,rfl⟩
 refine Q.r ?_;(repeat (intro b1;refine Q.r ?_))
 refine N.r1 (RV.tmp rfl RV.nil) (Ent.trans (gclose (p := p) (mt := mt) (md := md) hq3) ?_) ⟨a9,c9,M3,rfl,hl1.trans (hl2.trans hl3),rfl⟩
 exact Go.SX.Ent.go
theorem GPack_spec (M : Nat → Option Obj) (p : Nat) (j : JG) (L : List HP) (hw : WN j) (htl : j.tr.length ≤ 100000) (hdl : j.done.length ≤ 100000) :
  CallsS Tryz.prog 19 [ptrG p] (jdgH M p j :: roM M :: L) (fun r L' => ∃ (a : Option Addr) (c : Nat) (M' : Nat → Option Obj),r = .slice a (packG j).length c ∧ leM M M' ∧ L' = slO 5 1 a (packG j).length c ((packG j).map B) :: jdgH M' p j :: roM M' :: L) := GPack_specB M p j L hw.pb htl hdl
end Go.Proofs.YtiampehfpgcogaaGreatDoor
namespace Go.Proofs.YtiampehfpgcogaaGreatDoor
open Go Go.SX
attribute [local irreducible] swp opsS thenS blockS retS CallsS St Ent YieldS anyS drawS
structure RS where
 bs : List UInt8
 bad : Int
 good : Bool
def rdF (most : Nat) (s : RS) : Nat × RS := ((numF most s.bs s.bad).1,⟨(numF most s.bs s.bad).2.1,(numF most s.bs s.bad).2.2,s.good⟩)
def stF (last : Nat) (s : RS) : Nat × RS := ((rdF 1099511627776 s).1,{ (rdF 1099511627776 s).2 with good := s.good && decide (0 < (rdF 1099511627776 s).1) && decide ((rdF 1099511627776 s).1 ≤ last) })
def dnF (last : Nat) : Nat → RS × List (Int × Int) → RS × List (Int × Int)
 | 0,s => s
 | k + 1,s => if (stF last (rdF 18446744073709551615 s.1).2).2.bs.length = 0 then ((stF last (rdF 18446744073709551615 s.1).2).2,putL s.2 ((rdF 18446744073709551615 s.1).1 : Int) ((stF last (rdF 18446744073709551615 s.1).2).1 : Int))
  else dnF last k ((stF last (rdF 18446744073709551615 s.1).2).2,putL s.2 ((rdF 18446744073709551615 s.1).1 : Int) ((stF last (rdF 18446744073709551615 s.1).2).1 : Int))
def ptF (sh : Nat) : Nat → RS × List Int → RS × List Int
 | 0,s => s
 | k + 1,s => ptF sh k ((rdF sh s.1).2,s.2 ++ [((rdF sh s.1).1 : Int)])
def riseK (ps : List Int) (k : Nat) : Bool := decide (∀ i,i < k → i = 0 ∨ ps.getD (i - 1) 0 < ps.getD i 0)
def headK (ps : List Int) : Bool := decide (0 < ps.length) && decide (0 < ps.getD 0 0)
def triF (sh last : Nat) (s : RS) : RS × TR :=
 let x := rdF 18446744073709551615 s
 let y := rdF 18446744073709551615 x.2
 let z := stF last y.2
 let n := rdF 4 z.2
 let q := ptF sh n.1 (n.2,[])
 ({ q.1 with good := q.1.good && headK q.2 && riseK q.2 q.2.length },⟨x.1,y.1,z.1,0,0,q.2,[],[],[]⟩)
def trF (sh last : Nat) : Nat → RS × List (Int × TR) → RS × List (Int × TR)
 | 0,s => s
 | k + 1,s => trF sh last k ((triF sh last s.1).1,putL s.2 (triF sh last s.1).2.txn (triF sh last s.1).2)
theorem rdF_len (most : Nat) (s : RS) : (rdF most s).2.bs.length ≤ s.bs.length := by
 unfold rdF numF
 split
 ·exact Nat.le_refl _
 ·split
  ·exact Nat.le_refl _
  ·simp only [List.length_drop];omega
theorem peekF_lt : ∀ (bs : List UInt8) (i n : Nat),(peekF bs i n).2.2 = 0 → n < 2 ^ (7 * i) → i ≤ 9 → (peekF bs i n).1 < 18446744073709551616
 | [],i,n,h,_,_ => by simp [peekF] at h
 | b :: bs,i,n,h,hn,hi => by
  rw [peekF_cons] at h ⊢
  have hb : b.toNat % 128 < 128 := Nat.mod_lt _ (by decide)
  split at h
  ·simp at h
  ·rename_i h9
   rw [if_neg h9]
   split at h
   ·rename_i h1
    rw [if_pos h1]
    split at h
    ·simp at h
    ·rename_i h0
     rw [if_neg h0]
     exact (acc_or hn hi hb fun e => by omega).1
   ·rename_i h1
    rw [if_neg h1]
    exact peekF_lt bs (i + 1) _ h (acc_lt hn hb) (by have := b.toNat_lt;omega)
theorem rdF_le (most : Nat) (s : RS) : (rdF most s).1 ≤ most ∧ (rdF most s).1 < 18446744073709551616 := by
 unfold rdF numF
 split
 ·simp
 ·split
  ·simp
  ·rename_i h
   have h2 : (takeF s.bs most).2.2 = 0 := by simpa using h
   dsimp only
   unfold takeF at h2 ⊢
   by_cases he : (peekF s.bs 0 0).2.2 ≠ 0
   ·rw [if_pos he];simp
   ·rw [if_neg he] at h2 ⊢
    by_cases hm : most < (peekF s.bs 0 0).1
    ·rw [if_pos hm];simp
    ·rw [if_neg hm]
     exact ⟨by dsimp only;omega,peekF_lt s.bs 0 0 (by simpa using he) (by simp) (by omega)⟩
theorem stF_len (last : Nat) (s : RS) : (stF last s).2.bs.length ≤ s.bs.length := rdF_len _ s
abbrev rcP (b r : Nat) : HP := pt b (cl [.pointer (some ⟨r,0,none⟩)] 132)
abbrev fcP (b q : Nat) : HP := pt b (cl [ptrG q] 24)
abbrev gdP (b : Nat) (g : Bool) : HP := pt b (cl [.bool g] 4)
set_option maxHeartbeats 2000000 in
set_option maxRecDepth 100000 in
theorem stamp_spec (b7 b8 b5 r q mt md : Nat) (a : Option Addr) (c : Nat) (s : RS) (j : JG) (last : Nat) (M : Nat → Option Obj) (L : List HP) (h : SlM M a s.bs.length 1 (s.bs.map B)) (hc : s.bs.length ≤ c) (hb : s.bs.length ≤ 1000000000000) (hl : j.last = last) :
  CallsS Tryz.prog 67 [.pointer (some ⟨b7,0,none⟩),.pointer (some ⟨b8,0,none⟩),.pointer (some ⟨b5,0,none⟩)] (rdP r a s.bs.length c s.bad :: gdP b8 s.good :: rcP b7 r :: fcP b5 q :: gP q j mt md :: roM M :: L)
   (fun v L' => v = .int .u64 (stF last s).1 ∧ ∃ a' c',SlM M a' (stF last s).2.bs.length 1 ((stF last s).2.bs.map B) ∧ (stF last s).2.bs.length ≤ c' ∧ L' = rdP r a' (stF last s).2.bs.length c' (stF last s).2.bad :: gdP b8 (stF last s).2.good :: rcP b7 r :: fcP b5 q :: gP q j mt md :: roM M :: L) := by
 refine CallsS.of_body Tryz.func67 rfl rfl rfl ?_
 have hn := rNum_spec r a c s.bs s.bad 1099511627776 M (gdP b8 s.good :: rcP b7 r :: fcP b5 q :: gP q j mt md :: roM M :: L) h hc hb
 have hx : (numF 1099511627776 s.bs s.bad).1 ≤ 1099511627776 := (rdF_le 1099511627776 s).1
 unfold stF rdF
 dsimp only
 generalize numF 1099511627776 s.bs s.bad = z at hn hx ⊢
 obtain ⟨x,bs',bad'⟩ := z
 dsimp only at hn hx ⊢
 refine Q.r ?_;(repeat (intro b1;refine Q.r ?_))
 refine S.cr rfl hn ?_
 rintro _ _ ⟨rfl,a',c',hs',hc',rfl⟩
 clear hn
 obtain ⟨sbs,sbad,g⟩ := s
 dsimp only at *
 cases g with
 | false =>
  refine Q.r ?_;(repeat (intro b1;refine Q.r ?_))
  exact N.r1 (RV.tmp rfl RV.nil) (Ent.refl _) ⟨rfl,a',c',hs',hc',by simp⟩
 | true =>
  by_cases h0 : 0 < x
  ·have h0' : (0 : Int) < (x : Int) := by omega
   by_cases h1 : x ≤ last
   ·have h1' : (x : Int) ≤ j.last := by omega
    refine Q.r ?_;(repeat (intro b1;refine Q.r ?_))
    exact N.r1 (RV.tmp rfl RV.nil) (Ent.refl _) ⟨rfl,a',c',hs',hc',by simp [h0,h1,hl]⟩
   ·have h1' : ¬ (x : Int) ≤ j.last := by omega
    refine Q.r ?_;(repeat (intro b1;refine Q.r ?_))
    exact N.r1 (RV.tmp rfl RV.nil) (Ent.refl _) ⟨rfl,a',c',hs',hc',by simp [h0,h1,hl]⟩
  ·have h0' : ¬ (0 : Int) < (x : Int) := by omega
   refine Q.r ?_;(repeat (intro b1;refine Q.r ?_))
   exact N.r1 (RV.tmp rfl RV.nil) (Ent.refl _) ⟨rfl,a',c',hs',hc',by simp [h0]⟩
end Go.Proofs.YtiampehfpgcogaaGreatDoor
namespace Go.Proofs.YtiampehfpgcogaaGreatDoor
open Go Go.SX
theorem peekF_pos : ∀ (bs : List UInt8) (i n : Nat),(peekF bs i n).2.2 = 0 → i + 1 ≤ (peekF bs i n).2.1
 | [],i,n,h => by simp [peekF] at h
 | b :: bs,i,n,h => by
  rw [peekF_cons] at h ⊢
  split at h
  ·simp at h
  ·rename_i h9
   rw [if_neg h9]
   split at h
   ·rename_i h1
    rw [if_pos h1]
    split at h
    ·simp at h
    ·rename_i h0
     rw [if_neg h0]
     exact Nat.le_refl _
   ·rename_i h1
    rw [if_neg h1]
    have := peekF_pos bs (i + 1) _ h
    omega
theorem rdF_dec {m : Nat} {s : RS} (h : (rdF m s).2.bad = 0) : s.bad = 0 ∧ (rdF m s).2.bs.length + 1 ≤ s.bs.length := by
 unfold rdF numF at h ⊢
 by_cases h1 : s.bad ≠ 0
 ·rw [if_pos h1] at h
  exact absurd h h1
 ·rw [if_neg h1] at h ⊢
  by_cases h2 : (takeF s.bs m).2.2 ≠ 0
  ·rw [if_pos h2] at h
   exact absurd h h2
  ·rw [if_neg h2]
   refine ⟨Classical.not_not.1 h1,?_⟩
   have h3 := takeF_size s.bs m
   have h4 : 1 ≤ (takeF s.bs m).2.1 := by
    have h5 : (takeF s.bs m).2.2 = 0 := Classical.not_not.1 h2
    unfold takeF at h5 ⊢
    by_cases h6 : (peekF s.bs 0 0).2.2 ≠ 0
    ·rw [if_pos h6] at h5
     exact absurd h5 h6
    ·rw [if_neg h6] at h5 ⊢
     by_cases h7 : m < (peekF s.bs 0 0).1
     ·rw [if_pos h7] at h5
      simp at h5
     ·rw [if_neg h7]
      have := peekF_pos s.bs 0 0 (Classical.not_not.1 h6)
      dsimp only;omega
   dsimp only
   rw [List.length_drop]
   omega
theorem stF_dec {l : Nat} {s : RS} (h : (stF l s).2.bad = 0) : s.bad = 0 ∧ (stF l s).2.bs.length + 1 ≤ s.bs.length := rdF_dec (m := 1099511627776) h
theorem dnF_dec (l : Nat) : ∀ (k : Nat) (s : RS × List (Int × Int)),(dnF l k s).1.bad = 0 → s.1.bad = 0 ∧ (dnF l k s).1.bs.length + (dnF l k s).2.length ≤ s.1.bs.length + s.2.length
 | 0,s,h => ⟨h,Nat.le_refl _⟩
 | k + 1,s,h => by
  have hp := putL_len s.2 ((rdF 18446744073709551615 s.1).1 : Int) ((stF l (rdF 18446744073709551615 s.1).2).1 : Int)
  unfold dnF at h ⊢
  split at h
  ·rename_i h0
   rw [if_pos h0]
   have h1 := stF_dec h
   have h2 := rdF_dec h1.1
   refine ⟨h2.1,?_⟩
   dsimp only
   omega
  ·rename_i h0
   rw [if_neg h0]
   have h3 := dnF_dec l k _ h
   have h1 := stF_dec h3.1
   have h2 := rdF_dec h1.1
   refine ⟨h2.1,Nat.le_trans h3.2 ?_⟩
   dsimp only
   omega
theorem ptF_bad (sh : Nat) : ∀ (k : Nat) (s : RS × List Int),(ptF sh k s).1.bad = 0 → s.1.bad = 0
 | 0,s,h => h
 | k + 1,s,h => by
  unfold ptF at h
  exact (rdF_dec (ptF_bad sh k _ h)).1
theorem triF_bad {sh l : Nat} {s : RS} (h : (triF sh l s).1.bad = 0) : s.bad = 0 := by
 unfold triF at h
 dsimp only at h
 exact (rdF_dec (rdF_dec (stF_dec (rdF_dec (ptF_bad sh _ _ h)).1).1).1).1
theorem trF_bad (sh l : Nat) : ∀ (k : Nat) (s : RS × List (Int × TR)),(trF sh l k s).1.bad = 0 → s.1.bad = 0
 | 0,s,h => h
 | k + 1,s,h => by
  unfold trF at h
  exact triF_bad (trF_bad sh l k _ h)
theorem ptF_in (sh : Nat) : ∀ (k : Nat) (s : RS × List Int),(ptF sh k s).2.length = s.2.length + k ∧ ∀ v ∈ (ptF sh k s).2,v ∈ s.2 ∨ (0 ≤ v ∧ v ≤ sh)
 | 0,s => ⟨rfl,fun v h => .inl h⟩
 | k + 1,s => by
  unfold ptF
  obtain ⟨h1,h2⟩ := ptF_in sh k ((rdF sh s.1).2,s.2 ++ [((rdF sh s.1).1 : Int)])
  refine ⟨by rw [h1];dsimp only;rw [List.length_append,List.length_singleton];omega,fun v hv => ?_⟩
  rcases h2 v hv with h | h
  ·dsimp only at h
   rcases List.mem_append.1 h with h | h
   ·exact .inl h
   ·rw [List.mem_singleton] at h
    have := (rdF_le sh s.1).1
    subst h
    exact .inr ⟨by omega,by omega⟩
  ·exact .inr h
theorem triF_pt {sh l : Nat} (hs : sh ≤ 4) (s : RS) : PT (triF sh l s).2.txn (triF sh l s).2 := by
 unfold triF
 dsimp only
 have hx := (rdF_le 18446744073709551615 s).1
 have hy := (rdF_le 18446744073709551615 (rdF 18446744073709551615 s).2).1
 have hst : (stF l (rdF 18446744073709551615 (rdF 18446744073709551615 s).2).2).1 ≤ 1099511627776 := (rdF_le 1099511627776 _).1
 have hn := (rdF_le 4 (stF l (rdF 18446744073709551615 (rdF 18446744073709551615 s).2).2).2).1
 obtain ⟨h1,h2⟩ := ptF_in sh (rdF 4 (stF l (rdF 18446744073709551615 (rdF 18446744073709551615 s).2).2).2).1 ((rdF 4 (stF l (rdF 18446744073709551615 (rdF 18446744073709551615 s).2).2).2).2,[])
 refine ⟨rfl,by (try dsimp only);omega,by (try dsimp only);omega,by (try dsimp only);omega,?_,fun v hv => ?_⟩
 ·dsimp only
  rw [h1]
  show 0 + _ ≤ 4
  omega
 ·rcases h2 v hv with h | h
  ·cases h
  ·omega
theorem trF_in {sh l : Nat} (hs : sh ≤ 4) : ∀ (k : Nat) (s : RS × List (Int × TR)),keysOK s.2 → (∀ u ∈ s.2,PT u.1 u.2) → keysOK (trF sh l k s).2 ∧ (∀ u ∈ (trF sh l k s).2,PT u.1 u.2) ∧ (trF sh l k s).2.length ≤ s.2.length + k
 | 0,s,h1,h2 => ⟨h1,h2,Nat.le_refl _⟩
 | k + 1,s,h1,h2 => by
  unfold trF
  have hp := putL_len s.2 (triF sh l s.1).2.txn (triF sh l s.1).2
  obtain ⟨a,b,c⟩ := trF_in hs k ((triF sh l s.1).1,putL s.2 (triF sh l s.1).2.txn (triF sh l s.1).2) (putL_ok h1 _ _) (fun u hu => by
   rcases putL_memG hu with h | rfl
   ·exact h2 u h
   ·exact triF_pt hs s.1)
  exact ⟨a,b,by dsimp only at c;omega⟩
theorem dnF_in (l : Nat) : ∀ (k : Nat) (s : RS × List (Int × Int)),keysOK s.2 → (∀ u ∈ s.2,u.1 ≤ 18446744073709551615 ∧ u.2 ≤ 1099511627776) → keysOK (dnF l k s).2 ∧ ∀ u ∈ (dnF l k s).2,u.1 ≤ 18446744073709551615 ∧ u.2 ≤ 1099511627776
 | 0,s,h1,h2 => ⟨h1,h2⟩
 | k + 1,s,h1,h2 => by
  have h3 := putL_ok h1 ((rdF 18446744073709551615 s.1).1 : Int) ((stF l (rdF 18446744073709551615 s.1).2).1 : Int)
  have hx := (rdF_le 18446744073709551615 s.1).1
  have hst : (stF l (rdF 18446744073709551615 s.1).2).1 ≤ 1099511627776 := (rdF_le 1099511627776 _).1
  have h4 : ∀ u ∈ putL s.2 ((rdF 18446744073709551615 s.1).1 : Int) ((stF l (rdF 18446744073709551615 s.1).2).1 : Int),u.1 ≤ 18446744073709551615 ∧ u.2 ≤ 1099511627776 := fun u hu => by
   rcases putL_memG hu with h | rfl
   ·exact h2 u h
   ·exact ⟨by dsimp only;omega,by dsimp only;omega⟩
  unfold dnF
  split
  ·exact ⟨h3,h4⟩
  ·exact dnF_in l k _ h3 h4
end Go.Proofs.YtiampehfpgcogaaGreatDoor
