/- The card of JurorPacks: what a juror packs another one unpacks, and holds the same; any bytes are unpacked, or are not, as the document says; one that is not empty takes none; note.sorts starts as the text of the program lays it. -/
import Derived.Test.YtjlgabojhnnbaaaGreatDoorPk12
set_option linter.unusedVariables false
set_option linter.unusedSimpArgs false
set_option linter.unusedSectionVars false
namespace Go.Proofs.YtjlgabojhnnbaaaGreatDoor
open Go Go.SX Go.ChangeShapes Go.WideShapes Go.ChangeAt Go.RowKit
theorem Rd.ops2 {H:Type}{enc:TypeId×Value→H}{W:World}{cs:List Value}(h:Rd enc Tryz.prog W 33 cs):∃(a:Option Addr) (c:Nat) (ops:List OV),cs=[.slice a ops.length c]∧QOps W a ops∧∀q∈ops,0≤q.id:=by
 obtain ⟨a,c,ls,h1,h1c,h1m,h1s,h1q⟩:=Rd.list (λr hr=>Rd.op hr) h (sz:=2) Tryz.underlying33 (by kernel_rfl) (by decide);have hmx:maxLen=9223372036854775807:=by decide
 rw[hmx] at h1m;exact ⟨a,c,ls,h1,⟨⟨h1s,λu hu=>(h1q u hu).1⟩,λu hu=>(h1q u hu).2.1,Nat.le_trans h1c h1m⟩,λu hu=>(h1q u hu).2.2.2.1⟩
set_option maxHeartbeats 1000000 in
set_option maxRecDepth 100000 in
theorem Rd.note2 {H:Type}{enc:TypeId×Value→H}{W:World}{cs:List Value}(h:Rd enc Tryz.prog W 37 cs):∃n:NV,cs=n.cells∧okN (all0 W) n∧CapN n∧NumN n∧NumA n.abs∧∀q∈n.ops,0≤q.id:=by
 obtain ⟨hl,hf⟩:=h.fields Tryz.underlying37;obtain ⟨x0,h0,k0⟩:=Rd.u8b (hf 0 _ rfl);obtain ⟨x1,h1,k1⟩:=Rd.u64 (hf 1 _ rfl);obtain ⟨x2,h2,k2⟩:=Rd.u64 (hf 2 _ rfl);obtain ⟨x3,h3,k3⟩:=Rd.u64 (hf 3 _ rfl);obtain ⟨x4,h4,k4⟩:=Rd.u64 (hf 4 _ rfl);obtain ⟨x5,h5,k5⟩:=Rd.u64 (hf 5 _ rfl);obtain ⟨x6,h6,k6⟩:=Rd.u64 (hf 6 _ rfl);obtain ⟨x7,h7,k7⟩:=Rd.u64 (hf 7 _ rfl);obtain ⟨x8,h8,k8⟩:=Rd.i64b (hf 8 _ rfl);obtain ⟨x9,h9,k9⟩:=Rd.i64b (hf 9 _ rfl);obtain ⟨x10,h10,k10⟩:=Rd.errnob (hf 10 _ rfl);obtain ⟨x11,h11,k11⟩:=Rd.i64b (hf 11 _ rfl);obtain ⟨pa,pc,ps,h12,p1,p2,p3⟩:=Rd.pints (hf 12 _ rfl);obtain ⟨oa,oc,os,h13,o1,oid⟩:=Rd.ops2 (hf 13 _ rfl);obtain ⟨va,vc,vs,h14,v1,v2,v3⟩:=Rd.vec (hf 14 _ rfl);obtain ⟨ha,hc,hs,h15,q1,q2,q3⟩:=Rd.hits (hf 15 _ rfl);have hl':cs.length=16:=hl.trans (by kernel_rfl)
 match cs,hl' with
 | [u0,u1,u2,u3,u4,u5,u6,u7,u8,u9,u10,u11,u12,u13,u14,u15],_=>
  have h0':[u0]=[Value.int .u8 x0]:=h0;have h1':[u1]=[Value.int .u64 x1]:=h1;have h2':[u2]=[Value.int .u64 x2]:=h2;have h3':[u3]=[Value.int .u64 x3]:=h3;have h4':[u4]=[Value.int .u64 x4]:=h4;have h5':[u5]=[Value.int .u64 x5]:=h5;have h6':[u6]=[Value.int .u64 x6]:=h6;have h7':[u7]=[Value.int .u64 x7]:=h7;have h8':[u8]=[Value.int .i64 x8]:=h8;have h9':[u9]=[Value.int .i64 x9]:=h9;have h10':[u10]=[Value.int .i64 x10]:=h10;have h11':[u11]=[Value.int .i64 x11]:=h11;have h12':[u12]=[Value.slice pa ps.length pc]:=h12;have h13':[u13]=[Value.slice oa os.length oc]:=h13;have h14':[u14]=[Value.slice va vs.length vc]:=h14;have h15':[u15]=[Value.slice ha hs.length hc]:=h15;simp only[List.cons.injEq,and_true] at h0' h1' h2' h3' h4' h5' h6' h7' h8' h9' h10' h11' h12' h13' h14' h15';subst h0' h1' h2' h3' h4' h5' h6' h7' h8' h9' h10' h11' h12' h13' h14' h15';exact ⟨⟨x0,x1,x2,x3,x4,x5,x6,x7,x8,x9,x10,x11,pa,pc,ps,oa,oc,os,va,vc,vs,ha,hc,hs⟩,rfl,⟨p3,⟨o1.1.1,o1.1.2⟩,v3,q1,λx hx=>(q3 x hx).1⟩,⟨p1,o1.2.1,v1,λx hx=>(q3 x hx).2,p2,o1.2.2,v2,q2⟩,⟨k0,k1.1,k3.1,k5.1,k4.1⟩,⟨k0,k1,k2,k3,k4,k5,k6,k7,k8.2,k9.2,k10.2,k11.2⟩,oid⟩
set_option maxHeartbeats 1000000 in
set_option maxRecDepth 100000 in
theorem Rd.eo2 {H:Type}{enc:TypeId×Value→H}{W:World}{cs:List Value}(h:Rd enc Tryz.prog W 39 cs):∃o:EO,cs=o.cells∧EOK (all0 W) o∧∀q∈o.n.ops,0≤q.id:=by
 obtain ⟨hl,hf⟩:=h.fields Tryz.underlying39;obtain ⟨fr,h0,_⟩:=Rd.i64 (hf 0 _ rfl);obtain ⟨n,h1,n1,n2,n3,n4,n5⟩:=Rd.note2 (hf 1 _ rfl);obtain ⟨w,h2⟩:=Rd.bool (hf 2 _ rfl) Tryz.underlying4;obtain ⟨r,h3⟩:=Rd.bool (hf 3 _ rfl) Tryz.underlying4;obtain ⟨ask,h4,_⟩:=Rd.u64 (hf 4 _ rfl);obtain ⟨id,h5,_⟩:=Rd.u64 (hf 5 _ rfl);have hl':cs.length=21:=hl.trans (by kernel_rfl)
 match cs,hl' with
 | [u0,u1,u2,u3,u4,u5,u6,u7,u8,u9,u10,u11,u12,u13,u14,u15,u16,u17,u18,u19,u20],_=>
  have h0':[u0]=[Value.int .i64 fr]:=h0;have h1':[u1,u2,u3,u4,u5,u6,u7,u8,u9,u10,u11,u12,u13,u14,u15,u16]=n.cells:=h1;have h2':[u17]=[Value.bool w]:=h2;have h3':[u18]=[Value.bool r]:=h3;have h4':[u19]=[Value.int .u64 ask]:=h4;have h5':[u20]=[Value.int .u64 id]:=h5;simp only[List.cons.injEq,and_true] at h0' h1' h2' h3' h4' h5';obtain ⟨e1,e2,e3,e4,e5,e6,e7,e8,e9,e10,e11,e12,e13,e14,e15,e16⟩:=h1';subst h0' h2' h3' h4' h5' e1 e2 e3 e4 e5 e6 e7 e8 e9 e10 e11 e12 e13 e14 e15 e16;exact ⟨⟨fr,n,w,r,ask,id⟩,rfl,⟨n1,n2,n3,n4⟩,n5⟩
theorem jurorPacksArgs {H:Type}{enc:TypeId×Value→H}{W:World}(args:List Value)(ha:∀(i:Nat) (t:TypeId) (v:Value),Tryz.f3.params.toList[i]? =some t→args[i]? =some v→Arg enc Tryz.prog W t v)(hl:args.length=2)(hT:TabM (all0 W)):
  CallsS Tryz.prog 3 args [roM (all0 W)] (λv _=>v=.bool true):=by
 match args,hl with
 | [v0,v1],_=>
  obtain ⟨a,c,vs,rfl,h1,h2,h3,h4⟩:=(ha 0 _ v0 rfl rfl).list (λr hr=>Rd.eo2 hr) (sz:=21) Tryz.underlying22 (by kernel_rfl) (by decide);obtain ⟨ap,cp,ps,rfl,k1,k2,k3⟩:=(ha 1 _ v1 rfl rfl).bytes Tryz.underlying23 Tryz.underlying5 (by kernel_rfl);exact JurorPacks_spec a c vs ap cp ps _ h3 h4 (Nat.le_trans h1 h2) k3 k1 hT
theorem jurorPacksFn {H:Type}(ds:List (DataW H))(h:ds.length=2):Rows.jurorPacksSpec.fn H ds={results:=[.lit (.bool true)],args:=ds}:=by
 match ds,h with
 | [d0,d1],_=>rfl
noncomputable def laidWorld (os:Os):World:=
 {World.holding Tryz.prog os ⟨#[],#[],[]⟩ with heap:=(World.holding Tryz.prog os ⟨#[],#[],[]⟩).heap.modify 0 fun
   | .cells _ t frozen=>.cells sortsC.toArray t frozen
   |o=>o}
theorem laid_met (os:Os):laidMet Tryz.prog Rows.jurorPacksRow.laid ((laidWorld os).forCall (λ_ _=>0) ⟨#[],#[.slice none 0 0,.slice none 0 0],[]⟩).memory:=
 laidMet_of_run' 8 (by kernel_rfl) (by kernel_rfl)
theorem jpacks_reads (os:Os){H:Type}(enc:TypeId×Value→H):∃places,DataW.whole enc Tryz.prog ((laidWorld os).forCall (λ_ _=>0) ⟨#[],#[.slice none 0 0,.slice none 0 0],[]⟩).memory Tryz.f3.params.toList Rows.jurorPacksSpec.vars false #[Value.slice none 0 0,.slice none 0 0].toList 8=some ([.nil,.nil],[],places):=
 ⟨[],by kernel_rfl⟩
set_option maxHeartbeats 1000000 in
set_option maxRecDepth 100000 in
theorem jurorPacksLifted (os:Os)(started:os.Started)(H:Type)(enc:TypeId×Value→H)(F:Stop.Interp):
  ReturnsInHanded {} Tryz.checked os 3 .any ((OpenSpec.ofChange Rows.jurorPacksSpec).preRow enc Tryz.prog Tryz.f3 Rows.jurorPacksRow.domain false Rows.jurorPacksRow.laid) (((OpenSpec.ofChange Rows.jurorPacksSpec).at F).post enc Tryz.prog Tryz.f3 false true false false):=by
 obtain ⟨places,hx⟩:=jpacks_reads os enc;refine returnsInHanded_of_row (C:=Tryz.checked) (s:=OpenSpec.ofChange Rows.jurorPacksSpec) own started (by kernel_rfl) Tryz.func3
  (witness_row_at (enc := enc) (C := Tryz.checked) false (laidWorld os) #[.slice none 0 0,.slice none 0 0] rfl (by kernel_rfl) (by kernel_rfl) (by kernel_rfl)
   (OpenSpec.preRow_of_cond 8 hx (by kernel_rfl) (λk hk=>by cases hk) (by kernel_rfl) (laid_met os))) ?_
 intro W base args ds gs before hval hW _ _ _ hL _ _;exact row_post (f:=3) (F:=Tryz.f3) (s:=Rows.jurorPacksSpec) (kids_rows (by kernel_rfl) (by kernel_rfl)) (slices_full_of Tryz.prog (by kernel_rfl)) (by kernel_rfl) rfl (λds h=>jurorPacksFn ds h) rfl Tryz.underlying4 hval hW (λha hl=>jurorPacksArgs args.toList ha hl (tab_of_laid hL))
theorem jurorPacksSaid :Rows.JurorPacksSaid:=
 OpenClaim.holds_of_cond 3 Tryz.f3 rfl rfl rfl rfl rfl rfl rfl ⟨rfl,rfl,rfl,rfl,rfl⟩ rfl rfl rfl rfl rfl (by kernel_rfl) Tryz.func3 (by kernel_rfl)
  (of_decide_eq_true (by kernel_rfl)) (by unfold Func.isWrapper;first|(rw[if_pos (by decide+kernel)];kernel_rfl)|(rw[if_neg (by decide+kernel)];exact ⟨rfl,rfl⟩))
  (λos started H enc _ F=>by rw[OpenClaim.pre_eq_preRow];exact jurorPacksLifted os started H enc F)
theorem jurorPacks_plain (f:FuncId)(fn:Func)(hf:Tryz.pinned.checked.prog.funcNamed "armillary/armillarylaw14.JurorPacks" =some f)(hfn:Tryz.pinned.checked.prog.funcs[f]? =some fn):
  false=Tryz.pinned.checked.prog.looks []∧∀(j:Nat) t,fn.params[j]? =some t→Tryz.pinned.checked.prog.wantsStandIn t=false:=by
 obtain rfl:f=3:=Option.some.inj ((show Tryz.prog.funcNamed "armillary/armillarylaw14.JurorPacks" =some 3 by kernel_rfl).symm.trans hf)|>.symm
 obtain rfl:fn=Tryz.f3:=(Option.some.inj (Tryz.func3.symm.trans hfn)).symm;refine ⟨by kernel_rfl,λj t ht=> ?_⟩;rw[Tryz.params3] at ht;have hm:=Array.mem_of_getElem? ht;simp only[List.mem_toArray,List.mem_cons,List.not_mem_nil,or_false] at hm
 rcases hm with rfl|rfl
 ·exact (show Tryz.prog.wantsStandIn 22=false by kernel_rfl)
 ·exact (show Tryz.prog.wantsStandIn 23=false by kernel_rfl)
theorem jurorPacks_holds :Rows.JurorPacksCardSaid:=
 Claim7.holds_tied_plain_at .later [] _ _ _ _ jurorPacksSaid (λ_ h=>by cases h) (by kernel_rfl) (λ_ h=>by cases h) jurorPacks_row_tie rfl ⟨rfl,rfl⟩ (by kernel_rfl) rfl jurorPacks_plain (by kernel_rfl)
#print axioms jurorPacks_holds
end Go.Proofs.YtjlgabojhnnbaaaGreatDoor
