/- The document's Wake. The document's Pack of a juror. What is asked of a vault and of the ref's: alike. A juror asked, as its vault. A region's order, checked fast. The law's same. The document's Take and num. The scroll's reader: Vec. The juror's bytes, read: rises, sound. The juror's bytes, read: chains. The juror's bytes, read: intents. The document's reader of a juror: number, count, vector. The document's reader of a juror: count, vector; New, opened. No condition. -/
import Derived.Test.YtjlgabojhnnbaaaGreatDoorPk10
set_option linter.unusedVariables false
set_option linter.unusedSimpArgs false
set_option linter.unusedSectionVars false
set_option maxHeartbeats 16000000
namespace Go.Proofs.YtjlgabojhnnbaaaGreatDoor
open Go Go.SX
attribute [local irreducible] swp opsS thenS blockS retS CallsS St Ent YieldS anyS drawS
theorem JRWake_spec (p:Nat)(j:JS)(k:Nat)(L:HL)(hj:JOW j k)(hk:k≤1000)(hp4:∀u∈j.parts,u.2.length≤4):
  CallsS Tryz.prog 48 [.pointer (some ⟨p,0,none⟩)] (rjH p j::L) (λr L'=>∃(a:OA) (c:Nat),r=.slice a (wakeJ j).length c∧L'=slO 183 17 a (wakeJ j).length c ((wakeJ j).flatMap mailC)::rjH p j::L):=by
 have hpl4:∀t,((lkL j.parts t).getD []).length≤4:=λt=>by
  cases h:lkL j.parts t with
  |none=>exact Nat.zero_le _
  |some l=>exact hp4 _ (lk_memL h)
 refine calls_rj λv sf M pa pc us da dc ds hq=> ?_
 refine CallsS.of_body Tryz.func48 rfl rfl rfl ?_;refine swp_ref v (λMr ra rc es ra2 rc2 is hok=> ?_);have hI:is.map IV.abs=srtM j.v.its:=srt_eq hj.w.k2 hok.its (by rw[List.map_map];exact hok.ss);have hku:keysOK (us.map QV.abs):=keys_perm hq.kp hq.pp;have hil:is.length≤1000:=by have h1:=hok.its.length_eq;rw[List.length_map] at h1;have:=hj.w.wf.il;omega
 have hul:us.length≤1000:=by have h1:=hq.pp.length_eq;rw[List.length_map] at h1;have:=hj.pl;omega
 have hlk:∀t,lkL (us.map QV.abs) t=lkL j.parts t:=λt=>lkL_perm hq.kp hq.pp t
 have hsf:=hq.s2;have hW:wakeJ j=is.flatMap λi=>wkQ j.v.dim i.txn ((lkL j.parts i.txn).getD []):=by
  unfold wakeJ;rw[←hI,List.flatMap_map]
 have fin:∀L1,Ent L1 (rjP p sf v pa us pc da ds dc::rP v j.v.dim ra es rc ra2 is rc2 j.v.mark::roM Mr::roM M::L)→Ent L1 (rjH p j::L):=λL1 h=>Ent.trans h (Ent.trans (M:=rP v j.v.dim ra es rc ra2 is rc2 j.v.mark::roM Mr::rjP p sf v pa us pc da ds dc::roM M::L) eG (Ent.trans (ref_shut hok) (Ent.trans (M:=rjP p sf v pa us pc da ds dc::refH v j.v::roM M::L) eG (rj_shut hq))))
 refine Q.r ?_;refine swp_cutB (σ:=OA×Nat) (λs=> [(3,.slice s.1 (wakeJ j).length s.2)])
  (λs=>slO 183 17 s.1 (wakeJ j).length s.2 ((wakeJ j).flatMap mailC)::rjP p sf v pa us pc da ds dc::rP v j.v.dim ra es rc ra2 is rc2 j.v.mark::roM Mr::roM M::L) (λ_=>True) ?_ ?_
 ·refine swp_loop (σ:=Nat×OA×Nat×List (Int×NA)) (λs=> [(0,.pointer (some ⟨p,0,none⟩)),(17,.slice ra2 is.length rc2),(18,.int .i64 is.length),(3,.slice s.2.1 s.2.2.2.length s.2.2.1),(19,.int .i64 s.1)])
   (λs=>slO 183 17 s.2.1 s.2.2.2.length s.2.2.1 (s.2.2.2.flatMap mailC)::rjP p sf v pa us pc da ds dc::rP v j.v.dim ra es rc ra2 is rc2 j.v.mark::roM Mr::roM M::L) (λs=>s.1≤is.length∧s.2.2.2=(is.take s.1).flatMap (λi=>wkQ j.v.dim i.txn ((lkL j.parts i.txn).getD []))∧s.2.2.2.length≤s.1*5) (λs=>is.length - s.1) (0,none,0,[]) zt eG ⟨Nat.zero_le _,rfl,Nat.zero_le _⟩ ?_
  rintro ⟨i,a3,c3,ms⟩ ⟨hi,hus,hml⟩;dsimp only at hi hus hml ⊢
  by_cases hlt:i<is.length
  ·obtain ⟨e,he⟩:=mem_get hlt
   obtain ⟨b5,o5,hia5,cr5⟩:=SlM.cm (g:=IV.cells) (λ_=>rfl) hok.sI he rfl;have hlen:=hpl4 e.txn;have hN:=flatM (f:=λi:IV=>wkQ j.v.dim i.txn ((lkL j.parts i.txn).getD [])) he;have hPO:=PartsOf_spec p v sf pa pc us da dc ds e.txn M;rw[hlk] at hPO;rw[hia5];refine Q.r ?_;(repeat (intro b1;refine Q.r ?_));refine S.app rfl rfl (SrcS.sl RdC.row zr zr) zr zo zo (λa4 c4=> ?_);refine Q.r ?_;rename_i bi bn;refine opsS_ent (L':=rjP p sf v pa us pc da ds dc::roM M::pt bn (cl (qN e.txn).nv.cells 37)::slO 183 17 a4 (ms.length+1) c4 (ms.flatMap mailC++mailC (0,qN e.txn))::rP v j.v.dim ra es rc (some ⟨b5,o5,none⟩) is rc2 j.v.mark::roM Mr::L) eG ?_;refine S.cr rfl (hPO _ hq.pS hq.po hku zo) ?_;rintro _ _ ⟨qa,qc,rfl,hsl,rfl⟩;clear hPO;generalize (lkL j.parts e.txn).getD []=pl at*;refine Q.r ?_;refine swp_loop (σ:=Nat×OA×Nat×List (Int×NA)) (λs=> [(0,.pointer (some ⟨p,0,none⟩)),(6,.pointer (some ⟨bn,0,none⟩)),(17,.slice (some ⟨b5,o5,none⟩) is.length rc2),(18,.int .i64 is.length),(19,.int .i64 i),(34,.slice qa pl.length qc),(35,.int .i64 pl.length),(3,.slice s.2.1 s.2.2.2.length s.2.2.1),(36,.int .i64 s.1)])
    (λs=>pt bn (cl (qN e.txn).nv.cells 37)::slO 183 17 s.2.1 s.2.2.2.length s.2.2.1 (s.2.2.2.flatMap mailC)::rjP p sf v pa us pc da ds dc::rP v j.v.dim ra es rc (some ⟨b5,o5,none⟩) is rc2 j.v.mark::roM Mr::roM M::L) (λs=>s.1≤pl.length∧s.2.2.2=ms++[(0,qN e.txn)]++wkP j.v.dim e.txn (pl.take s.1)) (λs=>pl.length - s.1) (0,a4,c4,ms++[(0,qN e.txn)]) ⟨rfl,rfl,rfl,rfl,rfl,rfl,rfl,congrArg some (by simp[List.filter_append]),rfl,trivial⟩ ?_ ⟨Nat.zero_le _,by simp[wkP]⟩ ?_
   ·dsimp only
    rw[len_snoc,flat_mail1];exact eG
   rintro ⟨m,a6,c6,ws⟩ ⟨hm,hws⟩;dsimp only at hm hws ⊢;have hwl:ws.length≤10000:=by
    have h1:=wkP_len j.v.dim e.txn (pl.take m);rw[List.length_take] at h1;rw[hws,List.length_append,List.length_append,List.length_singleton];omega
   by_cases hmt:m<pl.length
   ·obtain ⟨q,hq1⟩:=mem_get hmt
    obtain ⟨bp,op,hpa,cp⟩:=SlM.cm1 (g:=I64) hsl hq1 rfl;have hS:=wkP_snoc (sf:=j.v.dim) (t:=e.txn) hq1;rw[hpa]
    by_cases h2:q=0
    ·rw[if_neg (λh=>h.2 h2),List.append_nil] at hS
     refine Q.r ?_;refine ⟨(m+1,a6,c6,ws),⟨rfl,rfl,rfl,rfl,rfl,by rw[←hpa];rfl,rfl,rfl,rfl,trivial⟩,by exact eG,⟨hmt,by dsimp only;rw[hS,hws]⟩,Nat.sub_succ_lt_self pl.length m hmt⟩
    ·by_cases h1:q=sf
     ·rw[if_neg (λh=>h.1 (h1.trans hsf)),List.append_nil] at hS
      refine Q.r ?_;refine ⟨(m+1,a6,c6,ws),⟨rfl,rfl,rfl,rfl,rfl,by rw[←hpa];rfl,rfl,rfl,rfl,trivial⟩,by exact eG,⟨hmt,by dsimp only;rw[hS,hws]⟩,Nat.sub_succ_lt_self pl.length m hmt⟩
     ·rw[if_pos ⟨λh=>h1 (h.trans hsf.symm),h2⟩] at hS
      refine Q.r ?_;(repeat (intro b1;refine Q.r ?_));refine S.app rfl rfl (SrcS.sl RdC.row zr zr) zr zo zo (λa7 c7=> ?_);refine Q.r ?_;refine ⟨(m+1,a7,c7,ws++[(q,qN e.txn)]),⟨rfl,rfl,rfl,rfl,rfl,by rw[←hpa];rfl,rfl,congrArg some (by simp[List.filter_append]),rfl,trivial⟩,?_,⟨hmt,by dsimp only;rw[hS,hws,List.append_assoc]⟩,Nat.sub_succ_lt_self pl.length m hmt⟩;dsimp only;rw[len_snoc,flat_mail1];exact eG
   ·have hme:m=pl.length:=by omega
    subst hme;rw[List.take_length] at hws;have hfin:ws=(is.take (i+1)).flatMap (λi=>wkQ j.v.dim i.txn ((lkL j.parts i.txn).getD [])):=by
     rw[hN,hws,←hus,List.append_assoc];rfl
    have hpw:=wkP_len j.v.dim e.txn pl;refine Q.r ?_;refine ⟨(i+1,a6,c6,ws),⟨rfl,by rw[←hia5];rfl,rfl,rfl,rfl,trivial⟩,by exact eG,⟨hlt,hfin,?_⟩,Nat.sub_succ_lt_self is.length i hlt⟩;dsimp only;rw[hws,List.length_append,List.length_append,List.length_singleton];omega
  ·have hie:i=is.length:=by omega
   subst hie;rw[List.take_length,←hW] at hus;subst hus;refine Q.r ?_;exact ⟨(a3,c3),zt,by exact eG,trivial⟩
 rintro ⟨a3,c3⟩ _;dsimp only;refine Q.r ?_;exact N.t rfl (Ent.trans (M:=slO 183 17 a3 (wakeJ j).length c3 ((wakeJ j).flatMap mailC)::rjP p sf v pa us pc da ds dc::rP v j.v.dim ra es rc ra2 is rc2 j.v.mark::roM Mr::roM M::L) eG (Ent.cons (fin _ (Ent.refl _)))) ⟨a3,c3,rfl,rfl⟩
theorem vec_len {w:List Int}(h:w.length≤8)(hi:∀n∈w,i32ok n):(vecI w).length≤90:=by
 have h1:=numI_len (z:=(w.length:Int)) zo;have h2:(w.flatMap λn=>numI (zzI n)).length≤w.length*10:=flat_le λn hn=>zz_len (hi n hn)
 unfold vecI;rw[List.length_append];omega
theorem ver_len {u:Int×List Int}(h:okVr u):(verE u).length≤100:=by
 have h1:=numI_len (z:=u.1) (by have:=h.1.2;omega);have h2:=vec_len h.2.1 h.2.2
 show (numI u.1++vecI u.2).length≤100
 rw[List.length_append];omega
theorem pre_le {α:Type}{f:α→List UInt8}(xs:List α)(k:Nat):((xs.take k).flatMap f).length≤(xs.flatMap f).length:=by
 have e:(xs.take k).flatMap f++(xs.drop k).flatMap f=xs.flatMap f:=by rw[←List.flatMap_append,List.take_append_drop]
 rw[←e,List.length_append];omega
theorem canD_ds {j:JS}{ds:List (Int×Int)}(hd:ds.Perm j.done)(hs:(ds.map (·.1)).Pairwise (· < ·))(hk:keysOK j.done):canD j=ds:=by
 have e:sortL (j.done.map (·.1))=ds.map (·.1):=sorted_uniq ((sortL_perm _).trans (hd.map (·.1)).symm) (sortL_sorted _) (hs.imp λh=>Int.le_of_lt h);unfold canD;rw[e,List.map_map];refine (List.map_congr_left λd hm=> ?_).trans (List.map_id _)
 show (d.1,(lkL j.done d.1).getD 0)=d
 rw[(lkL_iff hk).2 (hd.mem_iff.1 hm)];rfl
abbrev iaE (us:List QV)(i:IV):List UInt8:=intE (i.txn,i.after,(lkL (us.map QV.abs) i.txn).getD [],i.ops.map OV.abs)
set_option maxRecDepth 100000 in
theorem JRPack_spec (p:Nat)(j:JS)(k:Nat)(L:HL)(hk:k≤1000)(hj:JOW j k)(hx:JPX j)(hT:(packV j).length≤10000000):
  CallsS Tryz.prog 13 [.pointer (some ⟨p,0,none⟩)] (rjH p j::L) (λr L'=>∃a c,r=.slice a (packV j).length c∧L'=slB a c (packV j)::rjH p j::L):=by
 have ho:=can_okj hk hj hx;rw[can_pack hk hj hx] at hT ⊢;refine calls_rj λv sf M pa pc us da dc ds hq=> ?_
 refine CallsS.of_body Tryz.func13 rfl rfl rfl ?_;refine Q.r ?_;refine swp_ref v (λMr ra rc es ra2 rc2 is hok=> ?_);have hE:es.map EV.abs=srtM j.v.ch:=srt_eq hj.w.k1 hok.ch (by rw[List.map_map];exact hok.cs);have hI0:is.map IV.abs=srtM j.v.its:=srt_eq hj.w.k2 hok.its (by rw[List.map_map];exact hok.ss);have hku:keysOK (us.map QV.abs):=keys_perm hq.kp hq.pp;have hI:canI j=is.map λi=>(i.txn,i.after,(lkL (us.map QV.abs) i.txn).getD [],i.ops.map OV.abs):=by
  unfold canI;rw[←hI0,List.map_map];refine List.map_congr_left λi _=> ?_
  show (i.txn,i.after,(lkL j.parts i.txn).getD [],i.ops.map OV.abs)=_
  rw[lkL_perm hq.kp hq.pp i.txn]
 have hD:canD j=ds:=canD_ds hq.dp hq.sd hq.kd;rw[hI,hD] at ho hT;rw[hI,hD];rw[←hE] at ho hT ⊢;have hel:es.length≤16000:=by have h1:=hok.ch.length_eq;rw[List.length_map] at h1;have:=hj.w.wf.cl;omega
 have hil:is.length≤1000:=by have h1:=hok.its.length_eq;rw[List.length_map] at h1;have:=hj.w.wf.il;omega
 have hdl:ds.length≤1000:=by have h1:=hq.dp.length_eq;have:=hj.dl;omega
 have hul:us.length≤1000:=by have h1:=hq.pp.length_eq;rw[List.length_map] at h1;have:=hj.pl;omega
 have hoE:∀e∈es,okEr e.abs∧e.vs.length≤1000:=λe he=>⟨ho.hE.2 _ (List.mem_map_of_mem he),by
  have h1:=(hj.w.wf.co _ (hok.ch.mem_iff.1 (List.mem_map_of_mem (f:=EV.abs) he))).2.1;rw[List.length_map] at h1;omega⟩
 have hoI:∀i∈is,okIr 4 15 16 (i.txn,i.after,(lkL (us.map QV.abs) i.txn).getD [],i.ops.map OV.abs):=λi hi=>ho.hI.2 _ (List.mem_map_of_mem (f:=λi:IV=>(i.txn,i.after,(lkL (us.map QV.abs) i.txn).getD [],i.ops.map OV.abs)) hi)
 have hoD:∀d∈ds,okDr d:=λd hd=>(ho.hD.2 d hd).1
 have hmk:=ho.hm;unfold encJ encL at hT ⊢;rw[List.length_map,List.length_map] at hT ⊢;rw[List.flatMap_map,List.flatMap_map] at hT ⊢;have hT1:(es.flatMap λe=>entE e.abs).length+(is.flatMap λi=>iaE us i).length+(ds.flatMap dnE).length≤10000000:=by
  have hT2:(numI j.v.mark++(numI (es.length:Int)++(es.flatMap λe=>entE e.abs)++(numI (is.length:Int)++(is.flatMap λi=>iaE us i)++(numI (ds.length:Int)++ds.flatMap dnE)))).length≤10000000:=hT;rw[List.length_append,List.length_append,List.length_append,List.length_append,List.length_append,List.length_append] at hT2;clear hT ho;omega
 clear hT;have e0:numI j.v.mark++(numI (es.length:Int)++(es.flatMap λe=>entE e.abs)++(numI (is.length:Int)++(is.flatMap λi=>iaE us i)++(numI (ds.length:Int)++ds.flatMap dnE)))=numI j.v.mark++numI (es.length:Int)++(es.flatMap λe=>entE e.abs)++numI (is.length:Int)++(is.flatMap λi=>iaE us i)++numI (ds.length:Int)++ds.flatMap dnE:=by simp only[List.append_assoc]
 rw[show (numI j.v.mark++(numI (es.length:Int)++(es.flatMap λx=>entE x.abs)++(numI (is.length:Int)++(is.flatMap λx=>intE (x.txn,x.after,(lkL (us.map QV.abs) x.txn).getD [],x.ops.map OV.abs))++(numI (ds.length:Int)++ds.flatMap dnE))))=numI j.v.mark++numI (es.length:Int)++(es.flatMap λe=>entE e.abs)++numI (is.length:Int)++(is.flatMap λi=>iaE us i)++numI (ds.length:Int)++ds.flatMap dnE from e0];have n0:=numI_len (z:=j.v.mark) zo;have n1:=numI_len (z:=(es.length:Int)) zo;have n2:=numI_len (z:=(is.length:Int)) zo;have n3:=numI_len (z:=(ds.length:Int)) zo;have bE:=λk=>pre_le (f:=λe:EV=>entE e.abs) es k
 have bI:=λk=>pre_le (f:=λi:IV=>iaE us i) is k
 have bD:=λk=>pre_le (f:=dnE) ds k
 have fin:∀L1,Ent L1 (rjP p sf v pa us pc da ds dc::rP v j.v.dim ra es rc ra2 is rc2 j.v.mark::roM Mr::roM M::L)→Ent L1 (rjH p j::L):=λL1 h=>Ent.trans h (Ent.trans (M:=rP v j.v.dim ra es rc ra2 is rc2 j.v.mark::roM Mr::rjP p sf v pa us pc da ds dc::roM M::L) eG (Ent.trans (ref_shut hok) (Ent.trans (M:=rjP p sf v pa us pc da ds dc::refH v j.v::roM M::L) eG (rj_shut hq))))
 refine swp_ent (L':=rjP p sf v pa us pc da ds dc::rP v j.v.dim ra es rc ra2 is rc2 j.v.mark::roM Mr::roM M::L) eG ?_;refine Q.dgo [true,true] [7,17,18] [] [0,1,2,3,4,5,6,8,9,10,11,12,13,14,15,16,7,17,18,19] ?_;refine Q.rd ?_;refine D.y rfl rfl rfl zk (Y.cvi rfl) ?_;rw[wrap_u64 zo zo];refine Q.rd ?_;refine D.e rfl rfl rfl ?_;refine S.cr rfl (RNum j.v.mark _ zo zo) ?_;rintro _ _ ⟨w1,cw1,rfl,rfl⟩;refine Q.r ?_;refine Q.rd ?_;refine D.e rfl rfl rfl ?_;refine S.cr rfl (RNum (es.length:Int) _ zo zo) ?_;rintro _ _ ⟨y1,cy1,rfl,rfl⟩;have m1:=numI_len (z:=(es.length:Int)) zo;refine Q.r ?_;refine Q.rd ?_;refine D.e rfl rfl rfl ?_;refine opsS_addr y1 (λha1=> ?_);refine S.appB (a:=w1) (X:=(numI j.v.mark)) (Y:=numI (es.length:Int)) rfl rfl (RdS.own ha1 (by rw[List.length_map,Nat.mul_one])) zo (λw2 cw2=> ?_);refine Q.r ?_;refine Q.rd ?_;have q1:((numI j.v.mark)++numI (es.length:Int)).length≤10002000:=by rw[List.length_append];omega
 obtain ⟨W0,hW0⟩:∃W0,W0=numI j.v.mark++numI (es.length:Int):=⟨_,rfl⟩;have hW0l:W0.length≤20:=by rw[hW0,List.length_append];omega
 rw[←hW0];clear q1;refine Q.r ?_;refine swp_cutB (σ:=OA×Nat) (λs=> [(0,.pointer (some ⟨p,0,none⟩)),(3,.slice s.1 (W0++es.flatMap λe=>entE e.abs).length s.2)])
  (λs=>slB s.1 s.2 (W0++es.flatMap λe=>entE e.abs)::rjP p sf v pa us pc da ds dc::rP v j.v.dim ra es rc ra2 is rc2 j.v.mark::roM Mr::roM M::L) (λ_=>True) ?_ ?_
 ·refine swp_loop (σ:=Nat×OA×Nat) (λs=> [(0,.pointer (some ⟨p,0,none⟩)),(44,.slice ra es.length rc),(45,.int .i64 es.length),(3,.slice s.2.1 (W0++(es.take s.1).flatMap λe=>entE e.abs).length s.2.2),(46,.int .i64 s.1)])
   (λs=>slB s.2.1 s.2.2 (W0++(es.take s.1).flatMap λe=>entE e.abs)::rjP p sf v pa us pc da ds dc::rP v j.v.dim ra es rc ra2 is rc2 j.v.mark::roM Mr::roM M::L) (λs=>s.1≤es.length) (λs=>es.length - s.1) (0,w2,cw2) ⟨rfl,rfl,rfl,by simp only[List.take_zero,List.flatMap_nil,List.append_nil];rfl,rfl,trivial⟩ (by simp only[List.take_zero,List.flatMap_nil,List.append_nil];exact eG) (Nat.zero_le _) ?_
  rintro ⟨i,a6,c6⟩ hi;dsimp only at hi ⊢
  by_cases hlt:i<es.length
  ·obtain ⟨e,he⟩:=mem_get hlt
   have hem:=List.mem_of_getElem? he;obtain ⟨⟨hid,_,hvr⟩,hvl⟩:=hoE e hem;obtain ⟨bb,oo,hia,cr⟩:=SlM.cm (g:=EV.cells) (λ_=>rfl) hok.sE he rfl;have hoe:=hok.oe e hem;have bEi:=bE i;have hWX:(W0++(es.take i).flatMap λe=>entE e.abs).length≤10000020:=by rw[List.length_append];omega
   have hWN:W0++((es.take (i+1)).flatMap λe=>entE e.abs)=(W0++(es.take i).flatMap λe=>entE e.abs)++numI e.id++numI (e.vs.length:Int)++(e.vs.flatMap λv=>verE v.abs):=by
    rw[flat1 he];unfold entE encL;simp only[List.append_assoc,List.flatMap_map,List.length_map]
   generalize (W0++(es.take i).flatMap λe=>entE e.abs)=X at hWX hWN ⊢;have hid0:0≤e.id:=hid.1;have hid1:e.id≤18446744073709551615:=by have:e.id≤(1099511627776:Nat):=hid.2;omega
   rw[hia];refine Q.r ?_;(repeat (intro b1;refine Q.r ?_));revert b1;intro b4;refine swp_ent (L':=pt b4 (cl [.int .u64 e.id,.slice e.a e.vs.length e.c] 147)::slB a6 c6 X::rjP p sf v pa us pc da ds dc::rP v j.v.dim (some ⟨bb,oo,none⟩) es rc ra2 is rc2 j.v.mark::roM Mr::roM M::L) eG ?_;refine Q.dgo [true] [3,4,9,10] [] [0,1,2,5,6,7,8,3,4,9,10,11] ?_;refine Q.rd ?_;refine D.y rfl rfl rfl zk (Y.cvi rfl) ?_;rw[wrap_u64 zo zo];refine Q.rd ?_;refine D.e rfl rfl rfl ?_;refine S.cr rfl (RNum e.id _ zo zo) ?_;rintro _ _ ⟨y2,cy2,rfl,rfl⟩;have m2:=numI_len (z:=e.id) zo;refine Q.r ?_;refine Q.rd ?_;refine D.e rfl rfl rfl ?_;refine opsS_addr y2 (λha2=> ?_);refine S.appB (a:=a6) (X:=X) (Y:=numI e.id) rfl rfl (RdS.own ha2 (by rw[List.length_map,Nat.mul_one])) zo (λw3 cw3=> ?_);refine Q.r ?_;refine Q.rd ?_;have q2:(X++numI e.id).length≤10000100:=by rw[List.length_append];omega
   refine D.e rfl rfl rfl ?_;refine S.cr rfl (RNum (e.vs.length:Int) _ zo zo) ?_;rintro _ _ ⟨y3,cy3,rfl,rfl⟩;have m3:=numI_len (z:=(e.vs.length:Int)) zo;refine Q.r ?_;refine Q.rd ?_;refine D.e rfl rfl rfl ?_;refine opsS_addr y3 (λha3=> ?_);refine S.appB (a:=w3) (X:=(X++numI e.id)) (Y:=numI (e.vs.length:Int)) rfl rfl (RdS.own ha3 (by rw[List.length_map,Nat.mul_one])) zo (λw4 cw4=> ?_);refine Q.r ?_;refine Q.rd ?_;have q3:((X++numI e.id)++numI (e.vs.length:Int)).length≤10000200:=by rw[List.length_append];omega
   generalize X++numI e.id++numI (e.vs.length:Int)=Z at q3 hWN ⊢;refine Q.r ?_;refine swp_loop (σ:=Nat×OA×Nat) (λs=> [(0,.pointer (some ⟨p,0,none⟩)),(44,.slice (some ⟨bb,oo,none⟩) es.length rc),(45,.int .i64 es.length),(46,.int .i64 i),(62,.slice e.a e.vs.length e.c),(63,.int .i64 e.vs.length),(3,.slice s.2.1 (Z++(e.vs.take s.1).flatMap λv=>verE v.abs).length s.2.2),(64,.int .i64 s.1)])
    (λs=>slB s.2.1 s.2.2 (Z++(e.vs.take s.1).flatMap λv=>verE v.abs)::rjP p sf v pa us pc da ds dc::rP v j.v.dim (some ⟨bb,oo,none⟩) es rc ra2 is rc2 j.v.mark::roM Mr::roM M::L) (λs=>s.1≤e.vs.length) (λs=>e.vs.length - s.1) (0,w4,cw4) ⟨rfl,rfl,rfl,rfl,rfl,rfl,by simp only[List.take_zero,List.flatMap_nil,List.append_nil];rfl,rfl,trivial⟩ (by simp only[List.take_zero,List.flatMap_nil,List.append_nil];exact eG) (Nat.zero_le _) ?_
   rintro ⟨m,a8,c8⟩ hm;dsimp only at hm ⊢
   by_cases hmt:m<e.vs.length
   ·obtain ⟨u,hu⟩:=mem_get hmt
    have hum:=List.mem_of_getElem? hu;have huo:=hvr u.abs (List.mem_map_of_mem hum);obtain ⟨b6,o6,hia6,cr6⟩:=SlM.cm (g:=OV.cells) (λ_=>rfl) hoe.1 hu rfl;have hZl:((e.vs.take m).flatMap λv=>verE v.abs).length≤e.vs.length*100:=take_le m λv hv=>ver_len (hvr v.abs (List.mem_map_of_mem hv))
    have hZX:(Z++(e.vs.take m).flatMap λv=>verE v.abs).length≤10200200:=by rw[List.length_append];omega
    have hZN:Z++((e.vs.take (m+1)).flatMap λv=>verE v.abs)=(Z++(e.vs.take m).flatMap λv=>verE v.abs)++numI u.id++vecI u.vec:=by
     rw[flat1 hu];simp only[List.append_assoc]
    generalize (Z++(e.vs.take m).flatMap λv=>verE v.abs)=Y0 at hZX hZN ⊢;have hu0:0≤u.id:=huo.1.1;have hu1:u.id≤18446744073709551615:=by have:u.id≤(1099511627776:Nat):=huo.1.2;omega
    have hw8:u.vec.length≤8:=huo.2.1;have hwv:=vec_len hw8 huo.2.2;rw[hia6];refine Q.r ?_;(repeat (intro b1;refine Q.r ?_));revert b1;intro b7;refine swp_ent (L':=pt b7 (cl [.int .u64 u.id,.slice u.a u.vec.length u.c] 149)::slB a8 c8 Y0::rjP p sf v pa us pc da ds dc::rP v j.v.dim (some ⟨bb,oo,none⟩) es rc ra2 is rc2 j.v.mark::roM Mr::roM M::L) eG ?_;refine Q.dgo [true] [3,4,7,8] [] [0,1,2,5,6,3,4,7,8,9] ?_;refine Q.rd ?_;refine D.e rfl rfl rfl ?_;refine S.cr rfl (RNum u.id _ zo zo) ?_;rintro _ _ ⟨y4,cy4,rfl,rfl⟩;have m4:=numI_len (z:=u.id) zo;refine Q.r ?_;refine Q.rd ?_;refine D.e rfl rfl rfl ?_;refine opsS_addr y4 (λha4=> ?_);refine S.appB (a:=a8) (X:=Y0) (Y:=numI u.id) rfl rfl (RdS.own ha4 (by rw[List.length_map,Nat.mul_one])) zo (λw5 cw5=> ?_);refine Q.r ?_;refine Q.rd ?_;have q4:(Y0++numI u.id).length≤10300000:=by rw[List.length_append];omega
    refine D.e rfl rfl rfl ?_;refine S.cr rfl (VecW_spec u.a u.c u.vec Mr _ (hoe.2 u hum) hw8 huo.2.2) ?_;rintro _ _ ⟨y5,cy5,rfl,rfl⟩;refine Q.r ?_;refine Q.rd ?_;refine D.e rfl rfl rfl ?_;refine opsS_addr y5 (λha5=> ?_);refine S.appB (a:=w5) (X:=(Y0++numI u.id)) (Y:=vecI u.vec) rfl rfl (RdS.own ha5 (by rw[List.length_map,Nat.mul_one])) zo (λw6 cw6=> ?_);refine Q.r ?_;refine Q.rd ?_;rw[←hZN];refine Q.r ?_;refine ⟨(m+1,w6,cw6),⟨rfl,rfl,rfl,rfl,by rw[←hia6];rfl,rfl,rfl,rfl,trivial⟩,by exact eG,hmt,Nat.sub_succ_lt_self e.vs.length m hmt⟩
   ·have hme:m=e.vs.length:=by omega
    rw[hme,List.take_length,←hWN];refine Q.r ?_;rw[←hia];refine ⟨(i+1,a8,c8),zt,by exact eG,hlt,Nat.sub_succ_lt_self es.length i hlt⟩
  ·have hie:i=es.length:=by omega
   rw[hie,List.take_length];refine Q.r ?_;exact ⟨(a6,c6),zt,by exact eG,trivial⟩
 rintro ⟨a7,c7⟩ _;dsimp only;have bEl:=bE es.length;rw[List.take_length] at bEl;obtain ⟨V0,hV0⟩:∃V0,V0=W0++es.flatMap λe=>entE e.abs:=⟨_,rfl⟩
 have hV0l:V0.length≤10000020 - (is.flatMap λi=>iaE us i).length:=by rw[hV0,List.length_append];omega
 rw[←hV0];refine Q.r ?_;refine S.y (Y.cvi rfl) ?_;rw[wrap_u64 zo zo];refine S.cr rfl (RNum (is.length:Int) _ zo zo) ?_;rintro _ _ ⟨y6,cy6,rfl,rfl⟩;have m6:=numI_len (z:=(is.length:Int)) zo;refine Q.r ?_;refine opsS_addr y6 (λha6=> ?_);refine S.appB (a:=a7) (X:=V0) (Y:=numI (is.length:Int)) rfl rfl (RdS.own ha6 (by rw[List.length_map,Nat.mul_one])) zo (λg1 cg1=> ?_);refine Q.r ?_;have q6:(V0++numI (is.length:Int)).length≤10000100:=by rw[List.length_append];omega
 obtain ⟨W1,hW1⟩:∃W1,W1=V0++numI (is.length:Int):=⟨_,rfl⟩;have hW1l:W1.length+(is.flatMap λi=>iaE us i).length≤10000100:=by rw[hW1,List.length_append];omega
 rw[←hW1];refine swp_cutB (σ:=OA×Nat) (λs=> [(0,.pointer (some ⟨p,0,none⟩)),(3,.slice s.1 (W1++is.flatMap λi=>iaE us i).length s.2)])
  (λs=>slB s.1 s.2 (W1++is.flatMap λi=>iaE us i)::rjP p sf v pa us pc da ds dc::rP v j.v.dim ra es rc ra2 is rc2 j.v.mark::roM Mr::roM M::L) (λ_=>True) ?_ ?_
 ·refine swp_loop (σ:=Nat×OA×Nat) (λs=> [(0,.pointer (some ⟨p,0,none⟩)),(97,.slice ra2 is.length rc2),(98,.int .i64 is.length),(3,.slice s.2.1 (W1++(is.take s.1).flatMap λi=>iaE us i).length s.2.2),(99,.int .i64 s.1)])
   (λs=>slB s.2.1 s.2.2 (W1++(is.take s.1).flatMap λi=>iaE us i)::rjP p sf v pa us pc da ds dc::rP v j.v.dim ra es rc ra2 is rc2 j.v.mark::roM Mr::roM M::L) (λs=>s.1≤is.length) (λs=>is.length - s.1) (0,g1,cg1) ⟨rfl,rfl,rfl,by simp only[List.take_zero,List.flatMap_nil,List.append_nil];rfl,rfl,trivial⟩ (by simp only[List.take_zero,List.flatMap_nil,List.append_nil];exact eG) (Nat.zero_le _) ?_
  rintro ⟨i,a6,c6⟩ hi;dsimp only at hi ⊢
  by_cases hlt:i<is.length
  ·obtain ⟨e,he⟩:=mem_get hlt
   have hem:=List.mem_of_getElem? he;obtain ⟨hid,haf,hpp,hoo⟩:=hoI e hem;obtain ⟨bb,oo,hia,cr⟩:=SlM.cm (g:=IV.cells) (λ_=>rfl) hok.sI he rfl;have hoe:=hok.oi e hem;have bIi:=bI i;have hWX:(W1++(is.take i).flatMap λi=>iaE us i).length≤10000100:=by rw[List.length_append];omega
   have hWN:W1++((is.take (i+1)).flatMap λi=>iaE us i)=(W1++(is.take i).flatMap λi=>iaE us i)++numI e.txn++numI e.after++numI (((lkL (us.map QV.abs) e.txn).getD []).length:Int)++((lkL (us.map QV.abs) e.txn).getD []).flatMap numI++numI (e.ops.length:Int)++(e.ops.flatMap λv=>verE v.abs):=by
    rw[flat1 he];unfold iaE intE encL;simp only[List.append_assoc,List.flatMap_map,List.length_map]
   generalize (W1++(is.take i).flatMap λi=>iaE us i)=X at hWX hWN ⊢;have hid0:0≤e.txn:=hid.1;have hid1:e.txn≤18446744073709551615:=by have:e.txn≤(18446744073709551615:Nat):=hid.2;omega
   have haf0:0≤e.after:=haf.1;have haf1:e.after≤18446744073709551615:=by have:e.after≤(1099511627776:Nat):=haf.2;omega
   rw[hia];refine Q.r ?_;(repeat (intro b1;refine Q.r ?_));revert b1;intro b4;have hPO:=PartsOf_spec p v sf pa pc us da dc ds e.txn M;refine opsS_ent (L':=rjP p sf v pa us pc da ds dc::roM M::pt b4 (cl [.int .u64 e.txn,.int .u64 e.after,.slice e.a e.ops.length e.c] 151)::slB a6 c6 X::rP v j.v.dim ra es rc (some ⟨bb,oo,none⟩) is rc2 j.v.mark::roM Mr::L) eG ?_;refine S.cr rfl (hPO _ hq.pS hq.po hku zo) ?_;rintro _ _ ⟨qa,qc,rfl,hsP,rfl⟩;clear hPO;obtain ⟨hpl,hpb⟩:=hpp;generalize (lkL (us.map QV.abs) e.txn).getD []=P at*;dsimp only at hpl hpb hoo;have hol:e.ops.length≤16:=by have:=hoo.1;rw[List.length_map] at this;exact this
   refine Q.r ?_;refine swp_ent (L':=pt b4 (cl [.int .u64 e.txn,.int .u64 e.after,.slice e.a e.ops.length e.c] 151)::slB a6 c6 X::rjP p sf v pa us pc da ds dc::rP v j.v.dim ra es rc (some ⟨bb,oo,none⟩) is rc2 j.v.mark::roM Mr::roM M::L) eG ?_;refine Q.dgo [true] [3,4,7,8,12,13] [] [0,1,2,5,6,9,10,11,3,4,7,8,12,13,14] ?_;refine Q.rd ?_;refine D.y rfl rfl rfl zk (Y.cvi rfl) ?_;rw[wrap_u64 zo zo];refine Q.rd ?_;refine D.e rfl rfl rfl ?_;refine S.cr rfl (RNum e.txn _ zo zo) ?_;rintro _ _ ⟨y7,cy7,rfl,rfl⟩;have m7:=numI_len (z:=e.txn) zo;refine Q.r ?_;refine Q.rd ?_;refine D.e rfl rfl rfl ?_;refine opsS_addr y7 (λha7=> ?_);refine S.appB (a:=a6) (X:=X) (Y:=numI e.txn) rfl rfl (RdS.own ha7 (by rw[List.length_map,Nat.mul_one])) zo (λg2 cg2=> ?_);refine Q.r ?_;refine Q.rd ?_;have q7:(X++numI e.txn).length≤10000200:=by rw[List.length_append];omega
   refine D.e rfl rfl rfl ?_;refine S.cr rfl (RNum e.after _ zo zo) ?_;rintro _ _ ⟨y8,cy8,rfl,rfl⟩;have m8:=numI_len (z:=e.after) zo;refine Q.r ?_;refine Q.rd ?_;refine D.e rfl rfl rfl ?_;refine opsS_addr y8 (λha8=> ?_);refine S.appB (a:=g2) (X:=(X++numI e.txn)) (Y:=numI e.after) rfl rfl (RdS.own ha8 (by rw[List.length_map,Nat.mul_one])) zo (λg3 cg3=> ?_);refine Q.r ?_;refine Q.rd ?_;have q8:((X++numI e.txn)++numI e.after).length≤10000300:=by rw[List.length_append];omega
   refine D.e rfl rfl rfl ?_;refine S.cr rfl (RNum (P.length:Int) _ zo zo) ?_;rintro _ _ ⟨y9,cy9,rfl,rfl⟩;have m9:=numI_len (z:=(P.length:Int)) zo;refine Q.r ?_;refine Q.rd ?_;refine D.e rfl rfl rfl ?_;refine opsS_addr y9 (λha9=> ?_);refine S.appB (a:=g3) (X:=(X++numI e.txn++numI e.after)) (Y:=numI (P.length:Int)) rfl rfl (RdS.own ha9 (by rw[List.length_map,Nat.mul_one])) zo (λg4 cg4=> ?_);refine Q.r ?_;refine Q.rd ?_;have q9:((X++numI e.txn++numI e.after)++numI (P.length:Int)).length≤10000400:=by rw[List.length_append];omega
   generalize X++numI e.txn++numI e.after++numI (P.length:Int)=Z at q9 hWN ⊢;refine Q.r ?_;refine swp_cutB (σ:=OA×Nat) (λs=> [(0,.pointer (some ⟨p,0,none⟩)),(97,.slice (some ⟨bb,oo,none⟩) is.length rc2),(98,.int .i64 is.length),(99,.int .i64 i),(9,.pointer (some ⟨b4,0,none⟩)),(3,.slice s.1 (Z++P.flatMap numI).length s.2)])
    (λs=>pt b4 (cl [.int .u64 e.txn,.int .u64 e.after,.slice e.a e.ops.length e.c] 151)::slB s.1 s.2 (Z++P.flatMap numI)::rjP p sf v pa us pc da ds dc::rP v j.v.dim ra es rc (some ⟨bb,oo,none⟩) is rc2 j.v.mark::roM Mr::roM M::L) (λ_=>True) ?_ ?_
   ·refine swp_loop (σ:=Nat×OA×Nat) (λs=> [(0,.pointer (some ⟨p,0,none⟩)),(97,.slice (some ⟨bb,oo,none⟩) is.length rc2),(98,.int .i64 is.length),(99,.int .i64 i),(9,.pointer (some ⟨b4,0,none⟩)),(121,.slice qa P.length qc),(122,.int .i64 P.length),(3,.slice s.2.1 (Z++(P.take s.1).flatMap numI).length s.2.2),(123,.int .i64 s.1)])
     (λs=>pt b4 (cl [.int .u64 e.txn,.int .u64 e.after,.slice e.a e.ops.length e.c] 151)::slB s.2.1 s.2.2 (Z++(P.take s.1).flatMap numI)::rjP p sf v pa us pc da ds dc::rP v j.v.dim ra es rc (some ⟨bb,oo,none⟩) is rc2 j.v.mark::roM Mr::roM M::L) (λs=>s.1≤P.length) (λs=>P.length - s.1) (0,g4,cg4) ⟨rfl,rfl,rfl,rfl,rfl,rfl,rfl,by simp only[List.take_zero,List.flatMap_nil,List.append_nil];rfl,rfl,trivial⟩ (by simp only[List.take_zero,List.flatMap_nil,List.append_nil];exact eG) (Nat.zero_le _) ?_
    rintro ⟨m,a8,c8⟩ hm;dsimp only at hm ⊢
    by_cases hmt:m<P.length
    ·obtain ⟨u,hu⟩:=mem_get hmt
     have hub:=hpb u (List.mem_of_getElem? hu);obtain ⟨b6,o6,hia6,cr6⟩:=SlM.cm1 (g:=I64) hsP hu rfl;have hZl:((P.take m).flatMap numI).length≤P.length*10:=take_le m λv hv=>numI_len (by have:=hpb v hv;omega)
     have hZX:(Z++(P.take m).flatMap numI).length≤10200200:=by rw[List.length_append];omega
     have hZN:Z++(P.take (m+1)).flatMap numI=(Z++(P.take m).flatMap numI)++numI u:=by
      rw[flat1 hu];simp only[List.append_assoc]
     generalize (Z++(P.take m).flatMap numI)=Y0 at hZX hZN ⊢;rw[hia6];refine Q.r ?_;refine S.y (Y.cvi rfl) ?_;rw[wrap_u64 zo zo];refine S.cr rfl (RNum u _ zo zo) ?_;rintro _ _ ⟨y10,cy10,rfl,rfl⟩;have m10:=numI_len (z:=u) zo;refine Q.r ?_;refine opsS_addr y10 (λha10=> ?_);refine S.appB (a:=a8) (X:=Y0) (Y:=numI u) rfl rfl (RdS.own ha10 (by rw[List.length_map,Nat.mul_one])) zo (λg5 cg5=> ?_);rw[←hZN];refine Q.r ?_;refine ⟨(m+1,g5,cg5),⟨rfl,rfl,rfl,rfl,rfl,by rw[←hia6];rfl,rfl,rfl,rfl,trivial⟩,by exact eG,hmt,Nat.sub_succ_lt_self P.length m hmt⟩
    ·have hme:m=P.length:=by omega
     rw[hme,List.take_length];refine Q.r ?_;exact ⟨(a8,c8),zt,by exact eG,trivial⟩
   rintro ⟨a8,c8⟩ _;dsimp only;have hZP:(P.flatMap numI).length≤P.length*10:=flat_le λv hv=>numI_len (by have:=hpb v hv;omega)
   have hZ2:(Z++P.flatMap numI).length≤10200200:=by rw[List.length_append];omega
   generalize Z++P.flatMap numI=Z2 at hZ2 hWN ⊢;refine Q.r ?_;refine S.y (Y.cvi rfl) ?_;rw[wrap_u64 zo zo];refine S.cr rfl (RNum (e.ops.length:Int) _ zo zo) ?_;rintro _ _ ⟨y11,cy11,rfl,rfl⟩;have m11:=numI_len (z:=(e.ops.length:Int)) zo;refine Q.r ?_;refine opsS_addr y11 (λha11=> ?_);refine S.appB (a:=a8) (X:=Z2) (Y:=numI (e.ops.length:Int)) rfl rfl (RdS.own ha11 (by rw[List.length_map,Nat.mul_one])) zo (λg6 cg6=> ?_);refine Q.r ?_;have q11:(Z2++numI (e.ops.length:Int)).length≤10200300:=by rw[List.length_append];omega
   generalize Z2++numI (e.ops.length:Int)=Z3 at q11 hWN ⊢;refine swp_loop (σ:=Nat×OA×Nat) (λs=> [(0,.pointer (some ⟨p,0,none⟩)),(97,.slice (some ⟨bb,oo,none⟩) is.length rc2),(98,.int .i64 is.length),(99,.int .i64 i),(141,.slice e.a e.ops.length e.c),(142,.int .i64 e.ops.length),(3,.slice s.2.1 (Z3++(e.ops.take s.1).flatMap λv=>verE v.abs).length s.2.2),(143,.int .i64 s.1)])
    (λs=>slB s.2.1 s.2.2 (Z3++(e.ops.take s.1).flatMap λv=>verE v.abs)::rjP p sf v pa us pc da ds dc::rP v j.v.dim ra es rc (some ⟨bb,oo,none⟩) is rc2 j.v.mark::roM Mr::roM M::L) (λs=>s.1≤e.ops.length) (λs=>e.ops.length - s.1) (0,g6,cg6) ⟨rfl,rfl,rfl,rfl,rfl,rfl,by simp only[List.take_zero,List.flatMap_nil,List.append_nil];rfl,rfl,trivial⟩ (by simp only[List.take_zero,List.flatMap_nil,List.append_nil];exact eG) (Nat.zero_le _) ?_
   rintro ⟨m,a9,c9⟩ hm;dsimp only at hm ⊢
   by_cases hmt:m<e.ops.length
   ·obtain ⟨u,hu⟩:=mem_get hmt
    have hum:=List.mem_of_getElem? hu;have huo:=hoo.2 u.abs (List.mem_map_of_mem hum);obtain ⟨b6,o6,hia6,cr6⟩:=SlM.cm (g:=OV.cells) (λ_=>rfl) hoe.1 hu rfl;have hZl:((e.ops.take m).flatMap λv=>verE v.abs).length≤e.ops.length*100:=take_le m λv hv=>ver_len (hoo.2 v.abs (List.mem_map_of_mem hv))
    have hZX:(Z3++(e.ops.take m).flatMap λv=>verE v.abs).length≤10300000:=by rw[List.length_append];omega
    have hZN:Z3++((e.ops.take (m+1)).flatMap λv=>verE v.abs)=(Z3++(e.ops.take m).flatMap λv=>verE v.abs)++numI u.id++vecI u.vec:=by
     rw[flat1 hu];simp only[List.append_assoc]
    generalize (Z3++(e.ops.take m).flatMap λv=>verE v.abs)=Y0 at hZX hZN ⊢;have hu0:0≤u.id:=huo.1.1;have hu1:u.id≤18446744073709551615:=by have:u.id≤(1099511627776:Nat):=huo.1.2;omega
    have hw8:u.vec.length≤8:=huo.2.1;have hwv:=vec_len hw8 huo.2.2;rw[hia6];refine Q.r ?_;(repeat (intro b1;refine Q.r ?_));revert b1;intro b7;refine swp_ent (L':=pt b7 (cl [.int .u64 u.id,.slice u.a u.vec.length u.c] 119)::slB a9 c9 Y0::rjP p sf v pa us pc da ds dc::rP v j.v.dim ra es rc (some ⟨bb,oo,none⟩) is rc2 j.v.mark::roM Mr::roM M::L) eG ?_;refine Q.dgo [true] [3,4,7,8] [] [0,1,2,5,6,3,4,7,8,9] ?_;refine Q.rd ?_;refine D.e rfl rfl rfl ?_;refine S.cr rfl (RNum u.id _ zo zo) ?_;rintro _ _ ⟨y12,cy12,rfl,rfl⟩;have m12:=numI_len (z:=u.id) zo;refine Q.r ?_;refine Q.rd ?_;refine D.e rfl rfl rfl ?_;refine opsS_addr y12 (λha12=> ?_);refine S.appB (a:=a9) (X:=Y0) (Y:=numI u.id) rfl rfl (RdS.own ha12 (by rw[List.length_map,Nat.mul_one])) zo (λg7 cg7=> ?_);refine Q.r ?_;refine Q.rd ?_;have q12:(Y0++numI u.id).length≤10400000:=by rw[List.length_append];omega
    refine D.e rfl rfl rfl ?_;refine S.cr rfl (VecW_spec u.a u.c u.vec Mr _ (hoe.2 u hum) hw8 huo.2.2) ?_;rintro _ _ ⟨y13,cy13,rfl,rfl⟩;refine Q.r ?_;refine Q.rd ?_;refine D.e rfl rfl rfl ?_;refine opsS_addr y13 (λha13=> ?_);refine S.appB (a:=g7) (X:=(Y0++numI u.id)) (Y:=vecI u.vec) rfl rfl (RdS.own ha13 (by rw[List.length_map,Nat.mul_one])) zo (λg8 cg8=> ?_);refine Q.r ?_;refine Q.rd ?_;rw[←hZN];refine Q.r ?_;refine ⟨(m+1,g8,cg8),⟨rfl,rfl,rfl,rfl,by rw[←hia6];rfl,rfl,rfl,rfl,trivial⟩,by exact eG,hmt,Nat.sub_succ_lt_self e.ops.length m hmt⟩
   ·have hme:m=e.ops.length:=by omega
    rw[hme,List.take_length,←hWN];refine Q.r ?_;rw[←hia];refine ⟨(i+1,a9,c9),zt,by exact eG,hlt,Nat.sub_succ_lt_self is.length i hlt⟩
  ·have hie:i=is.length:=by omega
   rw[hie,List.take_length];refine Q.r ?_;exact ⟨(a6,c6),zt,by exact eG,trivial⟩
 rintro ⟨a10,c10⟩ _;dsimp only;have bIl:=bI is.length;rw[List.take_length] at bIl;obtain ⟨V1,hV1⟩:∃V1,V1=W1++is.flatMap λi=>iaE us i:=⟨_,rfl⟩
 have hV1l:V1.length≤10000100:=by rw[hV1,List.length_append];omega
 rw[←hV1];refine Q.r ?_;refine S.y (Y.cvi rfl) ?_;rw[wrap_u64 zo zo];refine S.cr rfl (RNum (ds.length:Int) _ zo zo) ?_;rintro _ _ ⟨y14,cy14,rfl,rfl⟩;have m14:=numI_len (z:=(ds.length:Int)) zo;refine Q.r ?_;refine opsS_addr y14 (λha14=> ?_);refine S.appB (a:=a10) (X:=V1) (Y:=numI (ds.length:Int)) rfl rfl (RdS.own ha14 (by rw[List.length_map,Nat.mul_one])) zo (λh1 ch1=> ?_);refine Q.r ?_;have q14:(V1++numI (ds.length:Int)).length≤10000200:=by rw[List.length_append];omega
 obtain ⟨W2,hW2⟩:∃W2,W2=V1++numI (ds.length:Int):=⟨_,rfl⟩;have hW2l:W2.length≤10000200:=by rw[hW2,List.length_append];omega
 rw[←hW2];refine swp_cutB (σ:=OA×Nat) (λs=> [(3,.slice s.1 (W2++ds.flatMap dnE).length s.2)])
  (λs=>slB s.1 s.2 (W2++ds.flatMap dnE)::rjP p sf v pa us pc da ds dc::rP v j.v.dim ra es rc ra2 is rc2 j.v.mark::roM Mr::roM M::L) (λ_=>True) ?_ ?_
 ·refine swp_loop (σ:=Nat×OA×Nat) (λs=> [(170,.slice da ds.length dc),(171,.int .i64 ds.length),(3,.slice s.2.1 (W2++(ds.take s.1).flatMap dnE).length s.2.2),(172,.int .i64 s.1)])
   (λs=>slB s.2.1 s.2.2 (W2++(ds.take s.1).flatMap dnE)::rjP p sf v pa us pc da ds dc::rP v j.v.dim ra es rc ra2 is rc2 j.v.mark::roM Mr::roM M::L) (λs=>s.1≤ds.length) (λs=>ds.length - s.1) (0,h1,ch1) ⟨rfl,rfl,by simp only[List.take_zero,List.flatMap_nil,List.append_nil];rfl,rfl,trivial⟩ (by simp only[List.take_zero,List.flatMap_nil,List.append_nil];exact eG) (Nat.zero_le _) ?_
  rintro ⟨i,a6,c6⟩ hi;dsimp only at hi ⊢
  by_cases hlt:i<ds.length
  ·obtain ⟨d,hd⟩:=mem_get hlt
   obtain ⟨hd1,hd2⟩:=hoD d (List.mem_of_getElem? hd);obtain ⟨bb,oo,hia,cr⟩:=SlM.cm (g:=dC) (λ_=>rfl) hq.dS hd rfl;have bDi:=bD i;have hWX:(W2++(ds.take i).flatMap dnE).length≤20000200:=by rw[List.length_append];omega
   have hWN:W2++(ds.take (i+1)).flatMap dnE=W2++(ds.take i).flatMap dnE++numI d.1++numI d.2:=by rw[flat1 hd];simp[dnE]
   generalize W2++(ds.take i).flatMap dnE=X at hWX hWN ⊢;have k1:d.1≤18446744073709551615:=by have:d.1≤(18446744073709551615:Nat):=hd1.2;omega
   have k2:d.2≤18446744073709551615:=by have:d.2≤(1099511627776:Nat):=hd2.2;omega
   have k3:=hd1.1;have k4:=hd2.1;rw[hia];refine Q.r ?_;(repeat (intro b1;refine Q.r ?_));revert b1;intro b4;refine swp_ent (L':=pt b4 (cl [.int .u64 d.1,.int .u64 d.2] 157)::slB a6 c6 X::rjP p sf v pa us pc (some ⟨bb,oo,none⟩) ds dc::rP v j.v.dim ra es rc ra2 is rc2 j.v.mark::roM Mr::roM M::L) eG ?_;refine Q.dgo [true] [3,4,7,8] [] [0,1,2,5,6,3,4,7,8,9] ?_;refine Q.rd ?_;refine D.e rfl rfl rfl ?_;refine S.cr rfl (RNum d.1 _ zo zo) ?_;rintro _ _ ⟨y15,cy15,rfl,rfl⟩;have m15:=numI_len (z:=d.1) zo;refine Q.r ?_;refine Q.rd ?_;refine D.e rfl rfl rfl ?_;refine opsS_addr y15 (λha15=> ?_);refine S.appB (a:=a6) (X:=X) (Y:=numI d.1) rfl rfl (RdS.own ha15 (by rw[List.length_map,Nat.mul_one])) zo (λh2 ch2=> ?_);refine Q.r ?_;refine Q.rd ?_;have q15:(X++numI d.1).length≤20000300:=by rw[List.length_append];omega
   refine D.e rfl rfl rfl ?_;refine S.cr rfl (RNum d.2 _ zo zo) ?_;rintro _ _ ⟨y16,cy16,rfl,rfl⟩;have m16:=numI_len (z:=d.2) zo;refine Q.r ?_;refine Q.rd ?_;refine D.e rfl rfl rfl ?_;refine opsS_addr y16 (λha16=> ?_);refine S.appB (a:=h2) (X:=(X++numI d.1)) (Y:=numI d.2) rfl rfl (RdS.own ha16 (by rw[List.length_map,Nat.mul_one])) zo (λh3 ch3=> ?_);refine Q.r ?_;refine Q.rd ?_;have q16:((X++numI d.1)++numI d.2).length≤20000400:=by rw[List.length_append];omega
   rw[←hWN];refine Q.r ?_;rw[←hia];refine ⟨(i+1,h3,ch3),zt,by exact eG,hlt,Nat.sub_succ_lt_self ds.length i hlt⟩
  ·have hie:i=ds.length:=by omega
   rw[hie,List.take_length];refine Q.r ?_;exact ⟨(a6,c6),zt,by exact eG,trivial⟩
 rintro ⟨a6,c6⟩ _;dsimp only;generalize W2++ds.flatMap dnE=TT at*;refine Q.r ?_;exact N.t rfl (Ent.trans (M:=slB a6 c6 TT::rjP p sf v pa us pc da ds dc::rP v j.v.dim ra es rc ra2 is rc2 j.v.mark::roM Mr::roM M::L) eG (Ent.cons (fin _ (Ent.refl _)))) ⟨a6,c6,rfl,rfl⟩
theorem RGet2_spec (p:Nat)(st:VS)(n:Nat)(M:OM)(a:OA)(es:List EV)(c:Nat)(a':OA)(is:List IV)(c':Nat)(id s:Int)(A:HL)(hok:ROK M st a c es a' c' is)(hw:WF st n)(hn:n≤10000):
  CallsS Tryz.prog 52 [ptrV p,.int .u64 id,.int .u64 s] (rP p st.dim a es c a' is c' st.mark::roM M::A) (λr L'=>(∃a4 c4,r=.tuple #[.slice a4 (getV st id s).length c4,.int .i64 (openE st s [id])]∧SlM M a4 (getV st id s).length 1 ((getV st id s).map I32))∧L'=rP p st.dim a es c a' is c' st.mark::roM M::A):=
 (RGet_spec p st n M a es c a' is c' id s A hok hw hn).mono λr L' ⟨⟨u,h1,h2,h3⟩,h4⟩=>by
  refine ⟨?_,h4⟩
  cases u with
  |none=>exact ⟨none,0,by rw[h1,h3];rfl,by rw[h3];exact SlM.nil⟩
  |some o=>exact ⟨o.a,o.c,by rw[h1,h3];rfl,by rw[h3];exact h2 o rfl⟩
def DOK (M:OM)(o:DV):Prop:=(SlM M o.a o.ops.length 2 (o.ops.flatMap OV.cells)∧okR M o.ops)∧(∀u∈o.ops,u.vec.length≤u.c)∧o.ops.length≤9223372036854775807∧0≤o.stamp∧SlM M o.ia o.ids.length 1 (o.ids.map U64)∧o.ids.length≤o.ic∧o.ids.length≤9223372036854775807
theorem DOK.mono {M M':OM}{o:DV}(h:DOK M o)(hl:leM M M'):DOK M' o:=
 ⟨⟨h.1.1.mono hl,λu hu=>(h.1.2 u hu).mono hl⟩,h.2.1,h.2.2.1,h.2.2.2.1,h.2.2.2.2.1.mono hl,h.2.2.2.2.2⟩
theorem JGet_spec (M:OM)(p:Nat)(j:JS)(n:Nat)(id s:Int)(L:HL)(hw:WF j.v n)(hn:n≤10000):
  CallsS Tryz.prog 50 [ptrJ p,.int .u64 id,.int .u64 s] (jurH M p j::L) (λr L'=>∃a c,r=.tuple #[.slice a (getV j.v id s).length c,.bool (decide (0<(getV j.v id s).length)),.int .i64 (openE j.v s [id])]∧L'=slO 21 1 a (getV j.v id s).length c ((getV j.v id s).map I32)::jurH M p j::L):=by
 refine calls_jur λv mp md self ps hq=> ?_
 refine CallsS.of_body Tryz.func50 rfl rfl rfl ?_;refine Q.r ?_;refine S.cr rfl (vaultOf_spec p v self j.v.dim mp md _) ?_;rintro _ _ ⟨rfl,rfl⟩;refine Q.r ?_;refine S.cv v rfl (Get_spec v j.v n id s _ hw hn) ?_;rintro _ _ ⟨a,c,rfl,rfl⟩;refine Q.r ?_;exact N.r3 (RV.tmp rfl (RV.tmp rfl (RV.tmp rfl RV.nil))) (Ent.trans (M:=jP p v self j.v.dim mp md::vaultH v j.v::jT mp ps::jD md j.done::slO 21 1 a (getV j.v id s).length c ((getV j.v id s).map I32)::L) eG (Ent.trans (jur_shut hq rfl) (Ent.perm (.swap _ _ _)))) ⟨a,c,rfl,rfl⟩
theorem JScan_spec (M:OM)(p:Nat)(j:JS)(n:Nat)(s:Int)(L:HL)(hw:WF j.v n)(hn:n≤10000):
  CallsS Tryz.prog 53 [ptrJ p,.int .u64 s] (jurH M p j::L) (λr L'=>∃a c,r=.tuple #[.slice a (scanV j.v s).length c,.int .i64 (openE j.v s [])]∧L'=jurH M p j::L):=by
 refine calls_jur λv mp md self ps hq=> ?_
 refine CallsS.of_body Tryz.func53 rfl rfl rfl ?_;refine Q.r ?_;refine S.cr rfl (vaultOf_spec p v self j.v.dim mp md _) ?_;rintro _ _ ⟨rfl,rfl⟩;refine Q.r ?_;refine S.cv v rfl (Scan_spec v j.v n s _ hw hn) ?_;rintro _ _ ⟨a,c,us,rfl,hu,-,-,rfl⟩;have hul:us.length=(scanV j.v s).length:=by rw[←hu,List.length_map]
 refine Q.r ?_;exact N.u rfl rfl (Ent.trans (M:=jP p v self j.v.dim mp md::vaultH v j.v::jT mp ps::jD md j.done::L) eG (jur_shut hq rfl)) ⟨a,c,by rw[hul],rfl⟩
theorem JBlocked_spec (M:OM)(p:Nat)(j:JS)(n:Nat)(s:Int)(L:HL)(hw:WF j.v n)(hn:n≤10000):
  CallsS Tryz.prog 57 [ptrJ p,.int .u64 s,.slice none 0 0] (jurH M p j::L) (λr L'=>r=.bool (blockedV j.v s [])∧L'=jurH M p j::L):=by
 refine calls_jur λv mp md self ps hq=> ?_
 refine CallsS.of_body Tryz.func57 rfl rfl rfl ?_;refine Q.r ?_;refine S.cr rfl (vaultOf_spec p v self j.v.dim mp md _) ?_;rintro _ _ ⟨rfl,rfl⟩;refine Q.r ?_;refine S.cv v rfl (Blocked_spec v j.v s none 0 [] _ hw.ops ⟨rfl,.inl rfl⟩ (by simp)) ?_;rintro _ _ ⟨rfl,rfl⟩;refine Q.r ?_;exact N.t rfl (Ent.trans (M:=jP p v self j.v.dim mp md::vaultH v j.v::jT mp ps::jD md j.done::L) eG (jur_shut hq rfl)) ⟨rfl,rfl⟩
def LastV (st:VS)(m:Int):Prop:=(∀c∈st.ch,lastS c.2≤m)∧(m=0∨∃c∈st.ch,lastS c.2=m)∧0≤m
theorem LastV.eq {st:VS}{m m':Int}(h:LastV st m)(h':LastV st m'):m=m':=by
 obtain ⟨a1,a2,a3⟩:=h;obtain ⟨b1,b2,b3⟩:=h';have le:∀{m m':Int},(m=0∨∃c∈st.ch,lastS c.2=m)→0≤m'→(∀c∈st.ch,lastS c.2≤m')→m≤m':=λh hz hb=>by
  rcases h with rfl|⟨c,hc,rfl⟩
  ·exact hz
  ·exact hb c hc
 exact Int.le_antisymm (le a2 b3 b1) (le b2 a3 a1)
theorem JLast_spec (M:OM)(p:Nat)(j:JS)(n:Nat)(L:HL)(hw:WF j.v n)(hn:n≤10000):
  CallsS Tryz.prog 51 [ptrJ p] (jurH M p j::L) (λr L'=>(∃m,r=.int .u64 m∧LastV j.v m)∧L'=jurH M p j::L):=by
 refine calls_jur λv mp md self ps hq=> ?_
 refine CallsS.of_body Tryz.func51 rfl rfl rfl ?_;refine Q.r ?_;refine S.cr rfl (vaultOf_spec p v self j.v.dim mp md _) ?_;rintro _ _ ⟨rfl,rfl⟩;refine Q.r ?_;refine S.cv v rfl (LastP_spec v j.v n _ hw hn) ?_;rintro _ _ ⟨⟨m,rfl,h1,h2,h3⟩,rfl⟩;refine Q.r ?_;exact N.t rfl (Ent.trans (M:=jP p v self j.v.dim mp md::vaultH v j.v::jT mp ps::jD md j.done::L) eG (jur_shut hq rfl)) ⟨⟨m,rfl,h1,h2,h3⟩,rfl⟩
end Go.Proofs.YtjlgabojhnnbaaaGreatDoor
namespace Go.SX
open Go
def mkM :List Nat→Nat
 | []=>0
 |k::l=>mkM l|||1<<<k
theorem mkM_test (k:Nat):∀l:List Nat,(mkM l).testBit k=l.contains k
 | []=>by simp[mkM]
 |x::l=>by
  unfold mkM;rw[Nat.testBit_or,mkM_test k l,Nat.shiftLeft_eq,Nat.one_mul,Nat.testBit_two_pow,List.contains_cons];rw[Bool.or_comm]
  congr 1
  by_cases h:x=k
  ·rw[decide_eq_true h,h];exact (beq_self_eq_true k).symm
  ·rw[decide_eq_false h];exact (beq_eq_false_iff_ne.2 λe=>h e.symm).symm
structure FO where
 d:Option Nat
 lk:Nat
 pm:Nat
def fastO (ops:Array Oper)(o:Oper):FO:=⟨o.dst,mkM (o.looksAt ops),mkM ((o.after.toList.filter λe=>Region.binds .any e).map (·.on))⟩
def rdyF :List FO→Nat→Nat→List Nat
 | [],_,_=> []
 |t::T,k,m=>bif !m.testBit k&&(t.pm&&&m).beq t.pm then k::rdyF T (k+1) m else rdyF T (k+1) m
def apF (x y:FO):Bool:=
  (match x.d with
   |some d=> !y.lk.testBit d&&y.d !=some d
   |none=>true)&&
  (match y.d with
   |some d=> !x.lk.testBit d
   |none=>true)
def frF (ti:FO)(i m:Nat):List FO→Nat→Bool
 | [],_=>true
 |t::T,j=>(j.beq i||m.testBit j||t.pm.testBit i||apF ti t)&&frF ti i m T (j+1)
def ordF (T:List FO)(E cs:List Nat):List Nat→Nat→Bool
 | [],m=>(rdyF T 0 m).isEmpty
 |i::σ,m=>bif Nat.beq i 99999 then true else (bif E.contains i then rdyF T 0 m==[i] else (match T[i]? with|none=>false|some ti=>frF ti i m T 0)&&(rdyF T 0 m).contains i&& !cs.contains i)&&ordF T E cs σ (m|||1<<<i)
structure RelM (n:Nat)(listed:Array Bool)(m:Nat):Prop where
 s:listed.size=n
 f:∀k,listed.getD k false=m.testBit k
theorem RelM.t {n:Nat}{listed:Array Bool}{m:Nat}(h:RelM n listed m){k:Nat}(hk:k<n):listed.getD k true=m.testBit k:=by
 rw[←h.f k];have hs:=h.s
 simp[Array.getD,hs,hk]
theorem RelM.set {n:Nat}{listed:Array Bool}{m i:Nat}(h:RelM n listed m)(hi:i<n):RelM n (listed.setIfInBounds i true) (m|||1<<<i):=by
 refine ⟨by rw[Array.size_setIfInBounds];exact h.s,λk=> ?_⟩;rw[Nat.testBit_or,Nat.shiftLeft_eq,Nat.one_mul,Nat.testBit_two_pow,←h.f k,Array.getD_eq_getD_getElem?,Array.getD_eq_getD_getElem?,Array.getElem?_setIfInBounds];have hs:=h.s
 by_cases hk:i=k
 ·subst hk
  simp[hs,hi]
 ·simp[hk]
theorem pm_ok {ops:Array Oper}{o:Oper}{n:Nat}{listed:Array Bool}{m:Nat}(h:RelM n listed m):((fastO ops o).pm&&&m).beq (fastO ops o).pm=o.after.all λe=> !Region.binds .any e||listed.getD e.on false:=by
 rw[Bool.eq_iff_iff];have e1:((fastO ops o).pm&&&m).beq (fastO ops o).pm=true↔∀k,(fastO ops o).pm.testBit k=true→m.testBit k=true:=by
  rw[Nat.beq_eq]
  constructor
  ·intro he k hk
   have:=congrArg (λx=>x.testBit k) he;simp only[Nat.testBit_and] at this;rw[hk] at this
   simpa using this
  ·intro he
   refine Nat.eq_of_testBit_eq λk=> ?_
   rw[Nat.testBit_and]
   cases hk:(fastO ops o).pm.testBit k with
   |false=>rfl
   |true=>rw[he k hk];rfl
 rw[e1];have e2:∀k,(fastO ops o).pm.testBit k=true↔∃e∈o.after,Region.binds .any e=true∧e.on=k:=λk=>by
  unfold fastO;dsimp only;rw[mkM_test,List.contains_iff_mem,List.mem_map]
  constructor
  ·rintro ⟨e,he,rfl⟩
   obtain ⟨h1,h2⟩:=List.mem_filter.1 he;exact ⟨e,Array.mem_toList_iff.1 h1,h2,rfl⟩
  ·rintro ⟨e,he,h2,rfl⟩
   exact ⟨e,List.mem_filter.2 ⟨Array.mem_toList_iff.2 he,h2⟩,rfl⟩
 rw[Array.all_eq_true_iff_forall_mem]
 constructor
 ·intro hh e he
  cases hb:Region.binds .any e with
  |false=>rfl
  |true=>
   rw[h.f,hh e.on ((e2 _).2 ⟨e,he,hb,rfl⟩)];rfl
 ·intro hh k hk
  obtain ⟨e,he,hb,rfl⟩:=(e2 k).1 hk;have:=hh e he;rw[hb,h.f] at this
  simpa using this
theorem rdyF_eq {ops:Array Oper}{n:Nat}{listed:Array Bool}{m:Nat}(h:RelM n listed m):∀(l:List Oper) (k:Nat),k+l.length≤n→(∀t,l[t]? =(ops[k+t]?).filter λ_=>decide (t<l.length))→
  rdyF (l.map (fastO ops)) k m=(List.range' k l.length).filter λi=> !listed.getD i true&&((ops[i]?).map (·.after.all λe=> !Region.binds .any e||listed.getD e.on false)).getD false
 | [],k,_,_=>rfl
 |o::l,k,hk,ho=>by
  have h0:ops[k]? =some o:=by
   have:=ho 0;rw[List.getElem?_cons_zero] at this
   simpa using this.symm
  have hk0:k<n:=by rw[List.length_cons] at hk;omega
  have ih := rdyF_eq h l (k + 1) (by rw [List.length_cons] at hk;omega) (fun t => by
   have:=ho (t+1);rw[List.getElem?_cons_succ] at this;rw[this,show k+(t+1)=k+1+t by omega];simp only[List.length_cons]
   congr 1
   funext _
   exact decide_eq_decide.2 zo)
  rw[List.length_cons,List.range'_succ,List.filter_cons,List.map_cons];unfold rdyF;rw[ih,h0,h.t hk0,pm_ok h];simp only[Option.map_some,Option.getD_some];exact Bool.cond_eq_ite _ _ _
theorem apF_eq {ops:Array Oper}(x y:Oper):apF (fastO ops x) (fastO ops y)=x.apart ops y:=by
 unfold apF Oper.apart fastO;dsimp only;have e:∀(z:Oper) d,(mkM (z.looksAt ops)).testBit d=(z.looksAt ops).contains d:=λz d=>mkM_test d _
 cases x.dst<;>cases y.dst<;>simp only[e]
theorem pm_any {ops:Array Oper}{o:Oper}{i:Nat}:(fastO ops o).pm.testBit i=o.after.any λe=>Region.binds .any e&&e.on==i:=by
 unfold fastO;dsimp only;rw[mkM_test,Bool.eq_iff_iff,List.contains_iff_mem,List.mem_map,←Array.any_toList,List.any_eq_true]
 constructor
 ·rintro ⟨e,he,rfl⟩
  obtain ⟨h1,h2⟩:=List.mem_filter.1 he;exact ⟨e,h1,by rw[h2];simp⟩
 ·rintro ⟨e,he,h2⟩
  rw[Bool.and_eq_true] at h2;exact ⟨e,List.mem_filter.2 ⟨he,h2.1⟩,eq_of_beq h2.2⟩
theorem frF_ok {ops:Array Oper}{n:Nat}{listed:Array Bool}{m i:Nat}{oi:Oper}(h:RelM n listed m)(hn:ops.size=n):∀(l:List Oper) (k:Nat),k+l.length=n→(∀t,t<l.length→l[t]? =ops[k+t]?)→frF (fastO ops oi) i m (l.map (fastO ops)) k=true→
  ∀ j,k ≤ j → j < n → (j == i || listed.getD j true || match ops[j]? with
   |some oj=>oj.after.any (λe=>Region.binds .any e&&e.on==i)||oi.apart ops oj
   |none=>true)=true
 | [],k,hk,_,_,j,h1,h2=>by rw[List.length_nil] at hk;omega
 |o::l,k,hk,ho,hf,j,h1,h2=>by
  rw[List.map_cons] at hf;unfold frF at hf;rw[Bool.and_eq_true] at hf;have hl:k+1+l.length=n:=by rw[List.length_cons] at hk;omega
  by_cases hj:j=k
  ·subst hj
   have h0:ops[j]? =some o:=by
    have:=ho 0 (by rw[List.length_cons];omega);rw[List.getElem?_cons_zero] at this
    simpa using this.symm
   rw[h0,h.t h2];have h3:=hf.1;have eb:Nat.beq j i=(j==i):=by rw[Bool.eq_iff_iff,Nat.beq_eq];simp
   rw[pm_any,apF_eq,eb] at h3;rw[Bool.or_assoc] at h3;exact h3
  ·exact frF_ok h hn l (k + 1) hl (fun t ht => by
    have:=ho (t+1) (by rw[List.length_cons];omega);rw[List.getElem?_cons_succ] at this;rw[this,show k+(t+1)=k+1+t by omega]) hf.2 j zo h2
theorem ordF_ok {ops:List Oper}{E cs:List Nat}:∀(σ:List Nat) (listed:Array Bool) (m:Nat),RelM ops.length listed m→ordF (ops.map (fastO ops.toArray)) E cs σ m=true→ordOK ops.toArray E cs σ listed=true:=by
 have hrd:∀(listed:Array Bool) (m:Nat),RelM ops.length listed m→rdyF (ops.map (fastO ops.toArray)) 0 m=Region.ready .any ops.toArray listed:=λlisted m h=>by
  rw [rdyF_eq h ops 0 zo (fun t => by
   rw[Nat.zero_add,List.getElem?_toArray]
   by_cases ht:t<ops.length
   ·rw[List.getElem?_eq_getElem ht];simp[ht];rfl
   ·rw[List.getElem?_eq_none zo];rfl)]
  unfold Region.ready;rw[List.range_eq_range',List.size_toArray]
 intro σ
 induction σ with
 |nil=>
  intro listed m h ho;unfold ordF at ho;unfold ordOK;rw[←hrd listed m h];exact ho
 |cons i σ ih=>
  intro listed m h ho;unfold ordF at ho;unfold ordOK;rw[←hrd listed m h]
  cases h9:Nat.beq i 99999 with
  |true=>rfl
  |false=>
   rw[h9,cond_false,Bool.and_eq_true] at ho;rw[cond_false,Bool.and_eq_true];have hlt:i<ops.length:=by
    have hm:i∈rdyF (ops.map (fastO ops.toArray)) 0 m:=by
     have h1:=ho.1
     cases hE:E.contains i with
     |true=>
      rw[hE,cond_true] at h1;rw[eq_of_beq h1];exact List.mem_singleton.2 rfl
     |false=>
      rw[hE,cond_false,Bool.and_eq_true,Bool.and_eq_true] at h1;exact List.contains_iff_mem.1 h1.1.2
    rw[hrd listed m h] at hm;unfold Region.ready at hm;have:=List.mem_range.1 (List.mem_filter.1 hm).1
    rwa [List.size_toArray] at this
   refine ⟨?_,ih _ _ (h.set hlt) ho.2⟩;have h1:=ho.1
   cases hE:E.contains i with
   |true=>
    rw[hE,cond_true] at h1;rw[cond_true];exact h1
   |false=>
    rw[hE,cond_false,Bool.and_eq_true,Bool.and_eq_true] at h1;rw[cond_false,Bool.and_eq_true,Bool.and_eq_true];refine ⟨⟨?_,h1.1.2⟩,h1.2⟩;have hi:ops.toArray[i]? =some ops[i]:=by rw[List.getElem?_toArray,List.getElem?_eq_getElem hlt]
    have h2:=h1.1.1;rw[List.getElem?_map,List.getElem?_eq_getElem hlt] at h2;unfold Region.free;rw[hi];dsimp only[Option.map_some] at h2 ⊢;refine List.all_eq_true.2 λj hj=> ?_
    have hj2:=List.mem_range.1 hj;rw[List.size_toArray] at hj2;exact frF_ok h List.size_toArray ops 0 zo (λt ht=>by rw[Nat.zero_add,List.getElem?_toArray]) h2 j (Nat.zero_le _) hj2
theorem RelM.zero (n:Nat):RelM n (Array.replicate n false) 0:=⟨Array.size_replicate,λk=>by rw[Array.getD_eq_getD_getElem?,Array.getElem?_replicate,Nat.zero_testBit];split<;>rfl⟩
section
variable {P : Program} {n : Nat} {ops : List Oper} {Q : Post} {f : Env} {L A : HL}
theorem Q.dgf {id:Nat}(mask:List Bool)(E cs σ:List Nat){L1:HL}[hq:NoPanic Q](h:drawS P n ops E cs A σ Q (Array.replicate ops.length false) true f L1)(hm:P.follows .mixedOrders=true:=by rfl)(hs:Region.noSelect ops.toArray=true:=by kernel_rfl)(hl:σ.length=ops.length:=by rfl)(ho:ordF (ops.map (fastO ops.toArray)) E cs σ 0=true:=by kernel_rfl)
  (hA:maskA mask L=A:=by repeat (first|apply mat|apply maf|exact man)) (hL:maskL mask L=L1:=by repeat (first|apply mlt|apply mlf|exact mln)):swp P n (.region id ops.toArray true) Q f L:=D.go mask E cs σ hm hs hl (ordF_ok σ _ 0 (RelM.zero _) ho) hq.no hA hL h
end
end Go.SX
namespace Go.Proofs.YtjlgabojhnnbaaaGreatDoor
open Go Go.SX
attribute [local irreducible] swp opsS thenS blockS retS CallsS St Ent YieldS anyS drawS
theorem wakeJ_len {j:JS}{k:Nat}(hj:JOW j k)(hk:k≤1000)(hp4:∀u∈j.parts,u.2.length≤4):(wakeJ j).length≤5000:=by
 have hpl4:∀t,((lkL j.parts t).getD []).length≤4:=λt=>by
  cases h:lkL j.parts t with
  |none=>exact Nat.zero_le _
  |some l=>exact hp4 _ (lk_memL h)
 have h1:(srtM j.v.its).length≤1000:=by
  have:=(srt_mem hj.w.k2).length_eq;have:=hj.w.wf.il;omega
 have h2:(wakeJ j).length≤(srtM j.v.its).length*5:=by
  unfold wakeJ;refine flatM_le λi _=> ?_
  have h3:=hpl4 i.1;have h4:=wkP_len j.v.dim i.1 ((lkL j.parts i.1).getD []);unfold wkQ;rw[List.length_cons];omega
 omega
theorem backW_spec (a:OA)(c l:Nat)(ms:List (Int×NV))(A:HL)(e:l=ms.length)(h:RdS A a ms.length 17 (ms.flatMap mcells))(hn:l≤1000000):
  CallsS Tryz.prog 46 [.slice a l c] A (λr L'=>∃a' c',r=.slice a' l c'∧L'=slO 183 17 a' l c' (ms.flatMap mcells)::A):=by
 subst e;exact back_spec a c ms A h zo
theorem SameMailW_spec (a:OA)(c l:Nat)(xs:List (Int×NV))(a':OA)(c':Nat)(A:HL)(e:l=xs.length)(h:RdMs A a xs)(h':RdMs A a' xs)(hn:l≤1000000):
  CallsS Tryz.prog 45 [.slice a l c,.slice a' l c'] A (λv L'=>v=.bool true∧L'=A):=by
 subst e;exact SameMail_spec a c xs a' c' xs A h h' zo rfl
set_option maxRecDepth 100000 in
theorem same_spec (M:OM)(o:EO)(p x:Nat)(j:JS)(k:Nat)(L:HL)(hk:k≤1000)(hj:JOW j k)(hx:JPX j)(hb:JPK j)(hT:(packV j).length≤10000000):
  CallsS Tryz.prog 10 [ptrJ p,.pointer (some ⟨x,0,none⟩),.agg o.cells.toArray] (jurH M p j::rjH x j::roM M::L) (λr L'=>r=.bool true∧∃M',leM M M'∧L'=jurH M' p j::rjH x j::roM M'::L):=by
 have hp4:=hb.parts;have hwl:=wakeJ_len hj hk hp4;have hw:=hj.w.wf;refine CallsS.of_body Tryz.func10 rfl rfl rfl ?_;refine Q.r ?_;(repeat (intro b1;refine Q.r ?_));revert b1;intro b5;refine S.cj p rfl (JPack_spec M p j k _ hj hk hb) ?_;rintro _ _ ⟨ya,yc,M1,rfl,hl1,rfl⟩;refine opsS_abs ya (λM2 hl2 hs2=> ?_);refine opsS_jm p hl2 ?_;refine Q.r ?_;refine S.c1 (A:=rjH x j) rfl (JRPack_spec x j k _ hk hj hx hT) ?_;rintro _ _ ⟨za,zc,rfl,rfl⟩;refine Q.r ?_;refine opsS_abs za (λM3 hl3 hs3=> ?_);refine opsS_jm p hl3 ?_;refine S.cr rfl (RSameB_spec ya za yc zc (packV j) (packV j) _ (hs2.mono hl3).rd hs3.rd) ?_;rintro _ _ ⟨rfl,rfl⟩;rw[decide_eq_true rfl];refine Q.r ?_;refine S.cj p rfl (JWake_spec M3 p j k _ hj hk hp4) ?_;rintro _ _ ⟨ma,mc,M4,rfl,hl4,rfl⟩;refine opsS_abs ma (λM5 hl5 hs5=> ?_);refine opsS_jm p hl5 ?_;refine Q.r ?_;refine S.cr rfl (backW_spec ma mc (wakeJ j).length ((wakeJ j).map nvm) _ (by rw[List.length_map]) (mail_rdS hs5) zo) ?_;rintro _ _ ⟨na,nc,rfl,rfl⟩;refine opsS_abs na (λM6 hl6 hs6=> ?_);refine opsS_jm p hl6 ?_;refine Q.r ?_;refine S.c1 (A:=rjH x j) rfl (JRWake_spec x j k _ hj hk hp4) ?_;rintro _ _ ⟨qa,qc,rfl,rfl⟩;refine opsS_abs qa (λM7 hl7 hs7=> ?_);refine opsS_jm p hl7 ?_;refine Q.r ?_;refine S.cr rfl (SameMailW_spec na nc (wakeJ j).length ((wakeJ j).map nvm) qa qc _ (by rw[List.length_map]) (mails_rd (hs6.mono hl7)) (mail_rd hs7) zo) ?_;rintro _ _ ⟨rfl,rfl⟩;have hle7:leM M M7:=hl1.trans (hl2.trans (hl3.trans (hl4.trans (hl5.trans (hl6.trans hl7)))));clear hs2 hs3 hs5 hs6 hs7;refine Q.r ?_;refine S.cjn p rfl (JDone_spec M7 p j o.n.txn _) ?_;rintro _ _ ⟨rfl,rfl⟩;have hdn:(lkL j.done o.n.txn).isSome=decide (0<(lkL j.done o.n.txn).getD 0):=by
  cases hz:lkL j.done o.n.txn with
  |none=>rfl
  |some s=>exact (decide_eq_true (hj.p _ _ hz)).symm
 rw[hdn];obtain ⟨dv,hdv⟩:∃dv,dv=(lkL j.done o.n.txn).getD 0:=⟨_,rfl⟩;rw[←hdv];refine Q.r ?_;refine S.cjn p rfl (JGet_spec M7 p j k o.id o.ask _ hw zo) ?_;rintro _ _ ⟨ga,gc,rfl,rfl⟩;have hgl:(getV j.v o.id o.ask).length≤1000000:=by
  have:=at_len hw o.id o.ask;unfold getV
  split
  ·simp
  ·omega
 rw[show decide (0<(getV j.v o.id o.ask).length)=decide ((0:Int)<((getV j.v o.id o.ask).length:Int)) from decide_eq_decide.2 zo];generalize hgv:getV j.v o.id o.ask=gv at*;refine opsS_abs ga (λM8 hl8 hs8=> ?_);refine opsS_jm p hl8 ?_;refine Q.r ?_;refine swp_rj x (λv sf Mj pa pc us da dc ds hq=> ?_);refine swp_ref v (λMr ra rc es ra2 rc2 is hok=> ?_);have hisl:is.length=j.v.its.length:=by have:=hok.its.length_eq;rw[List.length_map] at this;exact this
 have hesl:es.length=j.v.ch.length:=by have:=hok.ch.length_eq;rw[List.length_map] at this;exact this
 have hil:=hw.il;have hcl:=hw.cl;have hdl:=hj.dl;have hdsl:ds.length≤1000:=by have h1:=hq.dp.length_eq;omega
 have fin:∀L0 L1,Ent L1 (rjP x sf v pa us pc da ds dc::rP v j.v.dim ra es rc ra2 is rc2 j.v.mark::roM Mr::roM Mj::L0)→Ent L1 (rjH x j::L0):=λL0 L1 h=>Ent.trans h (Ent.trans (M:=rP v j.v.dim ra es rc ra2 is rc2 j.v.mark::roM Mr::rjP x sf v pa us pc da ds dc::roM Mj::L0) eG (Ent.trans (ref_shut hok) (Ent.trans (M:=rjP x sf v pa us pc da ds dc::refH v j.v::roM Mj::L0) eG (rj_shut hq))))
 refine swp_ent (L':=pt b5 (cl o.cells 39)::rjP x sf v pa us pc da ds dc::rP v j.v.dim ra es rc ra2 is rc2 j.v.mark::roM Mr::roM Mj::jurH M8 p j::roM M8::L) eG ?_;refine Q.dgo [true,true] [8] [] [0,1,2,3,4,5,6,7,8,9,10,11,12,13] ?_;refine Q.rd2 ?_;refine D.e rfl rfl rfl ?_;refine S.c2 (A:=rP v j.v.dim ra es rc ra2 is rc2 j.v.mark) (B:=roM Mr) rfl (RGet2_spec v j.v k Mr ra es rc ra2 is rc2 o.id o.ask _ hok hw zo) ?_;rintro _ _ ⟨⟨ga2,gc2,rfl,hs9⟩,rfl⟩;rw[hgv] at hs9 ⊢;refine Q.r ?_;refine Q.rd2 ?_;refine Q.r ?_;refine S.cjn p rfl (JScan_spec M8 p j k o.ask _ hw zo) ?_;rintro _ _ ⟨sa,sc,rfl,rfl⟩;refine Q.r ?_;refine swp_ent (L':=pt b5 (cl o.cells 39)::rjP x sf v pa us pc da ds dc::rP v j.v.dim ra es rc ra2 is rc2 j.v.mark::roM Mr::roM Mj::jurH M8 p j::roM M8::L) eG ?_;refine Q.dgo [true,true] [6] [] [0,1,2,3,4,5,6,7,8,9,10,11] ?_;refine Q.rd2 ?_;refine D.e rfl rfl rfl ?_;refine S.c2 (A:=rP v j.v.dim ra es rc ra2 is rc2 j.v.mark) (B:=roM Mr) rfl (RScan_spec v j.v k Mr ra es rc ra2 is rc2 o.ask _ hok hw zo) ?_;rintro _ _ ⟨ta,tc,tu,rfl,htu,-,-,rfl⟩;have htl:tu.length=(scanV j.v o.ask).length:=by rw[←htu,List.length_map]
 rw[htl];refine Q.r ?_;refine Q.rd2 ?_;refine Q.r ?_;have hfd:(lkL ds o.n.txn).getD 0=dv:=by rw[hdv,lkL_perm hq.kd hq.dp]
 have hFD:=FindD_spec x v sf pa us pc da ds dc o.n.txn Mj;rw[hfd] at hFD;refine swp_ent (L':=pt b5 (cl o.cells 39)::rjP x sf v pa us pc da ds dc::rP v j.v.dim ra es rc ra2 is rc2 j.v.mark::roM Mr::roM Mj::jurH M8 p j::roM M8::L) eG ?_;refine Q.dgf [true,true,true] [5,16,46,53,58,72,86,98,103] [] [0,1,2,3,4,5,6,7,8,9,10,11,12,13,14,15,16,17,18,19,20,21,22,23,24,25,26,27,28,29,30,31,32,33,34,35,36,37,38,39,40,41,42,43,44,45,47,48,49,50,51,52,46,53,54,55,56,57,60,61,62,63,64,65,66,67,58,59,68,69,70,71,74,75,76,77,78,79,80,81,72,73,82,83,84,85,87,88,89,90,91,92,93,86,94,95,96,97,99,100,101,102,98,103,104,105,106] ?_;refine Q.rd4 ?_;refine D.ea rfl rfl rfl ?_;refine S.c2 (A:=rjP x sf v pa us pc da ds dc) (B:=roM Mj) rfl (hFD _ hq.dS zo) ?_;rintro _ _ ⟨rfl,rfl⟩;clear hFD;refine opsS_nil ?_;refine N.tn ?_;refine D.back ?_;refine Q.rd4 ?_;refine Q.dT rfl rfl rfl ?_ (by simp);refine Q.rd4 ?_;refine D.e rfl rfl rfl ?_
 (refine GQ.g ?_;refine Q.gq ?_)
 refine S.cr rfl (SameVec_spec ga gc gv ga2 gc2 gv _ hs8.rd hs9.rd zo) ?_;rintro _ _ ⟨rfl,rfl⟩;rw[decide_eq_true rfl];refine Q.r ?_;refine Q.rd4 ?_;refine Q.dT rfl rfl rfl ?_ (by simp);refine Q.rd4 ?_;refine Q.dT rfl rfl rfl ?_ (by simp);refine Q.rd4 ?_;refine Q.dT rfl rfl rfl ?_ (by simp);refine Q.rd4 ?_;refine Q.dT rfl rfl rfl ?_ (by simp);refine Q.rd4 ?_;refine D.e rfl rfl rfl ?_
 (refine GQ.g ?_;refine Q.gq ?_)
 refine S.cjn p rfl (JBlocked_spec M8 p j k o.ask _ hw zo) ?_;rintro _ _ ⟨rfl,rfl⟩;refine Q.r ?_;refine Q.rd4 ?_;refine D.ea rfl rfl rfl ?_
 (refine GQ.g ?_;refine Q.gq ?_)
 refine S.c2 (A:=rP v j.v.dim ra es rc ra2 is rc2 j.v.mark) (B:=roM Mr) rfl (RBlocked_spec v j.v k Mr ra es rc ra2 is rc2 o.ask none 0 [] _ hok hw zo ⟨rfl,.inl rfl⟩ (by simp)) ?_;rintro _ _ ⟨rfl,rfl⟩;refine opsS_nil ?_;refine N.tn ?_;refine D.back ?_;refine Q.rd4 ?_;refine Q.dT rfl rfl rfl ?_ (by cases blockedV j.v o.ask []<;>simp);refine Q.rd4 ?_;refine D.e rfl rfl rfl ?_
 (refine GQ.g ?_;refine Q.gq ?_)
 refine S.c2 (A:=jurH M8 p j) (B:=roM M8) rfl (JIntents_spec M8 p j k _ hw zo) ?_;rintro _ _ ⟨ua,uc,uu,M9,rfl,hl9,-,-,hpu,rfl⟩;have huul:uu.length=j.v.its.length:=by have:=hpu.length_eq;rw[List.length_map] at this;exact this
 rw[huul,←hisl];refine Q.r ?_;refine Q.rd4 ?_;refine Q.dT rfl rfl rfl ?_ (by simp);refine Q.rd4 ?_;refine D.e rfl rfl rfl ?_
 (refine GQ.g ?_;refine Q.gq ?_)
 refine S.c2 (A:=jurH M9 p j) (B:=roM M9) rfl (JDump_spec M9 p j k _ hw zo) ?_;rintro _ _ ⟨va,vc,vv,M10,rfl,hl10,-,-,hpv,rfl⟩;have hvvl:vv.length=j.v.ch.length:=by have:=hpv.length_eq;rw[List.length_map] at this;exact this
 rw[hvvl,←hesl];refine Q.r ?_;refine Q.rd4 ?_;refine Q.dT rfl rfl rfl ?_ (by simp);refine Q.rd4 ?_;refine D.e rfl rfl rfl ?_
 (refine GQ.g ?_;refine Q.gq ?_)
 refine S.cjn p rfl (JMark_spec M10 p j _) ?_;rintro _ _ ⟨rfl,rfl⟩;refine Q.r ?_;refine Q.rd4 ?_;refine Q.dT rfl rfl rfl ?_ (by simp);refine Q.rd4 ?_;refine D.e rfl rfl rfl ?_
 (refine GQ.g ?_;refine Q.gq ?_)
 refine S.cjn p rfl (JLast_spec M10 p j k _ hw zo) ?_;rintro _ _ ⟨⟨m1,rfl,hm1⟩,rfl⟩;refine Q.r ?_;refine Q.rd4 ?_;refine D.ea rfl rfl rfl ?_
 (refine GQ.g ?_;refine Q.gq ?_)
 refine S.c2 (A:=rP v j.v.dim ra es rc ra2 is rc2 j.v.mark) (B:=roM Mr) rfl (RLast_spec v j.v k Mr ra es rc ra2 is rc2 _ hok hw zo) ?_;rintro _ _ ⟨⟨m2,rfl,k1,k2,k3⟩,rfl⟩;have hmm:m2=m1:=LastV.eq ⟨k1,k2,k3⟩ hm1;subst hmm;refine opsS_nil ?_;refine N.tn ?_;refine D.back ?_;refine Q.rd4 ?_;refine Q.r ?_;exact N.t rfl (Ent.trans (fin (jurH M10 p j::roM M10::L) _ eG) (Ent.perm (.swap _ _ _))) ⟨congrArg Value.bool (decide_eq_true rfl),M10,hle7.trans (hl8.trans (hl9.trans hl10)),rfl⟩
def hv :List UInt8→Nat
 | []=>0
 |b::l=>b.toNat % 128+128*hv l
theorem hv_snoc :∀(l:List UInt8) (b:UInt8),hv (l++[b])=hv l+b.toNat % 128*2^(7*l.length)
 | [],b=>by simp[hv]
 |x::l,b=>by
  have hp2:2^(7*(l.length+1))=128*2^(7*l.length):=by rw[Nat.mul_add,Nat.pow_add,Nat.mul_comm]
  show x.toNat % 128+128*hv (l++[b])=x.toNat % 128+128*hv l+b.toNat % 128*2^(7*(l.length+1))
  rw[hv_snoc l b,hp2,Nat.mul_add,Nat.mul_left_comm 128];omega
theorem hv_drop :∀(m:Nat) (l:List UInt8),hv (l.drop m)≤hv l
 |0,l=>by simp
 |m+1,[]=>by simp
 |m+1,b::l=>by
  rw[List.drop_succ_cons];have:=hv_drop m l
  show _≤b.toNat % 128+128*hv l
  omega
set_option maxRecDepth 100000 in
theorem RTake_spec (a:OA)(c:Nat)(bs:List UInt8)(most:Nat)(L:HL)(h:RdS L a bs.length 1 (bs.map B))(hb:bs.length≤1000000000000):
  CallsS Tryz.prog 117 [.slice a bs.length c,.int .u64 most] L (λv L'=>v=.tuple #[.int .u64 (takeF bs most).1,restV a c bs (takeF bs most),.int .i64 (takeF bs most).2.2]∧L'=L):=by
 have hat:=RdS.atA h;have hrs:RdS L a bs.length 1 (bs.flatMap cB):=by rw[flat_B];exact h
 unfold takeF;refine CallsS.of_body Tryz.func117 rfl rfl rfl ?_;refine Q.r ?_;refine swp_loop (σ:=Nat) (λi=> [(0,.slice a bs.length c),(1,.int .u64 most),(7,.int .i64 (i+1:Nat))]) (λ_=>L)
  (λi=>i≤bs.length∧i≤9∧hv (bs.take i)<2^(7*i)∧peekF (bs.drop i) i (hv (bs.take i))=peekF bs 0 0) (λi=>bs.length - i) 0 zt (Ent.refl _) ⟨Nat.zero_le _,Nat.zero_le _,by simp[hv],rfl⟩ ?_
 rintro i ⟨hi,h9,hn,hp⟩
 by_cases hlt:i<bs.length
 ·obtain ⟨x,hx⟩:=mem_get hlt
  have hd:bs.drop i=x::bs.drop (i+1):=by
   rw[List.drop_eq_getElem_cons hlt]
   congr 1
   exact (List.getElem?_eq_some_iff.1 hx).2
  have htk:hv (bs.take (i+1))=hv (bs.take i)+x.toNat % 128*2^(7*i):=by
   rw[take_snoc hx,hv_snoc,List.length_take,Nat.min_eq_left hi]
  rw[hd,peekF_cons,←htk] at hp;have hx8:x.toNat<256:=x.toNat_lt;obtain ⟨b,o,hia,hr⟩:=RdS.elem (g:=cB) (λ_=>rfl) hrs hx rfl;have hgo:∀{R:Prop},(i=9→1<x.toNat→R)→(i=9→x.toNat≤1→x.toNat<128→R)→(i≠9→128≤x.toNat→R)→(i≠9→x.toNat<128→R)→R:=λh1 h2 h3 h4=>by
   by_cases e:i=9
   ·by_cases e2:1<x.toNat
    ·exact h1 e e2
    ·exact h2 e zo zo
   ·by_cases e2:128≤x.toNat
    ·exact h3 e e2
    ·exact h4 e zo
  have hm9:(i=9→x.toNat % 128≤1)→hv (bs.take (i+1))<18446744073709551616:=λe=>by
   rw[htk];exact (acc_or (b:=x.toNat % 128) hn h9 zo e).1
  have hm2:hv (bs.take (i+1))<2^(7*(i+1)):=by
   rw[htk];exact acc_lt (b:=x.toNat % 128) hn zo
  have hle:∀(m:Nat),hv ((bs.take (i+1)).drop m)≤hv (bs.take (i+1)):=λm=>hv_drop m _
  have hcn:∀(m:Nat),m≤i→∃y,bs[m]? =some y∧(bs.take (i+1)).drop m=y::(bs.take (i+1)).drop (m+1):=λm hm=>by
   have h1:m<(bs.take (i+1)).length:=by rw[List.length_take];omega
   refine ⟨(bs.take (i+1))[m],?_,List.drop_eq_getElem_cons h1⟩;have h2:=List.getElem?_eq_getElem h1;rw[List.getElem?_take,if_pos zo] at h2;exact h2
  have hi9:((i+1:Nat):Int) - 1=(i:Int):=by omega
  rw[hia]
  by_cases c9:i=9∧1<x.toNat
  ·obtain ⟨c91,c92⟩:=c9
   rw[if_pos ⟨c91,c92⟩] at hp;rw[←hp];subst c91;refine Q.r ?_;exact N.r3 (RV.tmp rfl (RV.tmp rfl (RV.tmp rfl RV.nil))) (Ent.refl _) ⟨rfl,rfl⟩
  rw[if_neg c9] at hp
  by_cases c8:128≤x.toNat
  ·have c91:¬i=9:=by omega
   rw[if_neg zo] at hp;refine Q.r ?_;rw[hi9];refine Q.r ?_;exact ⟨i+1,zt,Ent.refl _,⟨by omega,by omega,hm2,hp⟩,by omega⟩
  have c7:x.toNat<128:=by omega
  rw[if_pos c7] at hp;have hm:=hm9 λ_=>by omega
  have hgo:∀{R:Prop},(i=9→R)→(i≠9→R)→R:=λh1 h2=>by
   by_cases e:i=9
   ·exact h1 e
   ·exact h2 e
  have hgk:∀{R:Prop},(0<i→R)→(i=0→R)→R:=λh1 h2=>by
   by_cases e:i=0
   ·exact h2 e
   ·exact h1 zo
  have h9r:i=9→RdC L b (o+9*1) [B x]:=λe=>by have:=hr;rw[e] at this;exact this
  refine hgo (λc91=> ?_) (λc91=> ?_)
  ·have hr9:=h9r c91
   have c6:x.toNat≤1:=by omega
   have h9l:9<bs.length:=by omega
   refine Q.r ?_;rw[hi9];refine Q.r ?_;rw[hi9];refine swp_cutB (σ:=Unit) (λ_=> [(0,.slice (some ⟨b,o,none⟩) bs.length c),(1,.int .u64 most),(7,.int .i64 (i+1:Nat)),(8,.int .u64 (hv (bs.take (i+1))))]) (λ_=>L) (λ_=>True) ?_ ?_
   ·refine swp_loop (σ:=Nat) (λm=> [(0,.slice (some ⟨b,o,none⟩) bs.length c),(1,.int .u64 most),(7,.int .i64 (i+1:Nat)),(8,.int .u64 (hv ((bs.take (i+1)).drop m))),(9,.int .i64 ((m:Int) - 1))]) (λ_=>L)
     (λm=>m≤i+1) (λm=>m) (i+1) ⟨rfl,rfl,rfl,congrArg some (congrArg (Value.int .u64) (by rw[List.drop_eq_nil_of_le (by rw[List.length_take];omega)];rfl)),congrArg some (congrArg (Value.int .i64) zo),trivial⟩ (Ent.refl _) (Nat.le_refl _) ?_
    intro m hmi
    cases m with
    |zero=>
     refine Q.r ?_;exact ⟨(),zt,Ent.refl _,trivial⟩
    |succ m=>
     have hm1:((m+1:Nat):Int) - 1=(m:Int):=by omega
     obtain ⟨y,hy,hdr⟩:=hcn m zo;obtain ⟨b',o',hia',hry⟩:=RdS.elem (g:=cB) (λ_=>rfl) hrs hy rfl;rw[hia] at hia';obtain ⟨rfl,rfl⟩:b=b'∧o=o':=by
      injection hia' with e
      injection e with e1 e2
      exact ⟨e1,e2⟩
     clear hia';have hl:=hle m;have hl2:=hle (m+1);rw[hdr] at hl;have hv1:hv (y::(bs.take (i+1)).drop (m+1))=y.toNat % 128+128*hv ((bs.take (i+1)).drop (m+1)):=rfl;rw[hv1] at hl;have hy8:y.toNat<256:=y.toNat_lt;rw[hm1];refine Q.r ?_;refine S.y (Y.mul rfl rfl) ?_;rw[wrap_u64 zo zo];refine Q.r ?_;refine S.y (Y.rem rfl rfl zd) ?_;rw[Int.tmod_eq_emod_of_nonneg zo];refine Q.r ?_;refine S.y (Y.cvi rfl) ?_;rw[wrap_u64 zo zo];refine Q.r ?_;refine S.y (Y.add rfl rfl) ?_;rw[wrap_u64 zo zo];refine Q.r ?_;exact ⟨m,⟨rfl,rfl,rfl,congrArg some (congrArg (Value.int .u64) (by rw[hdr,hv1];push_cast;omega)),rfl,trivial⟩,Ent.refl _,by omega,by omega⟩
   rintro _ _;refine hgk (λck=> ?_) (λck=> ?_)
   ·refine Q.r ?_
    rw[hi9];refine Q.r ?_
    by_cases c0:x.toNat=0
    ·rw[if_pos ⟨c0,ck⟩] at hp
     rw[←hp];refine Q.r ?_;exact N.r3 (RV.tmp rfl (RV.tmp rfl (RV.tmp rfl RV.nil))) (Ent.refl _) ⟨rfl,rfl⟩
    ·rw[if_neg (λh=>c0 h.1)] at hp
     rw[←hp];dsimp only
     by_cases cm:most<hv (bs.take (i+1))
     ·rw[if_neg zd,if_pos cm]
      refine Q.r ?_;exact N.r3 (RV.tmp rfl (RV.tmp rfl (RV.tmp rfl RV.nil))) (Ent.refl _) ⟨rfl,rfl⟩
     ·rw[if_neg zd,if_neg cm]
      refine Q.r ?_;refine Q.dgo [] [] [] [0,1,2,3,4,5,6] ?_;refine Q.rd ?_;refine D.y rfl rfl rfl zk (Y.slFa rfl rfl rfl zo (.inr ⟨b,o,rfl⟩)) ?_;refine Q.rd ?_;refine Q.r ?_;exact N.r3 (RV.tmp rfl (RV.tmp rfl (RV.tmp rfl RV.nil))) (Ent.refl _) ⟨rfl,rfl⟩
   ·exact absurd ck zo
  ·refine Q.r ?_
   rw[hi9];refine Q.r ?_;rw[hi9];refine swp_cutB (σ:=Unit) (λ_=> [(0,.slice (some ⟨b,o,none⟩) bs.length c),(1,.int .u64 most),(7,.int .i64 (i+1:Nat)),(8,.int .u64 (hv (bs.take (i+1))))]) (λ_=>L) (λ_=>True) ?_ ?_
   ·refine swp_loop (σ:=Nat) (λm=> [(0,.slice (some ⟨b,o,none⟩) bs.length c),(1,.int .u64 most),(7,.int .i64 (i+1:Nat)),(8,.int .u64 (hv ((bs.take (i+1)).drop m))),(9,.int .i64 ((m:Int) - 1))]) (λ_=>L)
     (λm=>m≤i+1) (λm=>m) (i+1) ⟨rfl,rfl,rfl,congrArg some (congrArg (Value.int .u64) (by rw[List.drop_eq_nil_of_le (by rw[List.length_take];omega)];rfl)),congrArg some (congrArg (Value.int .i64) zo),trivial⟩ (Ent.refl _) (Nat.le_refl _) ?_
    intro m hmi
    cases m with
    |zero=>
     refine Q.r ?_;exact ⟨(),zt,Ent.refl _,trivial⟩
    |succ m=>
     have hm1:((m+1:Nat):Int) - 1=(m:Int):=by omega
     obtain ⟨y,hy,hdr⟩:=hcn m zo;obtain ⟨b',o',hia',hry⟩:=RdS.elem (g:=cB) (λ_=>rfl) hrs hy rfl;rw[hia] at hia';obtain ⟨rfl,rfl⟩:b=b'∧o=o':=by
      injection hia' with e
      injection e with e1 e2
      exact ⟨e1,e2⟩
     clear hia';have hl:=hle m;have hl2:=hle (m+1);rw[hdr] at hl;have hv1:hv (y::(bs.take (i+1)).drop (m+1))=y.toNat % 128+128*hv ((bs.take (i+1)).drop (m+1)):=rfl;rw[hv1] at hl;have hy8:y.toNat<256:=y.toNat_lt;rw[hm1];refine Q.r ?_;refine S.y (Y.mul rfl rfl) ?_;rw[wrap_u64 zo zo];refine Q.r ?_;refine S.y (Y.rem rfl rfl zd) ?_;rw[Int.tmod_eq_emod_of_nonneg zo];refine Q.r ?_;refine S.y (Y.cvi rfl) ?_;rw[wrap_u64 zo zo];refine Q.r ?_;refine S.y (Y.add rfl rfl) ?_;rw[wrap_u64 zo zo];refine Q.r ?_;exact ⟨m,⟨rfl,rfl,rfl,congrArg some (congrArg (Value.int .u64) (by rw[hdr,hv1];push_cast;omega)),rfl,trivial⟩,Ent.refl _,by omega,by omega⟩
   rintro _ _;refine hgk (λck=> ?_) (λck=> ?_)
   ·refine Q.r ?_
    rw[hi9];refine Q.r ?_
    by_cases c0:x.toNat=0
    ·rw[if_pos ⟨c0,ck⟩] at hp
     rw[←hp];refine Q.r ?_;exact N.r3 (RV.tmp rfl (RV.tmp rfl (RV.tmp rfl RV.nil))) (Ent.refl _) ⟨rfl,rfl⟩
    ·rw[if_neg (λh=>c0 h.1)] at hp
     rw[←hp];dsimp only
     by_cases cm:most<hv (bs.take (i+1))
     ·rw[if_neg zd,if_pos cm]
      refine Q.r ?_;exact N.r3 (RV.tmp rfl (RV.tmp rfl (RV.tmp rfl RV.nil))) (Ent.refl _) ⟨rfl,rfl⟩
     ·rw[if_neg zd,if_neg cm]
      refine Q.r ?_;refine Q.dgo [] [] [] [0,1,2,3,4,5,6] ?_;refine Q.rd ?_;refine D.y rfl rfl rfl zk (Y.slFa rfl rfl rfl zo (.inr ⟨b,o,rfl⟩)) ?_;refine Q.rd ?_;refine Q.r ?_;exact N.r3 (RV.tmp rfl (RV.tmp rfl (RV.tmp rfl RV.nil))) (Ent.refl _) ⟨rfl,rfl⟩
   ·rw[if_neg (λh=>by omega)] at hp
    rw[←hp];dsimp only
    by_cases cm:most<hv (bs.take (i+1))
    ·rw[if_neg zd,if_pos cm]
     refine Q.r ?_;exact N.r3 (RV.tmp rfl (RV.tmp rfl (RV.tmp rfl RV.nil))) (Ent.refl _) ⟨rfl,rfl⟩
    ·rw[if_neg zd,if_neg cm]
     refine Q.r ?_;refine Q.dgo [] [] [] [0,1,2,3,4,5,6] ?_;refine Q.rd ?_;refine D.y rfl rfl rfl zk (Y.slFa rfl rfl rfl zo (.inr ⟨b,o,rfl⟩)) ?_;refine Q.rd ?_;refine Q.r ?_;exact N.r3 (RV.tmp rfl (RV.tmp rfl (RV.tmp rfl RV.nil))) (Ent.refl _) ⟨rfl,rfl⟩
 ·have hke:i=bs.length:=by omega
  subst hke;rw[List.drop_length] at hp;rw[←hp];refine Q.r ?_;exact N.r3 (RV.tmp rfl (RV.tmp rfl (RV.tmp rfl RV.nil))) (Ent.refl _) ⟨rfl,rfl⟩
end Go.Proofs.YtjlgabojhnnbaaaGreatDoor
namespace Go.SX
open Go
section
variable {P : Program} {n : Nat} {ops rest : List Oper} {Q : Post} {f : Env} {A L : HL} {d : Tmp} {ty : TypeId} {pos : String} {af : Array Edge}
theorem Y.neg {x:Operand}{t:TypeId}{k:IntKind}{a:Int}(hx:ev f x=some (.int k a)):YieldS P n ops ⟨some d,.unOp .neg t x,ty,pos,af,none⟩ f A (.int k (k.wrap (-a))):=Y.of (λ_ w s=>by simp[execOp,s.eval hx,Op.unary,Op.intArith])
end
end Go.SX
namespace Go.Proofs.YtjlgabojhnnbaaaGreatDoor
open Go Go.SX
attribute [local irreducible] swp opsS thenS blockS retS CallsS St Ent YieldS anyS drawS
def vvI (u:Int):Int:=IntKind.i32.wrap (((BitVec.ofInt IntKind.i32.bits (IntKind.i32.wrap ((IntKind.u32.wrap u).fdiv (2^1))))^^^(BitVec.ofInt IntKind.i32.bits (IntKind.i32.wrap (-(IntKind.i32.wrap (IntKind.u64.wrap (((BitVec.ofInt IntKind.u64.bits u)&&&(BitVec.ofInt IntKind.u64.bits 1)).toNat:Int))))))).toNat:Int)
theorem and1 {u:Nat}(h:u≤4294967295):IntKind.u64.wrap (((BitVec.ofInt IntKind.u64.bits (u:Int))&&&(BitVec.ofInt IntKind.u64.bits 1)).toNat:Int)=((u % 2:Nat):Int):=by
 have e:((BitVec.ofInt IntKind.u64.bits (u:Int))&&&(BitVec.ofInt IntKind.u64.bits 1)).toNat=u % 2:=by
  show ((BitVec.ofInt 64 (u:Int))&&&(BitVec.ofInt 64 1)).toNat=u % 2
  rw[BitVec.toNat_and,show (BitVec.ofInt 64 (u:Int)).toNat=u by simp;omega,show (BitVec.ofInt 64 1).toNat=1 by decide,Nat.and_one_is_mod]
 rw[e,wrap_u64 zo zo]
theorem vv_eq {u:Nat}(h:u≤4294967295):vvI u=zzD u:=by
 unfold vvI;have e1:IntKind.i32.wrap ((IntKind.u32.wrap (u:Int)).fdiv (2^1))=((u / 2:Nat):Int):=by
  rw[wrap_u32 zo zo,Int.fdiv_eq_ediv_of_nonneg _ zd,wrap_i32 zo zo];omega
 have hx:(0:Int)≤((u / 2:Nat):Int)∧((u / 2:Nat):Int)<4294967296:=by omega
 rw[e1,and1 h];unfold zzD
 by_cases h2:u % 2=1
 ·rw[if_pos h2,h2,wrap_i32 (a:=((1:Nat):Int)) zd zd,wrap_i32 (a:= -((1:Nat):Int)) zd zd]
  have e2:((BitVec.ofInt IntKind.i32.bits ((u / 2:Nat):Int))^^^(BitVec.ofInt IntKind.i32.bits (-((1:Nat):Int)))).toNat=4294967295 - u / 2:=by
   show ((BitVec.ofInt 32 ((u / 2:Nat):Int))^^^(BitVec.ofInt 32 (-1))).toNat=_
   rw[show BitVec.ofInt 32 (-1)=BitVec.allOnes 32 by decide,BitVec.xor_allOnes,BitVec.toNat_not,ofInt32 hx];omega
  rw[e2];have e3:IntKind.i32.wrap ((4294967295 - u / 2:Nat):Int)=((4294967295 - u / 2:Nat):Int) - 4294967296:=by
   have:IntKind.i32.wrap ((4294967295 - u / 2:Nat):Int)=if 2147483648≤((4294967295 - u / 2:Nat):Int) % 4294967296 then ((4294967295 - u / 2:Nat):Int) % 4294967296 - 4294967296 else ((4294967295 - u / 2:Nat):Int) % 4294967296:=by simp[IntKind.wrap,IntKind.bits,IntKind.signed]
   rw[this,if_pos zo];omega
  rw[e3];omega
 ·have h0:u % 2=0:=by omega
  rw[if_neg h2,h0,wrap_i32 (a:=((0:Nat):Int)) zd zd,wrap_i32 (a:= -((0:Nat):Int)) zd zd];have e2:((BitVec.ofInt IntKind.i32.bits ((u / 2:Nat):Int))^^^(BitVec.ofInt IntKind.i32.bits (-((0:Nat):Int)))).toNat=u / 2:=by
   show ((BitVec.ofInt 32 ((u / 2:Nat):Int))^^^(BitVec.ofInt 32 0)).toNat=_
   rw[show BitVec.ofInt 32 0=0#32 by decide,BitVec.xor_zero,ofInt32 hx];omega
  rw[e2,wrap_i32 zo zo]
theorem vecD_err {s:RS}{q:Int}(hd:s.bad=0)(h1:(takeF s.bs 8).2.2=0)(h2:(vgo (takeF s.bs 8).1 (s.bs.drop (takeF s.bs 8).2.1) []).2.2=q)(hq:q≠0):vecD 8 s=([],{s with bad:=q}):=by
 unfold vecD;rw[if_neg zo,if_neg zo];dsimp only;rw[h2,if_pos hq]
set_option maxRecDepth 100000 in
theorem rVec_spec (r:Nat)(a:OA)(c:Nat)(s:RS)(M:OM)(L:HL)[hM:HasM M L](h:RK M a c s):
  CallsS Tryz.prog 95 [.pointer (some ⟨r,0,none⟩),.int .i64 8] (rdS r a c s::L)
   (λv L'=>∃va vc a' c',v=.slice va (vecD 8 s).1.length vc∧RK M a' c' (vecD 8 s).2∧L'=slO 21 1 va (vecD 8 s).1.length vc ((vecD 8 s).1.map I32)::rdS r a' c' (vecD 8 s).2::L):=by
 refine CallsS.of_body Tryz.func95 rfl rfl rfl ?_;refine Q.r ?_;refine S.cr rfl (dead_spec r a s.bs.length c s.bad L) ?_;rintro _ _ ⟨rfl,rfl⟩
 by_cases hd:s.bad=0
 ·refine Q.r ?_
  refine S.y (Y.cvi rfl) ?_;rw[show IntKind.u64.wrap (max 8 0)=((8:Nat):Int) by decide];refine S.cr rfl (take_spec a c s.bs 8 (rdS r a c s::L) (h.sl.rd (hm:=HasM.there)) (by have:=h.b;omega)) ?_;rintro _ _ ⟨rfl,rfl⟩;have hsz:=takeF_size s.bs 8
  by_cases h1:(takeF s.bs 8).2.2=0
  ·have hn8:=(takeF_inv h1).2
   have hgo:∀q,(vgo (takeF s.bs 8).1 (s.bs.drop (takeF s.bs 8).2.1) []).2.2=q→q≠0→vecD 8 s=([],{s with bad:=q}):=λq h2 hq=>vecD_err hd h1 h2 hq
   have hok:∀v b,vgo (takeF s.bs 8).1 (s.bs.drop (takeF s.bs 8).2.1) []=(v,b,0)→vecD 8 s=(v,⟨b,0,s.good⟩):=λv b h2=>by
    unfold vecD;rw[if_neg zo,if_neg zo];dsimp only;rw[h2,if_neg (by simp)]
   have hs0:=h.sl.fromA (l:=(takeF s.bs 8).2.1) hsz h.c;rw[Nat.mul_one,←List.map_drop] at hs0;unfold restV;rw[h1,if_neg zd];generalize (takeF s.bs 8).1=n0 at*;generalize (takeF s.bs 8).2.1=z0 at*;obtain ⟨b0,hb0⟩:∃b0,b0=s.bs.drop z0:=⟨_,rfl⟩;have hb0l:b0.length=s.bs.length - z0:=by rw[hb0,List.length_drop]
   rw[←hb0] at hgo hok hs0;rw[←hb0l] at hs0 ⊢;have hc0:b0.length≤c - z0:=by have:=h.c;omega
   have hbl:b0.length≤10000000:=by have:=h.b;omega
   refine Q.r ?_;refine swp_cutB (σ:=Int×List Int×List UInt8×OA×Nat×OA×Nat) (λw=> [(0,.pointer (some ⟨r,0,none⟩)),(6,.slice w.2.2.2.1 w.2.2.1.length w.2.2.2.2.1),(7,.int .i64 w.1),(8,.slice w.2.2.2.2.2.1 w.2.1.length w.2.2.2.2.2.2)])
    (λw=>slO 21 1 w.2.2.2.2.2.1 w.2.1.length w.2.2.2.2.2.2 (w.2.1.map I32)::rdS r a c s::L)
    (λw=>(w.1=0∧SlM M w.2.2.2.1 w.2.2.1.length 1 (w.2.2.1.map B)∧w.2.2.1.length≤w.2.2.2.2.1∧w.2.2.1.length≤10000000∧vgo n0 b0 []=(w.2.1,w.2.2.1,0))∨(w.1≠0∧(vgo n0 b0 []).2.2=w.1)) ?_ ?_
   ·refine swp_loop (σ:=Nat×Int×List Int×List UInt8×OA×Nat×OA×Nat) (λw=> [(0,.pointer (some ⟨r,0,none⟩)),(5,.int .u64 n0),(6,.slice w.2.2.2.2.1 w.2.2.2.1.length w.2.2.2.2.2.1),(7,.int .i64 w.2.1),(8,.slice w.2.2.2.2.2.2.1 w.2.2.1.length w.2.2.2.2.2.2.2),(9,.int .u64 w.1)])
     (λw=>slO 21 1 w.2.2.2.2.2.2.1 w.2.2.1.length w.2.2.2.2.2.2.2 (w.2.2.1.map I32)::rdS r a c s::L)
     (λw=>w.1≤n0∧w.2.2.1.length≤10∧((w.2.1=0∧w.2.2.1.length=w.1∧SlM M w.2.2.2.2.1 w.2.2.2.1.length 1 (w.2.2.2.1.map B)∧w.2.2.2.1.length≤w.2.2.2.2.2.1∧w.2.2.2.1.length≤10000000∧vgo (n0 - w.1) w.2.2.2.1 w.2.2.1=vgo n0 b0 [])∨(w.2.1≠0∧(vgo n0 b0 []).2.2=w.2.1)))
     (λw=>n0 - w.1) (0,0,[],b0,subA a c z0 1,c - z0,none,0) zt eG ⟨Nat.zero_le _,Nat.zero_le _,.inl ⟨rfl,rfl,hs0,hc0,hbl,rfl⟩⟩ ?_
    rintro ⟨i,e,acc,bs',a',c',oa,oc⟩ ⟨hi,hal,hcase⟩;dsimp only at hi hal hcase ⊢
    rcases hcase with ⟨rfl,hai,hs',hc',hb',hv⟩|⟨he,hv⟩
    ·by_cases hlt:i<n0
     ·have hz:=takeF_size bs' 18446744073709551615
      have hT:=take_spec a' c' bs' 18446744073709551615 (slO 21 1 oa acc.length oc (acc.map I32)::rdS r a c s::L) (hs'.rd (hm:=HasM.there (h:=HasM.there))) zo;rw[show n0 - i=(n0 - (i+1))+1 by omega,vgo_succ] at hv;have hs2:=hs'.fromA (l:=(takeF bs' 18446744073709551615).2.1) hz hc';rw[Nat.mul_one,←List.map_drop] at hs2;refine Q.r ?_;refine S.cr rfl hT ?_;rintro _ _ ⟨rfl,rfl⟩;clear hT;unfold restV;generalize (takeF bs' 18446744073709551615).1=u at*;generalize (takeF bs' 18446744073709551615).2.1=z at*;generalize (takeF bs' 18446744073709551615).2.2=q at*;have hdl:(bs'.drop z).length=bs'.length - z:=List.length_drop
      by_cases h2:q=0
      ·subst h2
       rw[if_neg zo] at hv;rw[if_neg zo,←hdl];rw[←hdl] at hs2
       by_cases h3:4294967295<u
       ·rw[if_pos h3] at hv
        refine Q.r ?_;refine S.y (Y.cvi rfl) ?_;refine S.y (Y.shrI (b:=1) rfl rfl zd) ?_;refine S.y (Y.cvi rfl) ?_;refine Q.r ?_;refine S.y (Y.and rfl rfl) ?_;refine S.y (Y.cvi rfl) ?_;refine S.y (Y.neg rfl) ?_;refine S.y (Ycast (v':=I32 (vvI (u:Int))) (Y.xor rfl rfl) rfl) ?_;refine Q.r ?_;(repeat (intro b1;refine Q.r ?_));refine S.app rfl rfl (SrcS.sl RdC.row zr zr) zr zo zo (λoa2 oc2=> ?_);refine Q.r ?_;refine S.y (Y.add rfl rfl) ?_;rw[show IntKind.u64.wrap ((i:Int)+1)=(i:Int)+1 from wrap_u64 zo zo];refine Q.r ?_;refine ⟨(i+1,4,acc++[vvI (u:Int)],bs'.drop z,subA a' c' z 1,c' - z,oa2,oc2),⟨rfl,rfl,rfl,rfl,congrArg some (by simp[List.filter_append]),congrArg some (by simp[List.filter_append]),trivial⟩,?_,⟨hlt,by dsimp only;rw[len_snoc];omega,(.inr ⟨show (4:Int)≠0 by decide,by rw[←hv]⟩)⟩,Nat.sub_succ_lt_self n0 i hlt⟩;dsimp only;rw[len_snoc,List.map_append,List.map_cons,List.map_nil];exact eG
       ·rw[if_neg h3,←vv_eq zo] at hv
        refine Q.r ?_;refine S.y (Y.cvi rfl) ?_;refine S.y (Y.shrI (b:=1) rfl rfl zd) ?_;refine S.y (Y.cvi rfl) ?_;refine Q.r ?_;refine S.y (Y.and rfl rfl) ?_;refine S.y (Y.cvi rfl) ?_;refine S.y (Y.neg rfl) ?_;refine S.y (Ycast (v':=I32 (vvI (u:Int))) (Y.xor rfl rfl) rfl) ?_;refine Q.r ?_;(repeat (intro b1;refine Q.r ?_));refine S.app rfl rfl (SrcS.sl RdC.row zr zr) zr zo zo (λoa2 oc2=> ?_);refine Q.r ?_;refine S.y (Y.add rfl rfl) ?_;rw[show IntKind.u64.wrap ((i:Int)+1)=(i:Int)+1 from wrap_u64 zo zo];refine Q.r ?_;refine ⟨(i+1,0,acc++[vvI (u:Int)],bs'.drop z,subA a' c' z 1,c' - z,oa2,oc2),⟨rfl,rfl,rfl,rfl,congrArg some (by simp[List.filter_append]),congrArg some (by simp[List.filter_append]),trivial⟩,?_,⟨hlt,by dsimp only;rw[len_snoc];omega,(.inl ⟨rfl,by dsimp only;rw[len_snoc,hai],hs2,by dsimp only;omega,by dsimp only;omega,hv⟩)⟩,Nat.sub_succ_lt_self n0 i hlt⟩;dsimp only;rw[len_snoc,List.map_append,List.map_cons,List.map_nil];exact eG
      ·rw[if_pos h2] at hv
       rw[if_pos h2];refine Q.r ?_;refine S.y (Y.cvi rfl) ?_;refine S.y (Y.shrI (b:=1) rfl rfl zd) ?_;refine S.y (Y.cvi rfl) ?_;refine Q.r ?_;refine S.y (Y.and rfl rfl) ?_;refine S.y (Y.cvi rfl) ?_;refine S.y (Y.neg rfl) ?_;refine S.y (Ycast (v':=I32 (vvI (u:Int))) (Y.xor rfl rfl) rfl) ?_;refine Q.r ?_;(repeat (intro b1;refine Q.r ?_));refine S.app rfl rfl (SrcS.sl RdC.row zr zr) zr zo zo (λoa2 oc2=> ?_);refine Q.r ?_;refine S.y (Y.add rfl rfl) ?_;rw[show IntKind.u64.wrap ((i:Int)+1)=(i:Int)+1 from wrap_u64 zo zo];refine Q.r ?_;refine ⟨(i+1,q,acc++[vvI (u:Int)],[],none,0,oa2,oc2),⟨rfl,rfl,rfl,rfl,congrArg some (by simp[List.filter_append]),congrArg some (by simp[List.filter_append]),trivial⟩,?_,⟨hlt,by dsimp only;rw[len_snoc];omega,(.inr ⟨h2,by rw[←hv]⟩)⟩,Nat.sub_succ_lt_self n0 i hlt⟩;dsimp only;rw[len_snoc,List.map_append,List.map_cons,List.map_nil];exact eG
     ·have hin:i=n0:=by omega
      subst hin;rw[Nat.sub_self] at hv;refine Q.r ?_;exact ⟨(0,acc,bs',a',c',oa,oc),zt,Ent.refl _,.inl ⟨rfl,hs',hc',hb',hv.symm⟩⟩
    ·refine Q.r ?_
     exact ⟨(e,acc,bs',a',c',oa,oc),zt,Ent.refl _,.inr ⟨he,hv⟩⟩
   rintro ⟨e,acc,bs',a',c',oa,oc⟩ hcase;dsimp only at hcase ⊢
   rcases hcase with ⟨rfl,hs',hc',hb',hv⟩|⟨he,hv⟩
   ·rw[hok _ _ hv]
    refine Q.r ?_;refine S.c1 (A:=rdS r a c s) rfl (rstep_spec r a a' s.bs.length c bs'.length c' s.bad 0 _) ?_;rintro _ _ ⟨rfl,rfl⟩;rw[if_pos rfl,hd];refine Q.r ?_;refine N.t rfl ?_ ⟨oa,oc,a',c',rfl,⟨hs',hc',hb'⟩,rfl⟩;exact eG
   ·rw[hgo _ hv he]
    refine Q.r ?_;refine S.c1 (A:=rdS r a c s) rfl (rstep_spec r a a' s.bs.length c bs'.length c' s.bad e _) ?_;rintro _ _ ⟨rfl,rfl⟩;rw[if_neg he,hd,if_pos rfl];refine Q.r ?_;refine N.t rfl ?_ ⟨none,0,a,c,rfl,⟨h.sl,h.c,h.b⟩,rfl⟩;exact eG
  ·have e1:vecD 8 s=([],{s with bad:=(takeF s.bs 8).2.2}):=by
    unfold vecD;rw[if_neg zo,if_pos h1]
   rw[e1];unfold restV;rw[if_pos h1];generalize (takeF s.bs 8).2.2=e at*;refine Q.r ?_;refine swp_cutB (σ:=Unit) (λ_=> [(0,.pointer (some ⟨r,0,none⟩)),(6,.slice none 0 0),(7,.int .i64 e),(8,.slice none 0 0)]) (λ_=>rdS r a c s::L) (λ_=>True) ?_ ?_
   ·refine swp_loop (σ:=Unit) (λ_=> [(0,.pointer (some ⟨r,0,none⟩)),(6,.slice none 0 0),(7,.int .i64 e),(8,.slice none 0 0)]) (λ_=>rdS r a c s::L) (λ_=>True) (λ_=>0) () zt (Ent.refl _) trivial ?_
    rintro _ _;refine Q.r ?_;exact ⟨(),zt,Ent.refl _,trivial⟩
   rintro _ _;refine Q.r ?_;refine S.c1 (A:=rdS r a c s) rfl (rstep_spec r a none s.bs.length c 0 0 s.bad e _) ?_;rintro _ _ ⟨rfl,rfl⟩;rw[if_neg h1,hd,if_pos rfl];refine Q.r ?_;refine N.t rfl ?_ ⟨none,0,a,c,rfl,⟨h.sl,h.c,h.b⟩,rfl⟩;exact eG
 ·have e1:vecD 8 s=([],s):=by unfold vecD;rw[if_pos hd]
  rw[e1];refine Q.r ?_;refine N.t rfl ?_ ⟨none,0,a,c,rfl,h,rfl⟩;exact eG
end Go.Proofs.YtjlgabojhnnbaaaGreatDoor
namespace Go.Proofs.YtjlgabojhnnbaaaGreatDoor
open Go Go.SX
attribute [local irreducible] swp opsS thenS blockS retS CallsS St Ent YieldS anyS drawS
theorem rise_take {xs:List Int}{k:Nat}{x y:Int}(hr:Rise (xs.take k))(hx:xs[k]? =some x)(hy:0<k→xs[k - 1]? =some y∧y<x):Rise (xs.take (k+1)):=by
 rw[take_snoc hx];refine rise_snoc hr ?_
 by_cases h0:0<k
 ·obtain ⟨h1,h2⟩:=hy h0
  have hl:k - 1<xs.length:=(List.getElem?_eq_some_iff.1 h1).1;have e:xs.take k=xs.take (k - 1)++[y]:=by
   have:=take_snoc h1
   rwa [show k - 1+1=k by omega] at this
  rw[e,lastLt_snoc];exact decide_eq_true h2
 ·have:k=0:=by omega
  subst this;rfl
theorem not_rise {xs:List Int}{k:Nat}{x y:Int}(hk:0<k)(hx:xs[k]? =some x)(hy:xs[k - 1]? =some y)(h:x≤y):riseB xs=false:=by
 cases hb:riseB xs with
 |false=>rfl
 |true=>
  have hr:=riseB_iff.1 hb;obtain ⟨h1,rfl⟩:=List.getElem?_eq_some_iff.1 hx;obtain ⟨h2,rfl⟩:=List.getElem?_eq_some_iff.1 hy;have:=List.pairwise_iff_getElem.1 hr (k - 1) k h2 h1 zo;omega
theorem rises_spec (a:OA)(c:Nat)(xs:List Int)(A:HL)(h:RdS A a xs.length 1 (xs.map U64))(hn:xs.length≤100000000):
  CallsS Tryz.prog 30 [.slice a xs.length c] A (λv L'=>v=.bool (riseB xs)∧L'=A):=by
 rw[←flat_U] at h;refine CallsS.of_body Tryz.func30 rfl rfl rfl ?_;refine Q.r ?_;refine swp_cutB (σ:=Unit) (λ_=> []) (λ_=>A) (λ_=>riseB xs=true) ?_ ?_
 ·refine swp_loop (σ:=Nat) (λk=> [(0,.slice a xs.length c),(5,.int .i64 xs.length),(6,.int .i64 k)]) (λ_=>A) (λk=>k≤xs.length∧Rise (xs.take k)) (λk=>xs.length - k) 0 zt (Ent.refl _) ⟨Nat.zero_le _,List.Pairwise.nil⟩ ?_
  rintro k ⟨hk,hr⟩
  by_cases hlt:k<xs.length
  ·obtain ⟨x,hx⟩:=mem_get hlt
   obtain ⟨b,o,hia,hrx⟩:=RdS.elem (g:=cU) (λ_=>rfl) h hx rfl;rw[hia]
   by_cases h0:0<k
   ·obtain ⟨y,hy⟩:=mem_get (l:=xs) (k:=k - 1) zo
    obtain ⟨b',o',hia',hry⟩:=RdS.elem (g:=cU) (λ_=>rfl) h hy rfl;rw[hia] at hia';obtain ⟨rfl,rfl⟩:b=b'∧o=o':=by
     simp only[Option.some.injEq,Addr.mk.injEq] at hia';exact ⟨hia'.1,hia'.2.1⟩
    clear hia';have hk1:(k:Int) - 1=((k - 1:Nat):Int):=by omega
    have hk2:k - 1<xs.length:=by omega
    by_cases hxy:y<x
    ·have hxy':¬x≤y:=by omega
     refine Q.r ?_;refine D.start [] [] [0,1,2,3,4,5,6,7,8,9,10,11,12,13] _ [] rfl zk rfl zk NoPanic.no (Ent.refl _) ?_;refine Q.rd ?_;refine D.y rfl rfl rfl zk (Y.guard rfl (Y.ia (k:=k - 1) (m:=xs.length) rfl rfl hk1 hk2)) ?_;refine Q.rd ?_;refine Q.r ?_;exact ⟨k+1,zt,Ent.refl _,⟨hlt,rise_take hr hx λ_=>⟨hy,hxy⟩⟩,Nat.sub_succ_lt_self xs.length k hlt⟩
    ·have hxy':x≤y:=by omega
     refine Q.r ?_;refine D.start [] [] [0,1,2,3,4,5,6,7,8,9,10,11,12,13] _ [] rfl zk rfl zk NoPanic.no (Ent.refl _) ?_;refine Q.rd ?_;refine D.y rfl rfl rfl zk (Y.guard rfl (Y.ia (k:=k - 1) (m:=xs.length) rfl rfl hk1 hk2)) ?_;refine Q.rd ?_;refine Q.r ?_;exact N.t rfl (Ent.refl _) ⟨by rw[not_rise h0 hx hy hxy'],rfl⟩
   ·refine Q.r ?_
    refine D.start [] [] [0,1,2,3,4,5,6,7,8,9,10,11,12,13] _ [] rfl zk rfl zk NoPanic.no (Ent.refl _) ?_;refine Q.rd ?_;refine Q.r ?_;exact ⟨k+1,zt,Ent.refl _,⟨hlt,rise_take (y:=0) hr hx λh=>absurd h h0⟩,Nat.sub_succ_lt_self xs.length k hlt⟩
  ·have hke:k=xs.length:=by omega
   subst hke;rw[List.take_length] at hr;refine Q.r ?_;exact ⟨(),trivial,Ent.refl _,riseB_iff.2 hr⟩
 ·rintro _ he
  refine Q.r ?_;exact N.t rfl (Ent.refl _) ⟨by rw[he],rfl⟩
theorem okP_get {ps:List Int}{k:Nat}{x:Int}(h:ps[k]? =some x)(h0:0≤x):okP ps k=(decide (x<16)&&(decide (k=0)||decide (ps.getD (k - 1) 0<x))):=by
 unfold okP;rw[getD_of h,decide_eq_true h0,Bool.true_and]
theorem partsV_no {ps:List Int}{k:Nat}(hk:k<ps.length)(h:okP ps k=false):partsV ps=false:=by
 unfold partsV;exact List.all_eq_false.2 ⟨k,List.mem_range.2 hk,by rw[h];decide⟩
theorem sound_spec (a:OA)(c:Nat)(xs:List Int)(A:HL)(h:RdS A a xs.length 1 (xs.map I64))(hn:xs.length≤100000000)(hp:∀x∈xs,0≤x):
  CallsS Tryz.prog 33 [.slice a xs.length c] A (λv L'=>v=.bool (partsV xs)∧L'=A):=by
 rw[←flat_I64] at h;refine CallsS.of_body Tryz.func33 rfl rfl rfl ?_;refine Q.r ?_;refine swp_cutB (σ:=Unit) (λ_=> []) (λ_=>A) (λ_=>partsV xs=true) ?_ ?_
 ·refine swp_loop (σ:=Nat) (λk=> [(0,.slice a xs.length c),(5,.slice a xs.length c),(6,.int .i64 xs.length),(7,.int .i64 k)]) (λ_=>A) (λk=>k≤xs.length∧∀i,i<k→okP xs i=true) (λk=>xs.length - k) 0 zt (Ent.refl _) ⟨Nat.zero_le _,λi hi=>absurd hi (Nat.not_lt_zero i)⟩ ?_
  rintro k ⟨hk,hr⟩
  by_cases hlt:k<xs.length
  ·obtain ⟨x,hx⟩:=mem_get hlt
   have hx0:=hp x (List.mem_of_getElem? hx);obtain ⟨b,o,hia,hrx⟩:=RdS.elem (g:=λz:Int=> [I64 z]) (λ_=>rfl) h hx rfl;have hok:=okP_get hx hx0;have next:okP xs k=true→∀i,i<k+1→okP xs i=true:=λhkk i hi=>by
    by_cases e:i=k
    ·rw[e];exact hkk
    ·exact hr i zo
   rw[hia]
   by_cases h16:16≤x
   ·refine Q.r ?_
    exact N.t rfl (Ent.refl _) ⟨by rw[partsV_no hlt (by rw[hok,decide_eq_false zo];rfl)],rfl⟩
   by_cases h0:0<k
   ·obtain ⟨y,hy⟩:=mem_get (l:=xs) (k:=k - 1) zo
    obtain ⟨b',o',hia',hry⟩:=RdS.elem (g:=λz:Int=> [I64 z]) (λ_=>rfl) h hy rfl;rw[hia] at hia';obtain ⟨rfl,rfl⟩:b=b'∧o=o':=by
     simp only[Option.some.injEq,Addr.mk.injEq] at hia';exact ⟨hia'.1,hia'.2.1⟩
    clear hia';rw[getD_of hy] at hok;have hk1:(k:Int) - 1=((k - 1:Nat):Int):=by omega
    have hk2:k - 1<xs.length:=by omega
    by_cases hxy:y<x
    ·have hxy':¬x≤y:=by omega
     refine Q.r ?_;refine S.y (Y.ia (k:=k - 1) (m:=xs.length) rfl rfl hk1 hk2) ?_;refine Q.r ?_;exact ⟨k+1,zt,Ent.refl _,⟨hlt,next (by rw[hok,decide_eq_true (show x<16 by omega),decide_eq_true hxy];simp)⟩,Nat.sub_succ_lt_self xs.length k hlt⟩
    ·have hxy':x≤y:=by omega
     refine Q.r ?_;refine S.y (Y.ia (k:=k - 1) (m:=xs.length) rfl rfl hk1 hk2) ?_;refine Q.r ?_;exact N.t rfl (Ent.refl _) ⟨by rw[partsV_no hlt (by rw[hok,decide_eq_false hxy,decide_eq_false (show ¬k=0 by omega)];simp)],rfl⟩
   ·refine Q.r ?_
    exact ⟨k+1,zt,Ent.refl _,⟨hlt,next (by rw[hok,decide_eq_true (show x<16 by omega),decide_eq_true (show k=0 by omega)];rfl)⟩,Nat.sub_succ_lt_self xs.length k hlt⟩
  ·have hke:k=xs.length:=by omega
   subst hke;refine Q.r ?_;refine ⟨(),trivial,Ent.refl _,?_⟩;unfold partsV;exact List.all_eq_true.2 λi hi=>hr i (List.mem_range.1 hi)
 ·rintro _ he
  refine Q.r ?_;exact N.t rfl (Ent.refl _) ⟨by rw[he],rfl⟩
theorem verD_eq {s z z':RS}{st:Nat}{v:List Int}(h1:rdF 1099511627776 s=(st,z))(h2:vecD 8 z=(v,z')):verD s=(((st:Int),v),z'):=by
 unfold verD pairD numD;simp only[h1,h2]
theorem entB_eq2 {s z1 z2 z3:RS}{id m:Nat}{vs:VL}(h1:rdF 1099511627776 s=(id,z1))(h2:rdF 1048576 z1=(m,z2))(h3:brkF verD m (z2,[])=(z3,vs)):entB s=(((id:Int),vs),z3):=by
 unfold entB pairD numD decB;simp only[h1,h2,h3]
abbrev slV (a:OA)(c:Nat)(vs:List OV):HP:=slO 116 2 a vs.length c (vs.flatMap OV.cells)
abbrev slE (a:OA)(c:Nat)(es:List EV):HP:=slO 94 2 a es.length c (es.flatMap EV.cells)
abbrev capO (vs:List OV):Prop:=∀o∈vs,o.vec.length≤o.c
set_option maxRecDepth 100000 in
theorem chains_spec (r:Nat)(a:OA)(c:Nat)(s:RS)(M:OM)(L:HL)(h:RK M a c s):
  CallsS Tryz.prog 26 [.pointer (some ⟨r,0,none⟩)] (rdS r a c s::roM M::L) (λv L'=>∃(ea:OA) (ec:Nat) (es:List EV) (a':OA) (c':Nat) (M':OM),v=.slice ea es.length ec∧leM M M'∧RK M' a' c' (decB 1048576 entB s).2∧es.map EV.abs=(decB 1048576 entB s).1∧SlM M' ea es.length 2 (es.flatMap EV.cells)∧(∀e∈es,okE M' e∧capO e.vs)∧L'=rdS r a' c' (decB 1048576 entB s).2::roM M'::L):=by
 refine CallsS.of_body Tryz.func26 rfl rfl rfl ?_;refine Q.r ?_;refine S.c1 (A:=rdS r a c s) rfl (rdN_spec r a c s 1048576 M _ h) ?_;rintro _ _ ⟨rfl,a1,c1,hk1,rfl⟩;have hn:=(rdF_le 1048576 s).1;unfold decB;dsimp only;generalize rdF 1048576 s=x1 at*;obtain ⟨n,z1⟩:=x1;dsimp only at*;refine Q.r ?_;refine swp_cutB (σ:=RS×List EV×OA×Nat×OA×Nat×(OM)) (λw=> [(3,.slice w.2.2.2.2.1 w.2.1.length w.2.2.2.2.2.1)])
  (λw=>slE w.2.2.2.2.1 w.2.2.2.2.2.1 w.2.1::rdS r w.2.2.1 w.2.2.2.1 w.1::roM w.2.2.2.2.2.2::L) (λw=>RK w.2.2.2.2.2.2 w.2.2.1 w.2.2.2.1 w.1∧leM M w.2.2.2.2.2.2∧(∀e∈w.2.1,okE w.2.2.2.2.2.2 e∧capO e.vs)∧brkF entB n (z1,[])=(w.1,w.2.1.map EV.abs)) ?_ ?_
 ·refine swp_loop (σ:=Nat×RS×List EV×OA×Nat×OA×Nat×(OM)) (λw=> [(0,.pointer (some ⟨r,0,none⟩)),(6,.int .u64 n),(3,.slice w.2.2.2.2.2.1 w.2.2.1.length w.2.2.2.2.2.2.1),(7,.int .u64 w.1)])
   (λw=>slE w.2.2.2.2.2.1 w.2.2.2.2.2.2.1 w.2.2.1::rdS r w.2.2.2.1 w.2.2.2.2.1 w.2.1::roM w.2.2.2.2.2.2.2::L)
   (λw=>w.1≤n∧w.2.2.1.length=w.1∧RK w.2.2.2.2.2.2.2 w.2.2.2.1 w.2.2.2.2.1 w.2.1∧leM M w.2.2.2.2.2.2.2∧(∀e∈w.2.2.1,okE w.2.2.2.2.2.2.2 e∧capO e.vs)∧brkF entB (n - w.1) (w.2.1,w.2.2.1.map EV.abs)=brkF entB n (z1,[])) (λw=>n - w.1) (0,z1,[],a1,c1,none,0,M) zt eG ⟨Nat.zero_le _,rfl,hk1,leM.refl M,λ_ h=>(by cases h),rfl⟩ ?_
  rintro ⟨i,s2,es,a2,c2,ea,ec,M2⟩ ⟨hi,hel,hk2,hl2,hok,hB⟩;dsimp only at hi hel hk2 hl2 hok hB ⊢
  by_cases hlt:i<n
  ·rw[show n - i=(n - (i+1))+1 by omega,brkF_succ] at hB
   dsimp only at hB;refine Q.r ?_;refine S.c1 (A:=rdS r a2 c2 s2) rfl (rdN_spec r a2 c2 s2 1099511627776 M2 _ hk2) ?_;rintro _ _ ⟨rfl,a3,c3,hk3,rfl⟩;generalize e1:rdF 1099511627776 s2=x3 at*;obtain ⟨id,z3⟩:=x3;dsimp only at*;refine Q.r ?_;(repeat (intro b1;refine Q.r ?_));revert b1;intro b4;refine opsS_ent (L':=rdS r a3 c3 z3::pt b4 (cl [.int .u64 id,.slice none 0 0] 94)::slE ea ec es::roM M2::L) eG ?_;refine S.c1 (A:=rdS r a3 c3 z3) rfl (rdN_spec r a3 c3 z3 1048576 M2 _ hk3) ?_;rintro _ _ ⟨rfl,a4,c4,hk4,rfl⟩;have hm:=(rdF_le 1048576 z3).1;generalize e2:rdF 1048576 z3=x4 at*;obtain ⟨m,z4⟩:=x4;dsimp only at*;refine Q.r ?_;refine swp_cutB (σ:=RS×List OV×OA×Nat×OA×Nat×(OM)) (λw=> [(0,.pointer (some ⟨r,0,none⟩)),(3,.slice ea es.length ec),(4,.pointer (some ⟨b4,0,none⟩)),(6,.int .u64 n),(7,.int .u64 i)])
    (λw=>pt b4 (cl [.int .u64 id,.slice w.2.2.2.2.1 w.2.1.length w.2.2.2.2.2.1] 94)::slV w.2.2.2.2.1 w.2.2.2.2.2.1 w.2.1::slE ea ec es::rdS r w.2.2.1 w.2.2.2.1 w.1::roM w.2.2.2.2.2.2::L) (λw=>RK w.2.2.2.2.2.2 w.2.2.1 w.2.2.2.1 w.1∧leM M2 w.2.2.2.2.2.2∧okR w.2.2.2.2.2.2 w.2.1∧capO w.2.1∧brkF verD m (z4,[])=(w.1,w.2.1.map OV.abs)) ?_ ?_
   ·refine swp_loop (σ:=Nat×RS×List OV×OA×Nat×OA×Nat×(OM)) (λw=> [(0,.pointer (some ⟨r,0,none⟩)),(3,.slice ea es.length ec),(4,.pointer (some ⟨b4,0,none⟩)),(6,.int .u64 n),(7,.int .u64 i),(13,.int .u64 m),(14,.int .u64 w.1)])
     (λw=>pt b4 (cl [.int .u64 id,.slice w.2.2.2.2.2.1 w.2.2.1.length w.2.2.2.2.2.2.1] 94)::slV w.2.2.2.2.2.1 w.2.2.2.2.2.2.1 w.2.2.1::slE ea ec es::rdS r w.2.2.2.1 w.2.2.2.2.1 w.2.1::roM w.2.2.2.2.2.2.2::L)
     (λw=>w.1≤m∧w.2.2.1.length=w.1∧RK w.2.2.2.2.2.2.2 w.2.2.2.1 w.2.2.2.2.1 w.2.1∧leM M2 w.2.2.2.2.2.2.2∧okR w.2.2.2.2.2.2.2 w.2.2.1∧capO w.2.2.1∧brkF verD (m - w.1) (w.2.1,w.2.2.1.map OV.abs)=brkF verD m (z4,[])) (λw=>m - w.1) (0,z4,[],a4,c4,none,0,M2) zt eG ⟨Nat.zero_le _,rfl,hk4,leM.refl M2,λ_ h=>(by cases h),λ_ h=>(by cases h),rfl⟩ ?_
    rintro ⟨k,s5,vs,a5,c5,va,vc,M5⟩ ⟨hk,hvl,hk5,hl5,hov,hcv,hV⟩;dsimp only at hk hvl hk5 hl5 hov hcv hV ⊢
    by_cases hlt2:k<m
    ·rw[show m - k=(m - (k+1))+1 by omega,brkF_succ] at hV
     dsimp only at hV;refine Q.r ?_;refine Q.dgo [true,false,false,false,false] [3,5,7,8,10] [10] [0,1,2,4,3,5,6,7,8,9,10] ?_;refine Q.rd2 ?_;refine D.e rfl rfl rfl ?_;refine S.c1 (A:=rdS r a5 c5 s5) rfl (rdN_spec r a5 c5 s5 1099511627776 M5 _ hk5) ?_;rintro _ _ ⟨rfl,a6,c6,hk6,rfl⟩;generalize e3:rdF 1099511627776 s5=x6 at*;obtain ⟨st,z6⟩:=x6;dsimp only at*;refine Q.r ?_;refine Q.rd2 ?_;refine D.e rfl rfl rfl ?_;refine S.c1 (A:=rdS r a6 c6 z6) rfl (rVec_spec r a6 c6 z6 M5 _ hk6) ?_;rintro _ _ ⟨wa,wc,a7,c7,rfl,hk7,rfl⟩;generalize e4:vecD 8 z6=x7 at*;obtain ⟨w,z7⟩:=x7;dsimp only at*;rw[verD_eq e3 e4] at hV;dsimp only at hV;refine Q.r ?_;refine Q.rd2 ?_;refine D.e rfl rfl rfl ?_;refine Q.r ?_;(repeat (intro b1;refine Q.r ?_));refine Q.rd2 ?_;refine D.e rfl rfl rfl ?_;refine S.app rfl rfl (SrcS.sl RdC.row zr zr) zr zo zo (λva2 vc2=> ?_);refine Q.r ?_;refine Q.rd2 ?_;refine Q.dc rfl rfl rfl rfl ?_;refine Q.r ?_;refine Q.rd2 ?_;refine Q.r ?_;refine opsS_cap wa λhcap=>opsS_abs wa (λM6 hl6 hs6=> ?_)
     have hk8:RK M6 a7 c7 z7:=hk7.mono hl6;have hov6:okR M6 (vs++[(⟨st,wa,wc,w⟩:OV)]):=λo ho=>by
      rcases List.mem_append.1 ho with ho|ho
      ·exact (hov o ho).mono hl6
      ·rw[List.mem_singleton.1 ho];exact hs6
     have hcv6:capO (vs++[(⟨st,wa,wc,w⟩:OV)]):=λo ho=>by
      rcases List.mem_append.1 ho with ho|ho
      ·exact hcv o ho
      ·rw[List.mem_singleton.1 ho];exact hcap
     refine S.c1 (A:=rdS r a7 c7 z7) rfl (rLeft_spec r a7 z7.bs.length c7 z7.bad _) ?_;rintro _ _ ⟨rfl,rfl⟩
     by_cases h0:z7.bs.length=0
     ·rw[if_pos h0] at hV
      refine Q.r ?_;refine ⟨(z7,vs++[⟨st,wa,wc,w⟩],a7,c7,va2,vc2,M6),zt,?_,hk8,hl5.trans hl6,hov6,hcv6,?_⟩
      ·dsimp only[slV]
       rw[len_snoc,flat_snoc];exact eG
      ·dsimp only
       rw[←hV,List.map_append];rfl
     ·rw[if_neg h0] at hV
      refine Q.r ?_;refine S.y (Y.add rfl rfl) ?_;rw[wrap_u64 zo zo];refine Q.r ?_;refine ⟨(k+1,z7,vs++[⟨st,wa,wc,w⟩],a7,c7,va2,vc2,M6),⟨rfl,rfl,rfl,rfl,rfl,rfl,congrArg some (by simp[List.filter_append]),trivial⟩,?_,⟨hlt2,by dsimp only;rw[len_snoc,hvl],hk8,hl5.trans hl6,hov6,hcv6,?_⟩,Nat.sub_succ_lt_self m k hlt2⟩
      ·dsimp only[slV]
       rw[len_snoc,flat_snoc];exact eG
      ·dsimp only
       rw[←hV,List.map_append];rfl
    ·have hkm:k=m:=by omega
     subst hkm;rw[Nat.sub_self] at hV;refine Q.r ?_;exact ⟨(s5,vs,a5,c5,va,vc,M5),zt,by exact eG,hk5,hl5,hov,hcv,hV.symm⟩
   rintro ⟨s5,vs,a5,c5,va,vc,M5⟩ ⟨hk5,hl5,hov,hcv,hV⟩;dsimp only at hk5 hl5 hov hcv hV ⊢;have hE:=entB_eq2 e1 e2 hV;rw[hE] at hB;dsimp only at hB;refine swp_abs va (λM6 hl6 hs6=> ?_);have hok6:∀e∈es++[(⟨id,va,vc,vs⟩:EV)],okE M6 e∧capO e.vs:=λe he=>by
    rcases List.mem_append.1 he with he|he
    ·exact ⟨(hok e he).1.mono (hl5.trans hl6),(hok e he).2⟩
    ·rw[List.mem_singleton.1 he]
     exact ⟨⟨hs6,λo ho=>(hov o ho).mono hl6⟩,hcv⟩
   have hk6:RK M6 a5 c5 s5:=hk5.mono hl6;refine Q.r ?_;(repeat (intro b1;refine Q.r ?_));refine S.app rfl rfl (SrcS.sl RdC.row zr zr) zr zo zo (λea2 ec2=> ?_);refine Q.r ?_;refine S.c1 (A:=rdS r a5 c5 s5) rfl (rLeft_spec r a5 s5.bs.length c5 s5.bad _) ?_;rintro _ _ ⟨rfl,rfl⟩
   by_cases h0:s5.bs.length=0
   ·rw[if_pos h0] at hB
    refine Q.r ?_;refine ⟨(s5,es++[⟨id,va,vc,vs⟩],a5,c5,ea2,ec2,M6),⟨congrArg some (by simp[List.filter_append]),trivial⟩,?_,hk6,hl2.trans (hl5.trans hl6),hok6,?_⟩
    ·dsimp only[slE]
     rw[len_snoc,flat_snoc];exact eG
    ·dsimp only
     rw[←hB,List.map_append];rfl
   ·rw[if_neg h0] at hB
    refine Q.r ?_;refine S.y (Y.add rfl rfl) ?_;rw[wrap_u64 zo zo];refine Q.r ?_;refine ⟨(i+1,s5,es++[⟨id,va,vc,vs⟩],a5,c5,ea2,ec2,M6),⟨rfl,rfl,congrArg some (by simp[List.filter_append]),congrArg some (by simp[List.filter_append]),trivial⟩,?_,⟨hlt,by dsimp only;rw[len_snoc,hel],hk6,hl2.trans (hl5.trans hl6),hok6,?_⟩,Nat.sub_succ_lt_self n i hlt⟩
    ·dsimp only[slE]
     rw[len_snoc,flat_snoc];exact eG
    ·dsimp only
     rw[←hB,List.map_append];rfl
  ·have hin:i=n:=by omega
   subst hin;rw[Nat.sub_self] at hB;refine Q.r ?_;exact ⟨(s2,es,a2,c2,ea,ec,M2),zt,by exact eG,hk2,hl2,hok,hB.symm⟩
 rintro ⟨s2,es,a2,c2,ea,ec,M2⟩ ⟨hk2,hl2,hok,hB⟩;dsimp only at hk2 hl2 hok hB ⊢;rw[hB];refine swp_abs ea (λM3 hl3 hs3=> ?_);refine Q.r ?_;refine N.t rfl ?_ ⟨ea,ec,es,a2,c2,M3,rfl,hl2.trans hl3,hk2.mono hl3,rfl,hs3,λe he=>⟨(hok e he).1.mono hl3,(hok e he).2⟩,rfl⟩;exact eG
structure OI where
 id:Int
 af:Int
 oa:OA
 oc:Nat
 vs:List OV
 pa:OA
 pc:Nat
 ps:List Int
abbrev OI.cells (o:OI):List Value:=[.int .u64 o.id,.int .u64 o.af,.slice o.oa o.vs.length o.oc,.slice o.pa o.ps.length o.pc]
abbrev OI.abs (o:OI):IR:=(o.id,o.af,o.ps,o.vs.map OV.abs)
abbrev cI64 (z:Int):List Value:=[I64 z]
abbrev okO (M:OM)(o:OI):Prop:=SlM M o.oa o.vs.length 2 (o.vs.flatMap OV.cells)∧okR M o.vs∧SlM M o.pa o.ps.length 1 (o.ps.flatMap cI64)
theorem okO.mono {M M':OM}{o:OI}(h:okO M o)(hl:leM M M'):okO M' o:=⟨h.1.mono hl,λx hx=>(h.2.1 x hx).mono hl,h.2.2.mono hl⟩
abbrev slQ (a:OA)(c:Nat)(vs:List OV):HP:=slO 119 2 a vs.length c (vs.flatMap OV.cells)
abbrev slP (a:OA)(c:Nat)(ps:List Int):HP:=slO 3 1 a ps.length c (ps.flatMap cI64)
abbrev slI (a:OA)(c:Nat)(es:List OI):HP:=slO 102 4 a es.length c (es.flatMap OI.cells)
theorem intB_eq2 {s z1 z2 z3 z4 z5 z6:RS}{id af m q:Nat}{ps:List Int}{vs:VL}(h1:rdF 18446744073709551615 s=(id,z1))(h2:rdF 1099511627776 z1=(af,z2))(h3:rdF 4 z2=(m,z3))(h4:listF (numD 16) m (z3,[])=(z4,ps))(h5:rdF 16 z4=(q,z5))(h6:listF verD q (z5,[])=(z6,vs)):intB s=(((id:Int),(af:Int),ps,vs),z6):=by
 unfold intB pairD numD decL;simp only[h1,h2,h3,h5];rw[show (λs=>(((rdF 16 s).1:Int),(rdF 16 s).2))=numD 16 from rfl,h4];dsimp only;rw[h5];dsimp only;rw[h6]
theorem numD_eq {most:Nat}{s z:RS}{n:Nat}(h:rdF most s=(n,z)):numD most s=((n:Int),z):=by
 unfold numD;rw[h]
set_option maxRecDepth 100000 in
theorem pints_spec (r:Nat)(a:OA)(c:Nat)(s:RS)(M:OM)(L:HL)(h:RK M a c s):
  CallsS Tryz.prog 27 [.pointer (some ⟨r,0,none⟩)] (rdS r a c s::roM M::L) (λv L'=>∃(ea:OA) (ec:Nat) (es:List OI) (a':OA) (c':Nat) (M':OM),v=.slice ea es.length ec∧leM M M'∧RK M' a' c' (decB 1048576 intB s).2∧es.map OI.abs=(decB 1048576 intB s).1∧SlM M' ea es.length 4 (es.flatMap OI.cells)∧(∀e∈es,okO M' e∧capO e.vs)∧L'=rdS r a' c' (decB 1048576 intB s).2::roM M'::L):=by
 refine CallsS.of_body Tryz.func27 rfl rfl rfl ?_;refine Q.r ?_;refine S.c1 (A:=rdS r a c s) rfl (rdN_spec r a c s 1048576 M _ h) ?_;rintro _ _ ⟨rfl,a1,c1,hk1,rfl⟩;have hn:=(rdF_le 1048576 s).1;unfold decB;dsimp only;generalize rdF 1048576 s=x1 at*;obtain ⟨n,z1⟩:=x1;dsimp only at*;refine Q.r ?_;refine swp_cutB (σ:=RS×List OI×OA×Nat×OA×Nat×(OM)) (λw=> [(3,.slice w.2.2.2.2.1 w.2.1.length w.2.2.2.2.2.1)])
  (λw=>slI w.2.2.2.2.1 w.2.2.2.2.2.1 w.2.1::rdS r w.2.2.1 w.2.2.2.1 w.1::roM w.2.2.2.2.2.2::L) (λw=>RK w.2.2.2.2.2.2 w.2.2.1 w.2.2.2.1 w.1∧leM M w.2.2.2.2.2.2∧(∀e∈w.2.1,okO w.2.2.2.2.2.2 e∧capO e.vs)∧brkF intB n (z1,[])=(w.1,w.2.1.map OI.abs)) ?_ ?_
 ·refine swp_loop (σ:=Nat×RS×List OI×OA×Nat×OA×Nat×(OM)) (λw=> [(0,.pointer (some ⟨r,0,none⟩)),(6,.int .u64 n),(3,.slice w.2.2.2.2.2.1 w.2.2.1.length w.2.2.2.2.2.2.1),(7,.int .u64 w.1)])
   (λw=>slI w.2.2.2.2.2.1 w.2.2.2.2.2.2.1 w.2.2.1::rdS r w.2.2.2.1 w.2.2.2.2.1 w.2.1::roM w.2.2.2.2.2.2.2::L)
   (λw=>w.1≤n∧w.2.2.1.length=w.1∧RK w.2.2.2.2.2.2.2 w.2.2.2.1 w.2.2.2.2.1 w.2.1∧leM M w.2.2.2.2.2.2.2∧(∀e∈w.2.2.1,okO w.2.2.2.2.2.2.2 e∧capO e.vs)∧brkF intB (n - w.1) (w.2.1,w.2.2.1.map OI.abs)=brkF intB n (z1,[])) (λw=>n - w.1) (0,z1,[],a1,c1,none,0,M) zt eG ⟨Nat.zero_le _,rfl,hk1,leM.refl M,λ_ h=>(by cases h),rfl⟩ ?_
  rintro ⟨i,s2,es,a2,c2,ea,ec,M2⟩ ⟨hi,hel,hk2,hl2,hok,hB⟩;dsimp only at hi hel hk2 hl2 hok hB ⊢
  by_cases hlt:i<n
  ·rw[show n - i=(n - (i+1))+1 by omega,brkF_succ] at hB
   dsimp only at hB;refine Q.r ?_;refine S.c1 (A:=rdS r a2 c2 s2) rfl (rdN_spec r a2 c2 s2 18446744073709551615 M2 _ hk2) ?_;rintro _ _ ⟨rfl,a3,c3,hk3,rfl⟩;generalize e1:rdF 18446744073709551615 s2=x3 at*;obtain ⟨id,z3⟩:=x3;dsimp only at*;refine Q.r ?_;refine S.c1 (A:=rdS r a3 c3 z3) rfl (rdN_spec r a3 c3 z3 1099511627776 M2 _ hk3) ?_;rintro _ _ ⟨rfl,a4,c4,hk4,rfl⟩;generalize e2:rdF 1099511627776 z3=x4 at*;obtain ⟨af,z4⟩:=x4;dsimp only at*;refine Q.r ?_;(repeat (intro b1;refine Q.r ?_));revert b1;intro b4;refine opsS_ent (L':=rdS r a4 c4 z4::pt b4 (cl [.int .u64 id,.int .u64 af,.slice none 0 0,.slice none 0 0] 102)::slI ea ec es::roM M2::L) eG ?_;refine S.c1 (A:=rdS r a4 c4 z4) rfl (rdN_spec r a4 c4 z4 4 M2 _ hk4) ?_;rintro _ _ ⟨rfl,a5,c5,hk5,rfl⟩;have hm:=(rdF_le 4 z4).1;generalize e3:rdF 4 z4=x5 at*;obtain ⟨m,z5⟩:=x5;dsimp only at*;refine Q.r ?_;refine swp_cutB (σ:=RS×List Int×OA×Nat×OA×Nat) (λw=> [(0,.pointer (some ⟨r,0,none⟩)),(3,.slice ea es.length ec),(4,.pointer (some ⟨b4,0,none⟩)),(6,.int .u64 n),(7,.int .u64 i)])
    (λw=>pt b4 (cl [.int .u64 id,.int .u64 af,.slice none 0 0,.slice w.2.2.2.2.1 w.2.1.length w.2.2.2.2.2] 102)::slP w.2.2.2.2.1 w.2.2.2.2.2 w.2.1::slI ea ec es::rdS r w.2.2.1 w.2.2.2.1 w.1::roM M2::L) (λw=>RK M2 w.2.2.1 w.2.2.2.1 w.1∧listF (numD 16) m (z5,[])=(w.1,w.2.1)) ?_ ?_
   ·refine swp_loop (σ:=Nat×RS×List Int×OA×Nat×OA×Nat) (λw=> [(0,.pointer (some ⟨r,0,none⟩)),(3,.slice ea es.length ec),(4,.pointer (some ⟨b4,0,none⟩)),(6,.int .u64 n),(7,.int .u64 i),(16,.int .u64 m),(17,.int .u64 w.1)])
     (λw=>pt b4 (cl [.int .u64 id,.int .u64 af,.slice none 0 0,.slice w.2.2.2.2.2.1 w.2.2.1.length w.2.2.2.2.2.2] 102)::slP w.2.2.2.2.2.1 w.2.2.2.2.2.2 w.2.2.1::slI ea ec es::rdS r w.2.2.2.1 w.2.2.2.2.1 w.2.1::roM M2::L)
     (λw=>w.1≤m∧w.2.2.1.length=w.1∧RK M2 w.2.2.2.1 w.2.2.2.2.1 w.2.1∧listF (numD 16) (m - w.1) (w.2.1,w.2.2.1)=listF (numD 16) m (z5,[])) (λw=>m - w.1) (0,z5,[],a5,c5,none,0) zt eG ⟨Nat.zero_le _,rfl,hk5,rfl⟩ ?_
    rintro ⟨k,s6,ps,a6,c6,pa,pc⟩ ⟨hk,hvl,hk6,hV⟩;dsimp only at hk hvl hk6 hV ⊢
    by_cases hlt2:k<m
    ·rw[show m - k=(m - (k+1))+1 by omega,listF_succ] at hV
     dsimp only at hV;refine Q.r ?_;refine Q.dgo [true,false,false,false,false] [3,5,6,8] [8] [0,1,2,3,4,5,6,7,8] ?_;refine Q.rd2 ?_;refine D.e rfl rfl rfl ?_;refine S.c1 (A:=rdS r a6 c6 s6) rfl (rdN_spec r a6 c6 s6 16 M2 _ hk6) ?_;rintro _ _ ⟨rfl,a7,c7,hk7,rfl⟩;have hst:=(rdF_le 16 s6).1;generalize e4:rdF 16 s6=x7 at*;obtain ⟨st,z7⟩:=x7;dsimp only at*;rw[numD_eq e4] at hV;dsimp only at hV;refine Q.r ?_;refine Q.rd2 ?_;refine D.yp rfl rfl rfl (Y.cvi rfl) ?_;rw[show IntKind.i64.wrap ((st:Nat):Int)=(st:Int) from wrap_i64 zo zo];refine Q.rd2 ?_;refine D.e rfl rfl rfl ?_;refine Q.r ?_;(repeat (intro b1;refine Q.r ?_));refine Q.rd2 ?_;refine D.e rfl rfl rfl ?_;refine S.app rfl rfl (SrcS.sl RdC.row zr zr) zr zo zo (λva2 vc2=> ?_);refine Q.r ?_;refine Q.rd2 ?_;refine Q.dc rfl rfl rfl rfl ?_;refine Q.r ?_;refine Q.rd2 ?_;refine Q.r ?_;refine S.y (Y.add rfl rfl) ?_;rw[wrap_u64 zo zo];refine Q.r ?_;refine ⟨(k+1,z7,ps++[(st:Int)],a7,c7,va2,vc2),⟨rfl,rfl,rfl,rfl,rfl,rfl,congrArg some (by simp[List.filter_append]),trivial⟩,?_,⟨hlt2,by dsimp only;rw[len_snoc,hvl],hk7,hV⟩,Nat.sub_succ_lt_self m k hlt2⟩;dsimp only[slP];rw[len_snoc,flat_snoc];exact eG
    ·have hkm:k=m:=by omega
     subst hkm;rw[Nat.sub_self] at hV;refine Q.r ?_;exact ⟨(s6,ps,a6,c6,pa,pc),zt,by exact eG,hk6,hV.symm⟩
   rintro ⟨s6,ps,a6,c6,pa,pc⟩ ⟨hk6,hP⟩;dsimp only at hk6 hP ⊢;have hpsl:ps.length≤4:=by
    have:=congrArg (λw=>w.2.length) hP;dsimp only at this;have key:∀(k:Nat) (s:RS×List Int),(listF (numD 16) k s).2.length=s.2.length+k:=λk=>by
     induction k with
     |zero=>exact λs=>rfl
     |succ k ih=>intro s;rw[listF_succ,ih];dsimp only;rw[len_snoc];omega
    rw[key] at this;dsimp only[List.length_nil] at this;omega
   refine Q.r ?_;refine opsS_ent (L':=rdS r a6 c6 s6::pt b4 (cl [.int .u64 id,.int .u64 af,.slice none 0 0,.slice pa ps.length pc] 102)::slP pa pc ps::slI ea ec es::roM M2::L) eG ?_;refine S.c1 (A:=rdS r a6 c6 s6) rfl (rdN_spec r a6 c6 s6 16 M2 _ hk6) ?_;rintro _ _ ⟨rfl,a7,c7,hk7,rfl⟩;have hq:=(rdF_le 16 s6).1;generalize e5:rdF 16 s6=x7 at*;obtain ⟨q,z7⟩:=x7;dsimp only at*;refine Q.r ?_;refine swp_cutB (σ:=RS×List OV×OA×Nat×OA×Nat×(OM)) (λw=> [(0,.pointer (some ⟨r,0,none⟩)),(3,.slice ea es.length ec),(4,.pointer (some ⟨b4,0,none⟩)),(6,.int .u64 n),(7,.int .u64 i)])
    (λw=>pt b4 (cl [.int .u64 id,.int .u64 af,.slice w.2.2.2.2.1 w.2.1.length w.2.2.2.2.2.1,.slice pa ps.length pc] 102)::slQ w.2.2.2.2.1 w.2.2.2.2.2.1 w.2.1::slP pa pc ps::slI ea ec es::rdS r w.2.2.1 w.2.2.2.1 w.1::roM w.2.2.2.2.2.2::L) (λw=>RK w.2.2.2.2.2.2 w.2.2.1 w.2.2.2.1 w.1∧leM M2 w.2.2.2.2.2.2∧okR w.2.2.2.2.2.2 w.2.1∧capO w.2.1∧listF verD q (z7,[])=(w.1,w.2.1.map OV.abs)) ?_ ?_
   ·refine swp_loop (σ:=Nat×RS×List OV×OA×Nat×OA×Nat×(OM)) (λw=> [(0,.pointer (some ⟨r,0,none⟩)),(3,.slice ea es.length ec),(4,.pointer (some ⟨b4,0,none⟩)),(6,.int .u64 n),(7,.int .u64 i),(29,.int .u64 q),(30,.int .u64 w.1)])
     (λw=>pt b4 (cl [.int .u64 id,.int .u64 af,.slice w.2.2.2.2.2.1 w.2.2.1.length w.2.2.2.2.2.2.1,.slice pa ps.length pc] 102)::slQ w.2.2.2.2.2.1 w.2.2.2.2.2.2.1 w.2.2.1::slP pa pc ps::slI ea ec es::rdS r w.2.2.2.1 w.2.2.2.2.1 w.2.1::roM w.2.2.2.2.2.2.2::L)
     (λw=>w.1≤q∧w.2.2.1.length=w.1∧RK w.2.2.2.2.2.2.2 w.2.2.2.1 w.2.2.2.2.1 w.2.1∧leM M2 w.2.2.2.2.2.2.2∧okR w.2.2.2.2.2.2.2 w.2.2.1∧capO w.2.2.1∧listF verD (q - w.1) (w.2.1,w.2.2.1.map OV.abs)=listF verD q (z7,[])) (λw=>q - w.1) (0,z7,[],a7,c7,none,0,M2) zt eG ⟨Nat.zero_le _,rfl,hk7,leM.refl M2,λ_ h=>(by cases h),λ_ h=>(by cases h),rfl⟩ ?_
    rintro ⟨k,s5,vs,a5,c5,va,vc,M5⟩ ⟨hk,hvl,hk5,hl5,hov,hcv,hV⟩;dsimp only at hk hvl hk5 hl5 hov hcv hV ⊢
    by_cases hlt2:k<q
    ·rw[show q - k=(q - (k+1))+1 by omega,listF_succ] at hV
     dsimp only at hV;refine Q.r ?_;refine Q.dgo [true,false,false,false,false,false] [4,6,8,9,12] [12] [0,1,2,3,5,4,6,7,8,9,10,11,12] ?_;refine Q.rd2 ?_;refine D.e rfl rfl rfl ?_;refine S.c1 (A:=rdS r a5 c5 s5) rfl (rdN_spec r a5 c5 s5 1099511627776 M5 _ hk5) ?_;rintro _ _ ⟨rfl,a6,c6,hk6,rfl⟩;generalize e6:rdF 1099511627776 s5=x6 at*;obtain ⟨st,z6⟩:=x6;dsimp only at*;refine Q.r ?_;refine Q.rd2 ?_;refine D.e rfl rfl rfl ?_;refine S.c1 (A:=rdS r a6 c6 z6) rfl (rVec_spec r a6 c6 z6 M5 _ hk6) ?_;rintro _ _ ⟨wa,wc,a7,c7,rfl,hk7,rfl⟩;generalize e7:vecD 8 z6=x7 at*;obtain ⟨w,z8⟩:=x7;dsimp only at*;rw[verD_eq e6 e7] at hV;dsimp only at hV;refine Q.r ?_;refine Q.rd2 ?_;refine D.e rfl rfl rfl ?_;refine Q.r ?_;(repeat (intro b1;refine Q.r ?_));refine Q.rd2 ?_;refine D.e rfl rfl rfl ?_;refine S.app rfl rfl (SrcS.sl RdC.row zr zr) zr zo zo (λva2 vc2=> ?_);refine Q.r ?_;refine Q.rd2 ?_;refine Q.dc rfl rfl rfl rfl ?_;refine Q.r ?_;refine Q.rd2 ?_;refine Q.r ?_;refine opsS_cap wa λhcap=>opsS_abs wa (λM6 hl6 hs6=> ?_)
     have hk8:RK M6 a7 c7 z8:=hk7.mono hl6;have hov6:okR M6 (vs++[(⟨st,wa,wc,w⟩:OV)]):=λo ho=>by
      rcases List.mem_append.1 ho with ho|ho
      ·exact (hov o ho).mono hl6
      ·rw[List.mem_singleton.1 ho];exact hs6
     have hcv6:capO (vs++[(⟨st,wa,wc,w⟩:OV)]):=λo ho=>by
      rcases List.mem_append.1 ho with ho|ho
      ·exact hcv o ho
      ·rw[List.mem_singleton.1 ho];exact hcap
     refine Q.r ?_;refine S.y (Y.add rfl rfl) ?_;rw[wrap_u64 zo zo];refine Q.r ?_;refine ⟨(k+1,z8,vs++[⟨st,wa,wc,w⟩],a7,c7,va2,vc2,M6),⟨rfl,rfl,rfl,rfl,rfl,rfl,congrArg some (by simp[List.filter_append]),trivial⟩,?_,⟨hlt2,by dsimp only;rw[len_snoc,hvl],hk8,hl5.trans hl6,hov6,hcv6,?_⟩,Nat.sub_succ_lt_self q k hlt2⟩
     ·dsimp only[slQ]
      rw[len_snoc,flat_snoc];exact eG
     ·dsimp only
      rw[←hV,List.map_append];rfl
    ·have hkm:k=q:=by omega
     subst hkm;rw[Nat.sub_self] at hV;refine Q.r ?_;exact ⟨(s5,vs,a5,c5,va,vc,M5),zt,by exact eG,hk5,hl5,hov,hcv,hV.symm⟩
   rintro ⟨s5,vs,a5,c5,va,vc,M5⟩ ⟨hk5,hl5,hov,hcv,hV⟩;dsimp only at hk5 hl5 hov hcv hV ⊢;have hE:=intB_eq2 e1 e2 e3 hP e5 hV;rw[hE] at hB;dsimp only at hB;refine swp_abs va (λM6 hl6 hs6=> ?_);refine swp_abs pa (λM7 hl7 hs7=> ?_);have hl57:=hl5.trans (hl6.trans hl7);have hok6:∀e∈es++[(⟨id,af,va,vc,vs,pa,pc,ps⟩:OI)],okO M7 e∧capO e.vs:=λe he=>by
    rcases List.mem_append.1 he with he|he
    ·exact ⟨(hok e he).1.mono hl57,(hok e he).2⟩
    ·rw[List.mem_singleton.1 he]
     exact ⟨⟨hs6.mono hl7,λo ho=>(hov o ho).mono (hl6.trans hl7),hs7⟩,hcv⟩
   have hk6:RK M7 a5 c5 s5:=(hk5.mono hl6).mono hl7;refine Q.r ?_;(repeat (intro b1;refine Q.r ?_));refine S.app rfl rfl (SrcS.sl RdC.row zr zr) zr zo zo (λea2 ec2=> ?_);refine Q.r ?_;refine S.c1 (A:=rdS r a5 c5 s5) rfl (rLeft_spec r a5 s5.bs.length c5 s5.bad _) ?_;rintro _ _ ⟨rfl,rfl⟩
   by_cases h0:s5.bs.length=0
   ·rw[if_pos h0] at hB
    refine Q.r ?_;refine ⟨(s5,es++[⟨id,af,va,vc,vs,pa,pc,ps⟩],a5,c5,ea2,ec2,M7),⟨congrArg some (by simp[List.filter_append]),trivial⟩,?_,hk6,hl2.trans hl57,hok6,?_⟩
    ·dsimp only[slI]
     rw[len_snoc,flat_snoc];exact eG
    ·dsimp only
     rw[←hB,List.map_append];rfl
   ·rw[if_neg h0] at hB
    refine Q.r ?_;refine S.y (Y.add rfl rfl) ?_;rw[wrap_u64 zo zo];refine Q.r ?_;refine ⟨(i+1,s5,es++[⟨id,af,va,vc,vs,pa,pc,ps⟩],a5,c5,ea2,ec2,M7),⟨rfl,rfl,congrArg some (by simp[List.filter_append]),congrArg some (by simp[List.filter_append]),trivial⟩,?_,⟨hlt,by dsimp only;rw[len_snoc,hel],hk6,hl2.trans hl57,hok6,?_⟩,Nat.sub_succ_lt_self n i hlt⟩
    ·dsimp only[slI]
     rw[len_snoc,flat_snoc];exact eG
    ·dsimp only
     rw[←hB,List.map_append];rfl
  ·have hin:i=n:=by omega
   subst hin;rw[Nat.sub_self] at hB;refine Q.r ?_;exact ⟨(s2,es,a2,c2,ea,ec,M2),zt,by exact eG,hk2,hl2,hok,hB.symm⟩
 rintro ⟨s2,es,a2,c2,ea,ec,M2⟩ ⟨hk2,hl2,hok,hB⟩;dsimp only at hk2 hl2 hok hB ⊢;rw[hB];refine swp_abs ea (λM3 hl3 hs3=> ?_);refine Q.r ?_;refine N.t rfl ?_ ⟨ea,ec,es,a2,c2,M3,rfl,hl2.trans hl3,hk2.mono hl3,rfl,hs3,λe he=>⟨(hok e he).1.mono hl3,(hok e he).2⟩,rfl⟩;exact eG
abbrev qrP (r:Nat)(a:OA)(m c:Nat)(ok:Bool):HP:=pt r (cl [.slice a m c,.bool ok] 142)
abbrev qrS (r:Nat)(a:OA)(c:Nat)(s:RS):HP:=qrP r a s.bs.length c (decide (s.bad=0))
set_option maxRecDepth 100000 in
theorem Qnum_spec (r:Nat)(a:OA)(c:Nat)(s:RS)(most:Nat)(M:OM)(L:HL)[hM:HasM M L](h:RK M a c s):
  CallsS Tryz.prog 60 [.pointer (some ⟨r,0,none⟩),.int .u64 most] (qrS r a c s::L)
   (λv L'=>v=.int .u64 (rdF most s).1∧∃a' c',RK M a' c' (rdF most s).2∧L'=qrS r a' c' (rdF most s).2::L):=by
 have hl:=rdF_len most s;have hT:=RTake_spec a c s.bs most (qrS r a c s::L) (h.sl.rd (hm:=HasM.there)) (by have:=h.b;omega);have hsz:=takeF_size s.bs most;unfold rdF numF at hl ⊢;generalize takeF s.bs most=q at*;obtain ⟨v,sz,e⟩:=q;dsimp only at*;refine CallsS.of_body Tryz.func60 rfl rfl rfl ?_;refine Q.r ?_;refine S.cr rfl hT ?_;rintro _ _ ⟨rfl,rfl⟩;refine Q.r ?_;clear hT
 by_cases he:e=0
 ·by_cases hd:s.bad=0
  ·rw[if_neg zo,if_neg zo] at hl ⊢
   unfold restV;rw[if_neg (by show ¬e≠0;omega)];refine Q.r ?_;have hs:=h.sl.fromA (l:=sz) hsz h.c;rw[Nat.mul_one,←List.map_drop] at hs;refine N.t rfl (Ent.refl _) ⟨rfl,subA a c sz 1,c - sz,⟨?_,?_,?_⟩,?_⟩
   ·dsimp only
    rw[List.length_drop];exact hs
   ·dsimp only
    rw[List.length_drop];have:=h.c;omega
   ·dsimp only at hl ⊢
    have:=h.b;omega
   ·show _=qrP r _ (List.drop sz s.bs).length _ (decide ((0:Int)=0))::L
    rw[List.length_drop,decide_eq_true hd];rfl
  ·rw[if_pos hd] at hl ⊢
   refine Q.r ?_;exact N.t rfl (Ent.refl _) ⟨rfl,a,c,h,by show _=qrP r a s.bs.length c (decide (s.bad=0))::L;rw[show decide (s.bad=0)=false from decide_eq_false hd]⟩
 ·by_cases hd:s.bad=0
  ·rw[if_neg zo,if_pos he] at hl ⊢
   refine Q.r ?_;refine N.t rfl (Ent.refl _) ⟨rfl,a,c,⟨h.sl,h.c,h.b⟩,?_⟩
   show _=qrP r a s.bs.length c (decide (e=0))::L
   rw[show decide (e=0)=false from decide_eq_false he]
  ·rw[if_pos hd] at hl ⊢
   refine Q.r ?_;exact N.t rfl (Ent.refl _) ⟨rfl,a,c,h,by show _=qrP r a s.bs.length c (decide (s.bad=0))::L;rw[show decide (s.bad=0)=false from decide_eq_false hd]⟩
def vtF (bs:List UInt8):List Int×List UInt8×Int:=if (takeF bs 8).2.2≠0 then ([],[],(takeF bs 8).2.2) else vgo (takeF bs 8).1 (bs.drop (takeF bs 8).2.1) []
theorem vtF_sz :∀(k:Nat) (bs:List UInt8) (acc:List Int),(vgo k bs acc).2.1.length≤bs.length
 |0,bs,acc=>Nat.le_refl _
 |k+1,bs,acc=>by
  rw[vgo_succ]
  split
  ·simp
  ·split
   ·simp
   ·have:=vtF_sz k (bs.drop (takeF bs 18446744073709551615).2.1) (acc++[zzD (takeF bs 18446744073709551615).1])
    rw[List.length_drop] at this;omega
theorem vecD_vt (s:RS):vecD 8 s=if s.bad≠0 then ([],s) else if (vtF s.bs).2.2≠0 then ([],{s with bad:=(vtF s.bs).2.2}) else ((vtF s.bs).1,⟨(vtF s.bs).2.1,0,s.good⟩):=by
 unfold vecD vtF
 by_cases h1:s.bad≠0
 ·rw[if_pos h1,if_pos h1]
 ·rw[if_neg h1,if_neg h1]
  by_cases h2:(takeF s.bs 8).2.2≠0
  ·rw[if_pos h2,if_pos h2]
   dsimp only;rw[if_pos h2]
  ·rw[if_neg h2,if_neg h2]
theorem zzD_w {u:Nat}(h:¬4294967295<u):IntKind.i32.wrap (zzD u)=zzD u:=by
 unfold zzD
 split<;>exact wrap_i32 zo zo
theorem limit_spec (L:HL):CallsS Tryz.prog 154 [.int .i64 8] L (λv L'=>v=.int .u64 8∧L'=L):=by
 refine CallsS.of_body Tryz.func154 rfl rfl rfl ?_;refine Q.r ?_;refine S.y (Y.cvi rfl) ?_;rw[show IntKind.u64.wrap 8=8 by decide];refine Q.r ?_;exact N.t rfl (Ent.refl _) ⟨rfl,rfl⟩
set_option maxRecDepth 100000 in
theorem TakeVec_spec (a:OA)(c:Nat)(bs:List UInt8)(M:OM)(L:HL)[hM:HasM M L](h:SlM M a bs.length 1 (bs.map B))(hc:bs.length≤c)(hb:bs.length≤10000000):
  CallsS Tryz.prog 118 [.slice a bs.length c,.int .i64 8] L (λv L'=>∃va vc ra rc,v=.tuple #[.slice va (vtF bs).1.length vc,.slice ra (vtF bs).2.1.length rc,.int .i64 (vtF bs).2.2]∧SlM M ra (vtF bs).2.1.length 1 ((vtF bs).2.1.map B)∧(vtF bs).2.1.length≤rc∧L'=slO 21 1 va (vtF bs).1.length vc ((vtF bs).1.map I32)::L):=by
 have hT:=RTake_spec a c bs 8 L (h.rd (hm:=hM)) zo;have hsz:=takeF_size bs 8;have hs0:=h.fromA (l:=(takeF bs 8).2.1) hsz hc;rw[Nat.mul_one,←List.map_drop] at hs0;have hn8:(takeF bs 8).2.2=0→(takeF bs 8).1≤8:=λh=>(takeF_inv h).2
 have fail:∀q:Int,vtF bs=([],[],q)→∀v:Value,v=.tuple #[.slice none 0 0,.slice none 0 0,.int .i64 q]→∀L',L'=slO 21 1 none 0 0 []::L→∃va vc ra rc,v=.tuple #[.slice va (vtF bs).1.length vc,.slice ra (vtF bs).2.1.length rc,.int .i64 (vtF bs).2.2]∧SlM M ra (vtF bs).2.1.length 1 ((vtF bs).2.1.map B)∧(vtF bs).2.1.length≤rc∧L'=slO 21 1 va (vtF bs).1.length vc ((vtF bs).1.map I32)::L:=by
  rintro q e _ rfl _ rfl;rw[e];exact ⟨none,0,none,0,rfl,⟨rfl,.inl rfl⟩,Nat.zero_le _,rfl⟩
 have hv0:(takeF bs 8).2.2≠0→vtF bs=([],[],(takeF bs 8).2.2):=λh=>by unfold vtF;rw[if_pos h]
 have hv1:(takeF bs 8).2.2=0→vtF bs=vgo (takeF bs 8).1 (bs.drop (takeF bs 8).2.1) []:=λh=>by unfold vtF;rw[if_neg zo]
 refine CallsS.of_body Tryz.func118 rfl rfl rfl ?_;refine Q.r ?_;refine S.cr rfl (limit_spec _) ?_;rintro _ L2 ⟨rfl,eL⟩;rw[eL];clear eL L2;refine Q.r ?_;refine S.cr rfl hT ?_;rintro _ L2 ⟨rfl,eL⟩;rw[eL];clear eL L2;clear hT;unfold restV;generalize (takeF bs 8).1=n0 at*;generalize (takeF bs 8).2.1=z0 at*;generalize (takeF bs 8).2.2=q0 at*
 by_cases h0:q0=0
 case neg=>
  rw[if_pos h0];refine Q.r ?_;exact N.r3 (RV.tmp rfl (RV.tmp rfl (RV.tmp rfl RV.nil))) slO_nil (fail q0 (hv0 h0) _ rfl _ rfl)
 subst h0;rw[if_neg zo];have hv:=hv1 rfl;have hn:=hn8 rfl;clear hv0 hv1 hn8;obtain ⟨b0,hb0⟩:∃b0,b0=bs.drop z0:=⟨_,rfl⟩;have hb0l:b0.length=bs.length - z0:=by rw[hb0,List.length_drop]
 rw[←hb0] at hv hs0;rw[←hb0l] at hs0 ⊢;have hc0:b0.length≤c - z0:=by omega
 have hbl:b0.length≤10000000:=by omega
 refine Q.r ?_;refine swp_cutB (σ:=List Int×List UInt8×OA×Nat×OA×Nat) (λw=> [(8,.slice w.2.2.1 w.2.1.length w.2.2.2.1),(10,.slice w.2.2.2.2.1 w.1.length w.2.2.2.2.2)])
  (λw=>slO 21 1 w.2.2.2.2.1 w.1.length w.2.2.2.2.2 (w.1.map I32)::L) (λw=>SlM M w.2.2.1 w.2.1.length 1 (w.2.1.map B)∧w.2.1.length≤w.2.2.2.1∧vtF bs=(w.1,w.2.1,0)) ?_ ?_
 ·refine swp_loop (σ:=Nat×List Int×List UInt8×OA×Nat×OA×Nat) (λw=> [(26,.int .u64 n0),(8,.slice w.2.2.2.1 w.2.2.1.length w.2.2.2.2.1),(10,.slice w.2.2.2.2.2.1 w.2.1.length w.2.2.2.2.2.2),(27,.int .u64 w.1)])
   (λw=>slO 21 1 w.2.2.2.2.2.1 w.2.1.length w.2.2.2.2.2.2 (w.2.1.map I32)::L)
   (λw=>w.1≤n0∧w.2.1.length=w.1∧SlM M w.2.2.2.1 w.2.2.1.length 1 (w.2.2.1.map B)∧w.2.2.1.length≤w.2.2.2.2.1∧w.2.2.1.length≤10000000∧vtF bs=vgo (n0 - w.1) w.2.2.1 w.2.1)
   (λw=>n0 - w.1) (0,[],b0,subA a c z0 1,c - z0,none,0) zt eG ⟨Nat.zero_le _,rfl,hs0,hc0,hbl,hv⟩ ?_
  rintro ⟨i,acc,bs',a',c',oa,oc⟩ ⟨hi,hai,hs',hc',hb',hv⟩;dsimp only at hi hai hs' hc' hb' hv ⊢
  by_cases hlt:i<n0
  ·have hz:=takeF_size bs' 18446744073709551615
   have hT:=RTake_spec a' c' bs' 18446744073709551615 (slO 21 1 oa acc.length oc (acc.map I32)::L) (hs'.rd (hm:=HasM.there)) zo;rw[show n0 - i=(n0 - (i+1))+1 by omega,vgo_succ] at hv;have hs2:=hs'.fromA (l:=(takeF bs' 18446744073709551615).2.1) hz hc';rw[Nat.mul_one,←List.map_drop] at hs2;refine Q.r ?_;refine S.cr rfl hT ?_;rintro _ _ ⟨rfl,rfl⟩;clear hT;unfold restV;generalize (takeF bs' 18446744073709551615).1=u at*;generalize (takeF bs' 18446744073709551615).2.1=z at*;generalize (takeF bs' 18446744073709551615).2.2=q at*;have hdl:(bs'.drop z).length=bs'.length - z:=List.length_drop
   by_cases h2:q=0
   case neg=>
    rw[if_pos h2] at hv;rw[if_pos h2];refine Q.r ?_;exact N.r3 (RV.tmp rfl (RV.tmp rfl (RV.tmp rfl RV.nil))) (Ent.trans (M:=L) eG slO_nil) (fail q hv _ rfl _ rfl)
   subst h2;rw[if_neg zo] at hv;rw[if_neg zo,←hdl];rw[←hdl] at hs2
   by_cases h3:4294967295<u
   ·rw[if_pos h3] at hv
    refine Q.r ?_;exact N.r3 (RV.tmp rfl (RV.tmp rfl (RV.tmp rfl RV.nil))) (Ent.trans (M:=L) eG slO_nil) (fail 4 hv _ rfl _ rfl)
   ·rw[if_neg h3] at hv
    have hzw:=zzD_w h3
    by_cases h4:u % 2=1
    ·have hzz:zzD u= -((u / 2:Nat):Int) - 1:=by unfold zzD;rw[if_pos h4]
     refine Q.r ?_;refine S.y (Y.quo rfl rfl zd) ?_;rw[show IntKind.u64.wrap ((u:Int).tdiv 2)=((u / 2:Nat):Int) by rw[show (u:Int).tdiv 2=((u / 2:Nat):Int) from rfl];exact wrap_u64 zo zo];refine S.y (Y.cvi rfl) ?_;rw[show IntKind.i64.wrap ((u / 2:Nat):Int)=((u / 2:Nat):Int) from wrap_i64 zo zo];refine Q.r ?_;refine S.y (Y.rem rfl rfl zd) ?_;rw[show (u:Int).tmod 2=((u % 2:Nat):Int) from rfl,h4];refine Q.r ?_;refine S.y (Y.neg rfl) ?_;rw[show IntKind.i64.wrap (-((u / 2:Nat):Int))= -((u / 2:Nat):Int) from wrap_i64 zo zo];refine S.y (Y.sub rfl rfl) ?_;rw[show IntKind.i64.wrap (-((u / 2:Nat):Int) - 1)=zzD u by rw[hzz];exact wrap_i64 zo zo];refine Q.r ?_;refine S.y (Y.cvi rfl) ?_;rw[hzw];refine Q.r ?_;(repeat (intro b1;refine Q.r ?_));refine S.app rfl rfl (SrcS.sl RdC.row zr zr) zr zo zo (λoa2 oc2=> ?_);refine Q.r ?_;refine S.y (Y.add rfl rfl) ?_;rw[show IntKind.u64.wrap ((i:Int)+1)=(i:Int)+1 from wrap_u64 zo zo];refine Q.r ?_;refine ⟨(i+1,acc++[zzD u],bs'.drop z,subA a' c' z 1,c' - z,oa2,oc2),⟨rfl,rfl,congrArg some (by simp[List.filter_append]),congrArg some (by simp[List.filter_append]),trivial⟩,?_,⟨hlt,by dsimp only;rw[len_snoc,hai],hs2,by dsimp only;omega,by dsimp only;omega,hv⟩,Nat.sub_succ_lt_self n0 i hlt⟩;dsimp only;rw[len_snoc,List.map_append,List.map_cons,List.map_nil];exact eG
    ·have hzz:zzD u=((u / 2:Nat):Int):=by unfold zzD;rw[if_neg h4]
     refine Q.r ?_;refine S.y (Y.quo rfl rfl zd) ?_;rw[show IntKind.u64.wrap ((u:Int).tdiv 2)=((u / 2:Nat):Int) by rw[show (u:Int).tdiv 2=((u / 2:Nat):Int) from rfl];exact wrap_u64 zo zo];refine S.y (Y.cvi rfl) ?_;rw[show IntKind.i64.wrap ((u / 2:Nat):Int)=((u / 2:Nat):Int) from wrap_i64 zo zo];refine Q.r ?_;refine S.y (Y.rem rfl rfl zd) ?_;rw[show (u:Int).tmod 2=((u % 2:Nat):Int) from rfl,show u % 2=0 by omega];refine Q.r ?_;refine S.y (Y.cvi rfl) ?_;rw[←hzz,hzw];refine Q.r ?_;(repeat (intro b1;refine Q.r ?_));refine S.app rfl rfl (SrcS.sl RdC.row zr zr) zr zo zo (λoa2 oc2=> ?_);refine Q.r ?_;refine S.y (Y.add rfl rfl) ?_;rw[show IntKind.u64.wrap ((i:Int)+1)=(i:Int)+1 from wrap_u64 zo zo];refine Q.r ?_;refine ⟨(i+1,acc++[zzD u],bs'.drop z,subA a' c' z 1,c' - z,oa2,oc2),⟨rfl,rfl,congrArg some (by simp[List.filter_append]),congrArg some (by simp[List.filter_append]),trivial⟩,?_,⟨hlt,by dsimp only;rw[len_snoc,hai],hs2,by dsimp only;omega,by dsimp only;omega,hv⟩,Nat.sub_succ_lt_self n0 i hlt⟩;dsimp only;rw[len_snoc,List.map_append,List.map_cons,List.map_nil];exact eG
  ·have hin:i=n0:=by omega
   subst hin;rw[Nat.sub_self] at hv;refine Q.r ?_;exact ⟨(acc,bs',a',c',oa,oc),zt,Ent.refl _,hs',hc',hv⟩
 rintro ⟨acc,bs',a',c',oa,oc⟩ ⟨hs',hc',hv⟩;dsimp only at hs' hc' hv ⊢;refine Q.r ?_;refine N.r3 (RV.tmp rfl (RV.tmp rfl (RV.tmp rfl RV.nil))) (Ent.refl _) ?_;rw[hv];exact ⟨oa,oc,a',c',rfl,hs',hc',rfl⟩
theorem Qcount_spec (r:Nat)(a:OA)(c:Nat)(s:RS)(M:OM)(L:HL)[hM:HasM M L](h:RK M a c s):
  CallsS Tryz.prog 61 [.pointer (some ⟨r,0,none⟩)] (qrS r a c s::L)
   (λv L'=>v=.int .i64 (cntF s).1∧∃a' c',RK M a' c' (cntF s).2∧L'=qrS r a' c' (cntF s).2::L):=by
 have hn:=(rdF_le 1048576 s).1;have hl:=rdF_len 1048576 s;have hb:=h.b;refine CallsS.of_body Tryz.func61 rfl rfl rfl ?_;refine Q.r ?_;refine S.cr rfl (Qnum_spec r a c s 1048576 M L h) ?_;rintro _ _ ⟨rfl,a1,c1,hk1,rfl⟩;unfold cntF;generalize rdF 1048576 s=x at*;obtain ⟨n,z⟩:=x;dsimp only at*;refine Q.r ?_;refine S.y (Y.cvi rfl) ?_;rw[wrap_u64 zo zo]
 by_cases hg:z.bs.length<n
 ·rw[if_pos hg]
  refine Q.r ?_;exact N.t rfl (Ent.refl _) ⟨rfl,a1,c1,⟨hk1.sl,hk1.c,hk1.b⟩,rfl⟩
 ·rw[if_neg hg]
  refine Q.r ?_;refine S.y (Y.cvi rfl) ?_;rw[wrap_i64 zo zo];refine Q.r ?_;exact N.t rfl (Ent.refl _) ⟨rfl,a1,c1,hk1,rfl⟩
theorem Qvec_spec (r:Nat)(a:OA)(c:Nat)(s:RS)(M:OM)(L:HL)[hM:HasM M L](h:RK M a c s):
  CallsS Tryz.prog 62 [.pointer (some ⟨r,0,none⟩)] (qrS r a c s::L)
   (λv L'=>∃va vc a' c',v=.slice va (vecD 8 s).1.length vc∧RK M a' c' (vecD 8 s).2∧L'=slO 21 1 va (vecD 8 s).1.length vc ((vecD 8 s).1.map I32)::qrS r a' c' (vecD 8 s).2::L):=by
 have hb:=h.b;have hsz:(vtF s.bs).2.1.length≤s.bs.length:=by
  unfold vtF
  split
  ·simp
  ·have:=vtF_sz (takeF s.bs 8).1 (s.bs.drop (takeF s.bs 8).2.1) []
   rw[List.length_drop] at this;omega
 have hT:=TakeVec_spec a c s.bs M (qrS r a c s::L) (hM:=HasM.there) h.sl h.c h.b;rw[vecD_vt];generalize vtF s.bs=q at*;obtain ⟨v,b,e⟩:=q;dsimp only at*;refine CallsS.of_body Tryz.func62 rfl rfl rfl ?_;refine Q.r ?_;refine S.cr rfl hT ?_;rintro _ _ ⟨va,vc,ra,rc,rfl,hs,hc,rfl⟩;clear hT
 by_cases he:e=0
 ·by_cases hd:s.bad=0
  ·rw[if_neg zo,if_neg zo]
   refine Q.r ?_;refine N.t rfl ?_ ⟨va,vc,ra,rc,rfl,⟨hs,hc,by dsimp only;omega⟩,rfl⟩
   show Ent _ (slO 21 1 va v.length vc (v.map I32)::qrP r ra b.length rc (decide ((0:Int)=0))::L)
   rw[decide_eq_true hd];exact eG
  ·rw[if_pos hd]
   refine Q.r ?_;refine N.t rfl (Ent.trans (M:=qrP r a s.bs.length c false::L) eG (slO_nil (t:=21) (sz:=1))) ⟨none,0,a,c,rfl,h,?_⟩
   show _=slO 21 1 none 0 0 []::qrP r a s.bs.length c (decide (s.bad=0))::L
   rw[decide_eq_false hd]
 ·by_cases hd:s.bad=0
  ·rw[if_neg zo,if_pos he]
   refine Q.r ?_;refine N.t rfl (Ent.trans (M:=qrP r a s.bs.length c false::L) eG (slO_nil (t:=21) (sz:=1))) ⟨none,0,a,c,rfl,⟨h.sl,h.c,h.b⟩,?_⟩
   show _=slO 21 1 none 0 0 []::qrP r a s.bs.length c (decide (e=0))::L
   rw[decide_eq_false he]
  ·rw[if_pos hd]
   refine Q.r ?_;refine N.t rfl (Ent.trans (M:=qrP r a s.bs.length c false::L) eG (slO_nil (t:=21) (sz:=1))) ⟨none,0,a,c,rfl,h,?_⟩
   show _=slO 21 1 none 0 0 []::qrP r a s.bs.length c (decide (s.bad=0))::L
   rw[decide_eq_false hd]
theorem RNewO_spec (sf dim:Int)(L:HL):
  CallsS Tryz.prog 6 [.int .i64 sf,.int .i64 dim] L (λr L'=>∃p v,r=.pointer (some ⟨p,0,none⟩)∧L'=rjP p sf v none [] 0 none [] 0::refH v (VS0 dim)::L):=by
 refine CallsS.of_body Tryz.func6 rfl rfl rfl ?_;refine Q.r ?_;(repeat (intro b1;refine Q.r ?_));rename_i b0;refine N.t rfl ?_ ⟨b1,b0,rfl,rfl⟩;refine Ent.trans (M:=rP b0 dim none [] 0 none [] 0 0::roM (λ_=>none)::rjP b1 sf b0 none [] 0 none [] 0::L) eG ?_;refine Ent.trans (ref_shut (p:=b0) (st:=⟨dim,[],[],0⟩) (es:=[]) (is:=[]) (a:=none) (a':=none) (c:=0) (c':=0) ⟨by simp,by simp,by simp,by simp,by simp,by simp,⟨rfl,.inl rfl⟩,⟨rfl,.inl rfl⟩,by simp,by simp,by simp[keysOK],by simp[keysOK],by simp⟩) ?_;exact Ent.perm (.swap _ _ _)
end Go.Proofs.YtjlgabojhnnbaaaGreatDoor
