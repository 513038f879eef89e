/- The juror's Pack: what lasts, as bytes; keys, finished. The juror's numbers aren't too great, whatever comes. The juror's Pack, walked. JurorAgain: the walk. Readings opened: from what the arguments read as to cells that stay; rows. The readings of the vault's ops. The readings of the vault's steps. The readings of the juror's notes; the table of the kinds. The table of the kinds: from what the row lists to its cells. A map that is ranged over while keys of it are deleted. The judge: what it is, as it lies; its small functions. What follows behind a call, by what lies there. The judge: what it plans for a vote, an acknowledgement, a probe. The judge: its plans and its records as laws of states. copy; append of zeros onto a slice that is full. slices.Sort at a few numbers of type int: insertionSort alone. slices.BinarySearch, slices.Insert at numbers of type int; the judge's put. The judge: what it plans for a vote. JudgeOnce: the law, of states alone. The judge: the parts of ops, a part's Prepare. Regions that draw an order: an operation that writes may read what is held, and give it back. The judge: what it plans for an Ask. The judge: Plan. The judge: a trial more; a part that has said so. The judge: said, commit. The judge: commit. The judge: Apply. The judge: reign (maps.DeleteFunc), and Apply whole. The ref's judge: as it lies. The ref's judge: its small functions. The judge: what it always is stays so. The judge: its transactions, rising. The judge: Trials. The judge: Quit. The judge: the law's example. The law's script, as a function of what the judge is. The ref's judge: what it plans for an ask. The ref's judge: what it plans. What a script does to a judge; giving up. The judge: Wake. The ref's judge: Wake, Quit. The judge: Pack. The ref's judge: Pack. No condition. -/
import Derived.ReadAgain
import Derived.ChangeArms
import Derived.WideShapes
import Derived.KernelRfl
import Derived.Test.YtjlgabojhnnbaaaGreatDoorRows
import Derived.WalkKit
import Derived.ProofKit
import Derived.OpenShut
import Derived.DataShut
import Derived.Test.YtjlgabojhnnbaaaGreatDoorCards
import Derived.Test.YtjlgabojhnnbaaaGreatDoorTie
import Derived.Deep.DeepHandedRow
import Derived.Lib.LaidTab
import Derived.Lib.AppendZerosOnto
import Derived.Lib.Overlaps
import Derived.Test.YtjlgabojhnnbaaaGreatDoorPk08
set_option linter.unusedVariables false
set_option linter.unusedSimpArgs false
set_option linter.unusedSectionVars false
set_option maxHeartbeats 8000000
namespace Go.Proofs.YtjlgabojhnnbaaaGreatDoor
open Go Go.SX
attribute [local irreducible] swp opsS thenS blockS retS CallsS St Ent YieldS anyS drawS
attribute [local irreducible] opsI
theorem KeysU_spec {α:Type}(rr:α→Value)(bm b:Nat)(m:List (Int×α))(A:HL):SeqS Tryz.prog 150 [.pointer (some ⟨bm,0,none⟩)] U64 m.length (λks=>ks.Perm (m.map (·.1)))
  (pt bm (cl [.map (some b)] 61)::mpO U64 rr b m::A) (mpO U64 rr b m::A):=by
 intro l J hJ;refine CallsS.of_body Tryz.func150 rfl rfl rfl ?_;refine Q.r ?_;refine S.rg rfl (λr=> ?_);refine Q.r ?_;refine swp_loop (σ:=List Nat) (λvis=> [(0,.func (.yield l) #[] #[]),(5,.pointer (some ⟨r,0,none⟩))])
  (λvis=>J (vis.filterMap λi=>(m[i]?).map (·.1))::itO U64 rr b r m vis::A) (λvis=>vis.Nodup∧∀i∈vis,i<m.length) (λvis=>m.length - vis.length) [] zt (by simp only[List.filterMap_nil];exact eG) ⟨by simp,by simp⟩ ?_
 rintro vis ⟨hv1,hv2⟩;refine Q.r ?_;refine S.nx rfl (λhend=> ?_) (λi p hp hi=> ?_)
 ·refine Q.r ?_
  exact N.n0 RV.nil (Ent.cons itO_map) ⟨_,vis_map _ hv1 hv2 hend,rfl⟩
 ·have hil:i<m.length:=(List.getElem?_eq_some_iff.1 hp).1
  obtain ⟨hm1,hm2,hm3⟩:=vis_more hv1 hv2 hil hi;have hvl:(vis.filterMap λi=>(m[i]?).map (·.1)).length≤vis.length:=List.length_filterMap_le _ _;have happ:((vis++[i]).filterMap λi=>(m[i]?).map (·.1))=(vis.filterMap λi=>(m[i]?).map (·.1))++[p.1]:=by
   rw[List.filterMap_append];simp[hp]
  refine Q.r ?_;refine S.y (Y.en rfl hp) ?_;refine S.y (Y.ext rfl rfl) ?_;refine S.y (Y.as rfl) ?_;refine opsS_nil ?_;refine N.tn ?_;refine swp_seq ?_;refine swp_regionI ?_;refine opsI_one (λ_ h=>by cases h) rfl ?_;refine Q.r ?_;refine opsI_one (λ_ h=>by cases h) rfl ?_;refine Q.r ?_;refine opsI_yield rfl rfl ((hJ _ p.1 zo).frame (R:=_)) ?_;refine opsI_one (λ_ h=>by cases h) rfl ?_;refine Q.r ?_;refine opsI_nil ?_;refine Q.r ?_;refine ⟨vis++[i],zt,?_,⟨hm1,hm2⟩,by simp;omega⟩;rw[happ];exact eG
theorem MapKeysU_spec (mo:Option Nat)(L:HL):CallsS Tryz.prog 109 [.map mo] L
  (λv L'=>∃bm,v=.func (.func 150) #[] [.pointer (some ⟨bm,0,none⟩)].toArray∧L'=pt bm (cl [.map mo] 61)::L):=by
 refine CallsS.of_body Tryz.func109 rfl rfl rfl ?_;refine Q.r ?_;(repeat (intro b1;refine Q.r ?_));refine S.y (Y.mf rfl rfl) ?_;refine Q.r ?_;exact N.t rfl (Ent.refl _) ⟨_,rfl,rfl⟩
theorem JFin_spec (M:OM)(p:Nat)(j:JS)(L:HL)(hn:j.done.length≤1000000):
  CallsS Tryz.prog 42 [ptrJ p] (jurH M p j::L) (λr L'=>∃a c,r=.slice a j.done.length c∧L'=slO 31 1 a j.done.length c ((sortL (j.done.map (·.1))).map U64)::jurH M p j::L):=by
 refine calls_jur λv mp md self ps hq=> ?_
 refine CallsS.of_body Tryz.func42 rfl rfl rfl ?_;refine Q.r ?_;refine S.cr rfl (MapKeysU_spec (some md) _) ?_;rintro _ _ ⟨bm,rfl,rfl⟩;refine Q.r ?_;refine opsS_ent (L':=pt bm (cl [.map (some md)] 61)::jD md j.done::jP p v self j.v.dim mp md::vaultH v j.v::jT mp ps::L) eG ?_;have hs:=KeysU_spec U64 bm md j.done (jP p v self j.v.dim mp md::vaultH v j.v::jT mp ps::L);refine S.cr rfl (Sorted_spec _ _ (j.done.map (·.1)) _ _ (by rw[List.length_map];omega) (by rw[List.length_map];exact hs)) ?_;rintro _ _ ⟨a,c,rfl,rfl⟩;refine Q.r ?_;rw[List.length_map];refine N.t rfl (Ent.cons ?_) ⟨a,c,rfl,rfl⟩;refine Ent.trans (jclose (p:=p) (v:=v) (sf:=self) (dim:=j.v.dim) (mp:=mp) (md:=md) (j:=j) (ps:=ps) hq rfl) ?_;exact eG
theorem JIntentsS_spec (M:OM)(p:Nat)(j:JS)(n:Nat)(L:HL)(hw:WF j.v n)(hn:n≤10000):
  CallsS Tryz.prog 38 [ptrJ p] (jurH M p j::roM M::L) (λr L'=>∃(a:OA) (c:Nat) (es:List IV) (M':OM),r=.slice a es.length c∧leM M M'∧SlM M' a es.length 3 (es.flatMap IV.cells)∧(∀e∈es,okI M' e)∧(es.map IV.abs).Perm j.v.its∧(es.map (·.txn)).Pairwise (· < ·)∧L'=jurH M' p j::roM M'::L):=by
 refine calls_jur λv mp md self ps hq=> ?_
 refine CallsS.of_body Tryz.func38 rfl rfl rfl ?_;refine Q.r ?_;refine S.cr rfl (vaultOf_spec p v self j.v.dim mp md _) ?_;rintro _ _ ⟨rfl,rfl⟩;refine Q.r ?_;refine S.cv v rfl (IntentsO_spec v j.v n _ hw hn) ?_;rintro _ _ ⟨a,c,es,rfl,hp,hs,rfl⟩;refine opsS_abs a (λM1 hl1 hs1=> ?_);refine opsS_absI es (λM2 hl2 hs2=> ?_);refine Q.r ?_;refine N.t rfl (Ent.trans (M:=jP p v self j.v.dim mp md::vaultH v j.v::jT mp ps::jD md j.done::roM M2::L) eG (jur_shut (hq.mono (hl1.trans hl2)) rfl)) ⟨a,c,es,M2,rfl,hl1.trans hl2,hs1.mono hl2,hs2,hp,hs,rfl⟩
theorem JDumpS_spec (M:OM)(p:Nat)(j:JS)(n:Nat)(L:HL)(hw:WF j.v n)(hn:n≤10000):
  CallsS Tryz.prog 37 [ptrJ p] (jurH M p j::roM M::L) (λr L'=>∃(a:OA) (c:Nat) (es:List EV) (M':OM),r=.slice a es.length c∧leM M M'∧SlM M' a es.length 2 (es.flatMap EV.cells)∧(∀e∈es,okE M' e)∧(es.map EV.abs).Perm j.v.ch∧(es.map (·.id)).Pairwise (· < ·)∧L'=jurH M' p j::roM M'::L):=by
 refine calls_jur λv mp md self ps hq=> ?_
 refine CallsS.of_body Tryz.func37 rfl rfl rfl ?_;refine Q.r ?_;refine S.cr rfl (vaultOf_spec p v self j.v.dim mp md _) ?_;rintro _ _ ⟨rfl,rfl⟩;refine Q.r ?_;refine S.cv v rfl (DumpO_spec v j.v n _ hw hn) ?_;rintro _ _ ⟨a,c,es,rfl,hp,hs,rfl⟩;refine opsS_abs a (λM1 hl1 hs1=> ?_);refine opsS_absE es (λM2 hl2 hs2=> ?_);refine Q.r ?_;refine N.t rfl (Ent.trans (M:=jP p v self j.v.dim mp md::vaultH v j.v::jT mp ps::jD md j.done::roM M2::L) eG (jur_shut (hq.mono (hl1.trans hl2)) rfl)) ⟨a,c,es,M2,rfl,hl1.trans hl2,hs1.mono hl2,hs2,hp,hs,rfl⟩
def srtM {α:Type}(m:List (Int×α)):List (Int×α):=(sortL (m.map (·.1))).filterMap λk=>(lkL m k).map λa=>(k,a)
theorem srt_eq {α:Type}{m es:List (Int×α)}(hk:keysOK m)(hp:es.Perm m)(hs:(es.map (·.1)).Pairwise (· < ·)):es=srtM m:=by
 have h1:es.map (·.1)=sortL (m.map (·.1)):=sorted_uniq ((hp.map _).trans (sortL_perm _).symm) (hs.imp (λh=>Int.le_of_lt h)) (sortL_sorted _);unfold srtM;rw[←h1];have h2:∀u∈es,lkL m u.1=some u.2:=λu hu=>(lkL_iff hk).2 (hp.mem_iff.1 hu)
 clear h1 hs hp
 induction es with
 |nil=>rfl
 |cons u es ih=>
  rw[List.map_cons,List.filterMap_cons,h2 u (by simp)];dsimp only[Option.map_some];rw[←ih (λw hw=>h2 w (List.mem_cons_of_mem _ hw))]
abbrev packVer (v:Int×List Int):List UInt8:=numI v.1++vecI v.2
abbrev packEnt (e:Int×VL):List UInt8:=numI e.1++numI (e.2.length:Int)++e.2.flatMap packVer
abbrev packPart (x:Int):List UInt8:=numI (IntKind.u64.wrap x)
abbrev packInt (parts:List (Int×List Int))(i:Int×Int×VL):List UInt8:=numI i.1++numI i.2.1++numI (((lkL parts i.1).getD []).length:Int)++((lkL parts i.1).getD []).flatMap packPart++numI (i.2.2.length:Int)++i.2.2.flatMap packVer
abbrev packDone (done:List (Int×Int))(t:Int):List UInt8:=numI t++numI ((lkL done t).getD 0)
def packV (j:JS):List UInt8:=
 numI j.v.mark++numI ((srtM j.v.ch).length:Int)++(srtM j.v.ch).flatMap packEnt++numI ((srtM j.v.its).length:Int)++(srtM j.v.its).flatMap (packInt j.parts)++numI (j.done.length:Int)++(sortL (j.done.map (·.1))).flatMap (packDone j.done)
end Go.Proofs.YtjlgabojhnnbaaaGreatDoor
namespace Go.Proofs.YtjlgabojhnnbaaaGreatDoor
open Go Go.SX
structure JPK (j:JS):Prop where
 m:j.v.mark≤18446744073709551615
 its:∀i∈j.v.its,i.1≤18446744073709551615∧i.2.1≤18446744073709551615∧∀o∈i.2.2,o.1≤18446744073709551615
 ch:∀c∈j.v.ch,c.1≤18446744073709551615∧∀v∈c.2,v.1≤18446744073709551615
 done:∀d∈j.done,d.1≤18446744073709551615∧d.2≤18446744073709551615
 parts:∀u∈j.parts,u.2.length≤4
theorem JPK.zero {dim:Int}:JPK ⟨⟨dim,[],[],0⟩,[],[]⟩:=⟨by show (0:Int)≤18446744073709551615;decide,(λi hi=>by cases hi),(λi hi=>by cases hi),(λi hi=>by cases hi),(λi hi=>by cases hi)⟩
theorem right_ops {n:NA}(h:rightN n=true):n.parts.length≤4∧∀o∈n.ops,o.1≤1099511627776:=by
 unfold rightN boundN at h;simp only[Bool.and_eq_true,Bool.not_eq_true',Bool.or_eq_false_iff,decide_eq_false_iff_not,List.any_eq_false] at h;refine ⟨by have:=h.2.1.1.1.2.1.1.1;omega,λo ho=> ?_⟩;have h4:=h.2.1.2 o ho;unfold badOp at h4;rw[Bool.not_eq_true,Bool.or_eq_false_iff,decide_eq_false_iff_not] at h4;omega
theorem putL_mem {κ α:Type}[DecidableEq κ]{m:List (κ×α)}{k:κ}{a:α}{x:κ×α}(h:x∈putL m k a):x∈m∨x=(k,a):=by
 unfold putL at h
 split at h
 ·obtain ⟨u,hu,rfl⟩:=List.mem_map.1 h
  split
  ·exact .inr rfl
  ·exact .inl hu
 ·rcases List.mem_append.1 h with h|h
  ·exact .inl h
  ·exact .inr (List.mem_singleton.1 h)
theorem sw1_mem {s:Int}{u:List (Int×VL)×GL}{id:Int}{c:Int×VL}(h:c∈(sw1 s u id).1):∃c0∈u.1,c.1=c0.1∧∀v∈c.2,v∈c0.2:=by
 unfold sw1 at h;dsimp only at h
 split at h
 ·exact ⟨c,(List.mem_filter.1 h).1,rfl,λv hv=>hv⟩
 ·rename_i h0
  rcases putL_mem h with h|rfl
  ·exact ⟨c,h,rfl,λv hv=>hv⟩
  ·cases hz:lkL u.1 id with
   |none=>
    exfalso
    apply h0;unfold chV;rw[hz];simp
   |some w=>
    refine ⟨_,lk_memL hz,rfl,λv hv=> ?_⟩;have e:chV u.1 id=w:=by unfold chV;rw[hz];rfl
    rw[e] at hv;exact List.mem_of_mem_drop hv
theorem swF_mem {s:Int}{c:Int×VL}:∀{ks:List Int} {u:List (Int×VL)×GL},c∈(ks.foldl (sw1 s) u).1→∃c0∈u.1,c.1=c0.1∧∀v∈c.2,v∈c0.2
 | [],_,h=>⟨c,h,rfl,λv hv=>hv⟩
 |k::ks,u,h=>by
  obtain ⟨c1,h1,e1,g1⟩:=swF_mem (ks:=ks) h;obtain ⟨c0,h0,e0,g0⟩:=sw1_mem h1;exact ⟨c0,h0,e1.trans e0,λv hv=>g0 v (g1 v hv)⟩
theorem JPK.app {j:JS}{k:Nat}(hj:JOW j k)(h:JPK j){n:NA}(u:NumA n):JPK (appS j n):=by
 have u1:=u.txn;have u2:=u.after;have u3:=u.stamp;unfold appS
 split
 ·exact h
 rename_i hE;have hE:appE j n=0:=Decidable.not_not.1 hE;have hr:rightN n=true:=by
  cases hz:rightN n with
  |true=>rfl
  |false=>unfold appE at hE;rw[if_pos hz] at hE;cases hE
 have hro:=right_ops hr;unfold appE at hE;rw[if_neg (by rw[hr];decide)] at hE
 split
 ·refine ⟨?_,λi hi=> ?_,?_,h.done,λv hv=> ?_⟩
  ·dsimp only;unfold lockS;split<;>exact h.m
  ·dsimp only at hi
   unfold lockS at hi
   split at hi
   ·rcases List.mem_append.1 hi with hi|hi
    ·exact h.its i hi
    ·rw[List.mem_singleton.1 hi]
     exact ⟨u1.2,u2.2,λo ho=>by have:=hro.2 o ho;omega⟩
   ·exact h.its i hi
  ·dsimp only;unfold lockS;split<;>exact h.ch
  ·rcases putL_mem hv with hv|rfl
   ·exact h.parts v hv
   ·exact hro.1
 rename_i c1;rw[if_neg c1] at hE
 split
 ·rename_i c2
  rw[if_pos c2] at hE;obtain ⟨i,hi⟩:=applyE_held hE;have hSv:applyS j.v n.txn n.stamp={j.v with ch:=applyC n.stamp j.v.ch i.2,its:=delL j.v.its n.txn}:=by unfold applyS;rw[hi];dsimp only;rw[if_pos hE]
  refine ⟨?_,?_,?_,λd hd=> ?_,λv hv=>h.parts v (List.mem_filter.1 hv).1⟩
  ·rw[hSv];exact h.m
  ·rw[hSv];exact λi hi=>h.its i (List.mem_filter.1 hi).1
  ·rw[hSv]
   intro c hc;have hii:=h.its _ (lk_memL hi)
   rcases applyC_mem hj.w.k1 (hj.w.wf.io _ (lk_memL hi)).2.1 hc with hc|⟨o,ho,rfl⟩
   ·exact h.ch c hc
   ·refine ⟨hii.2.2 o ho,λv hv=> ?_⟩
    rcases List.mem_append.1 hv with hv|hv
    ·unfold chV at hv
     cases hz:lkL j.v.ch o.1 with
     |none=>rw[hz] at hv;cases hv
     |some w=>rw[hz] at hv;exact (h.ch _ (lk_memL hz)).2 v hv
    ·rw[List.mem_singleton.1 hv];exact u3.2
  ·rcases putL_mem hd with hd|rfl
   ·exact h.done d hd
   ·exact ⟨u1.2,u3.2⟩
 split
 ·exact ⟨h.m,λi hi=>h.its i (List.mem_filter.1 hi).1,h.ch,h.done,λv hv=>h.parts v (List.mem_filter.1 hv).1⟩
 split
 ·refine ⟨?_,?_,?_,h.done,h.parts⟩
  ·have:=h.m
   dsimp only;unfold sweepS
   split<;>(try dsimp only)<;>omega
  ·dsimp only
   unfold sweepS
   split<;>exact h.its
  ·dsimp only
   unfold sweepS
   split
   ·exact h.ch
   ·intro c hc
    obtain ⟨c0,h0,e0,g0⟩:=swF_mem (u:=(j.v.ch,[])) hc;have:=h.ch c0 h0;exact ⟨by rw[e0];exact this.1,λv hv=>this.2 v (g0 v hv)⟩
 ·exact h
theorem JPK.step {j:JS}{k:Nat}(hj:JOW j k)(h:JPK j){n:NA}(u:NumA n)(f:Int)(w raw:Bool):JPK (stepS j f n w raw):=by
 have z0:(0:Int)≤0∧(0:Int)≤18446744073709551615:=by decide
 have z1:(0:Int)≤9223372036854775807:=by decide
 unfold stepS
 split
 ·exact h.app hj u
 split
 ·rcases plan_one hj u.txn.1 f with he|⟨r,he,_,_,_,hr⟩
  ·rw[he];exact h
  ·rw[he,foldl_one]
   refine h.app hj ?_
   rcases hr with ⟨rfl,_⟩|rfl|rfl
   ·exact ⟨by show (0:Int)≤12∧(12:Int)≤255;decide,u.txn,u.batch,u.stamp,u.after,u.mark,u.query,u.id,u.k,u.ef,u.code,u.who⟩
   ·exact ⟨by show (0:Int)≤13∧(13:Int)≤255;decide,u.txn,z0,u.stamp,z0,z0,z0,z0,z1,z1,z1,z1⟩
   ·exact ⟨by show (0:Int)≤14∧(14:Int)≤255;decide,u.txn,z0,z0,z0,z0,z0,z0,z1,z1,z1,z1⟩
 ·exact h
end Go.Proofs.YtjlgabojhnnbaaaGreatDoor
namespace Go.Proofs.YtjlgabojhnnbaaaGreatDoor
open Go Go.SX
attribute [local irreducible] swp opsS thenS blockS retS CallsS St Ent YieldS anyS drawS
theorem flat_le {α:Type}{f:α→List UInt8}{c:Nat}:∀{l:List α},(∀x∈l,(f x).length≤c)→(l.flatMap f).length≤l.length*c
 | [],_=>by simp
 |x::l,h=>by
  have h1:=h x (by simp);have h2:=flat_le (f:=f) (c:=c) (l:=l) (λy hy=>h y (List.mem_cons_of_mem _ hy));rw[List.flatMap_cons,List.length_append,List.length_cons,Nat.succ_mul];omega
theorem vecI_len {v:List Int}(h:v.length≤8):(vecI v).length≤90:=by
 unfold vecI;have h1:=numI_len (z:=(v.length:Int)) zo;have h2:(v.flatMap λn=>numI (zzI n)).length≤v.length*10:=flat_le λn _=>numI_len (u64_le _)
 rw[List.length_append];omega
theorem packVer_len {v:Int×List Int}(h:v.1≤18446744073709551615)(h2:v.2.length≤8):(packVer v).length≤100:=by
 have:=numI_len h;have:=vecI_len h2;rw[List.length_append];omega
theorem take_le {α:Type}{l:List α}{f:α→List UInt8}{c:Nat}(k:Nat)(h:∀x∈l,(f x).length≤c):((l.take k).flatMap f).length≤l.length*c:=by
 refine Nat.le_trans (flat_le λx hx=>h x (List.mem_of_mem_take hx)) (Nat.mul_le_mul_right c (by rw[List.length_take];omega))
theorem flat1 {α:Type}{l:List α}{k:Nat}{x:α}{f:α→List UInt8}(h:l[k]? =some x):(l.take (k+1)).flatMap f=(l.take k).flatMap f++f x:=by rw[take_snoc h,List.flatMap_append];simp
theorem RdS.row1 {L:HL}{b n:Nat}{l:List Value}{t:TypeId}[h:FindB b L (cl l t)](hl:l.length=n):RdS L (some ⟨b,0,none⟩) n 1 l:=⟨by rw[hl,Nat.mul_one],.inr ⟨b,0,rfl,RdC.row⟩⟩
theorem wH_new {w:Nat}{L:HL}:Ent (pt w (cl [.slice none 0 0] 113)::L) (wH w []::L):=Ent.trans (Ent.cons slO_nil) (wH_shut (a:=none) (c:=0) (bs:=[]))
theorem parts_of {M:OM}{j:JS}{sf:Int}{ps:List (Int×PV)}(h:JQ M j sf ps)(t:Int):
  ∃(a:OA) (c:Nat) (l:List Int),((lkL ps t=none∧a=none∧c=0∧l=[])∨∃v,lkL ps t=some v∧a=v.a∧c=v.c∧l=v.l)∧(lkL j.parts t).getD []=l∧SlM M a l.length 1 (l.map I64):=by
 have e:lkL j.parts t=(lkL ps t).map (·.l):=by
  rw[←h.pt];unfold lkL;rw[List.find?_map,Option.map_map,Option.map_map];rfl
 cases hz:lkL ps t with
 |none=>
  rw[hz] at e;exact ⟨none,0,[],.inl ⟨rfl,rfl,rfl,rfl⟩,by rw[e];rfl,SlM.nil0⟩
 |some v=>
  rw[hz] at e;exact ⟨v.a,v.c,v.l,.inr ⟨v,rfl,rfl,rfl,rfl⟩,by rw[e];rfl,h.ok _ (lk_memL hz)⟩
theorem len6 {a b c d e f:List UInt8}(ha:a.length≤10)(hb:b.length≤10)(hc:c.length≤10)(hd:d.length≤40)(he:e.length≤10)(hf:f.length≤1600):(a++b++c++d++e++f).length≤2000:=by
 simp only[List.length_append];omega
theorem Ycast {P:Program}{n:Nat}{ops:List Oper}{o:Oper}{f:Env}{A:HL}{v v':Value}(h:YieldS P n ops o f A v)(e:v=v'):YieldS P n ops o f A v':=e▸h
theorem JPack_spec (M:OM)(p:Nat)(j:JS)(k:Nat)(L:HL)(hj:JOW j k)(hk:k≤1000)(hb:JPK j):
  CallsS Tryz.prog 9 [ptrJ p] (jurH M p j::roM M::L) (λr L'=>∃(a:OA) (c:Nat) (M':OM),r=.slice a (packV j).length c∧leM M M'∧L'=slO 5 1 a (packV j).length c ((packV j).map B)::jurH M' p j::roM M'::L):=by
 refine CallsS.of_body Tryz.func9 rfl rfl rfl ?_;refine Q.r ?_;(repeat (intro b1;refine Q.r ?_));revert b1;intro bw;refine opsS_ent wH_new ?_;refine Q.r ?_;refine S.cj p rfl (JDumpS_spec M p j k _ hj.w.wf zo) ?_;rintro _ _ ⟨ea,ec,es,M1,rfl,hl1,hsE,hoE,hpE,hsrtE,rfl⟩;have hE:es.map EV.abs=srtM j.v.ch:=srt_eq hj.w.k1 hpE (by rw[List.map_map];exact hsrtE);have hel:es.length≤16000:=by
  have:=hpE.length_eq;rw[List.length_map] at this;have h2:=hj.w.wf.cl;omega
 have hin:∀e∈es,e.abs∈j.v.ch:=λe he=>hpE.mem_iff.1 (List.mem_map_of_mem (f:=EV.abs) he)
 have hvl:∀e∈es,e.vs.length≤1000∧e.id≤18446744073709551615∧∀v∈e.vs,v.id≤18446744073709551615∧v.vec.length≤8:=λe he=>by
  have h1:=hj.w.wf.co _ (hin e he);have h2:=hb.ch _ (hin e he);have h3:=h1.2.1;rw[List.length_map] at h3;exact ⟨by omega,h2.1,λv hv=>⟨h2.2 v.abs (List.mem_map_of_mem hv),h1.2.2 v.abs (List.mem_map_of_mem hv)⟩⟩
 have hpe:∀e∈es,(packEnt e.abs).length≤100020:=λe he=>by
  have h1:=hvl e he;have h2:(numI e.abs.1).length≤10:=numI_len h1.2.1;have h3:=numI_len (z:=(e.abs.2.length:Int)) (by rw[List.length_map];omega);have h4:(e.abs.2.flatMap packVer).length≤e.abs.2.length*100:=flat_le λv hv=>by
   obtain ⟨u,hu,rfl⟩:=List.mem_map.1 hv;exact packVer_len (h1.2.2 u hu).1 (h1.2.2 u hu).2
  have h5:e.abs.2.length≤1000:=by rw[List.length_map];exact h1.1
  rw[List.length_append,List.length_append];generalize (e.abs.2.flatMap packVer).length=q1 at h4 ⊢;generalize (numI e.abs.1).length=q2 at h2 ⊢;generalize (numI (e.abs.2.length:Int)).length=q3 at h3 ⊢;omega
 refine Q.r ?_;refine S.cjn p rfl (JMark_spec M1 p j _) ?_;rintro _ _ ⟨rfl,rfl⟩;refine Q.r ?_;refine S.y (Y.cvi rfl) ?_;rw[wrap_u64 zo zo];refine Q.r ?_;(repeat (intro b1;refine Q.r ?_));refine S.c1 rfl (wNums_spec bw [] (some ⟨b1,0,none⟩) 2 [j.v.mark,(es.length:Int)] _ (RdS.row1 rfl) (by intro z hz;have:=hb.m;rcases (by simpa using hz:z=j.v.mark∨z=(es.length:Int)) with rfl|rfl<;>omega) (by simp)) ?_;rintro _ _ ⟨rfl,rfl⟩;have e0:[]++[j.v.mark,(es.length:Int)].flatMap numI=numI j.v.mark++numI ((srtM j.v.ch).length:Int):=by
  rw[←hE,List.length_map];simp
 rw[e0];have hH0:(numI j.v.mark++numI ((srtM j.v.ch).length:Int)).length≤20:=by
  have h1:=numI_len hb.m;have h2:=numI_len (z:=((srtM j.v.ch).length:Int)) (by rw[←hE,List.length_map];omega);rw[List.length_append];omega
 obtain ⟨H0,hH0e⟩:∃H0,H0=numI j.v.mark++numI ((srtM j.v.ch).length:Int):=⟨_,rfl⟩;rw[←hH0e] at hH0 ⊢;refine Q.r ?_;refine swp_cutB (σ:=Unit) (λ_=> [(0,ptrJ p),(3,.pointer (some ⟨bw,0,none⟩))]) (λ_=>wH bw (H0++es.flatMap λe=>packEnt e.abs)::jurH M1 p j::roM M1::L) (λ_=>True) ?_ ?_
 ·refine swp_loop (σ:=Nat) (λi=> [(0,ptrJ p),(3,.pointer (some ⟨bw,0,none⟩)),(32,.slice ea es.length ec),(33,.int .i64 es.length),(34,.int .i64 i)]) (λi=>wH bw (H0++(es.take i).flatMap λe=>packEnt e.abs)::jurH M1 p j::roM M1::L)
   (λi=>i≤es.length) (λi=>es.length - i) 0 zt (by simp only[List.take_zero,List.flatMap_nil,List.append_nil];exact eG) zo ?_
  intro i hi
  by_cases hlt:i<es.length
  ·obtain ⟨e,he⟩:=mem_get hlt
   have hme:e∈es:=List.mem_of_getElem? he;have hev:=hvl e hme;obtain ⟨b5,o5,hia5,cr5⟩:=SlM.cm (g:=EV.cells) (λ_=>rfl) hsE he rfl;have hXl:((es.take i).flatMap λe=>packEnt e.abs).length≤es.length*100020:=take_le i hpe;generalize hX:((es.take i).flatMap λe=>packEnt e.abs)=X at hXl ⊢;rw[hia5];refine Q.r ?_;(repeat (intro b1;refine Q.r ?_));refine S.y (Y.cvi rfl) ?_;rw[wrap_u64 zo zo];refine Q.r ?_;(repeat (intro b1;refine Q.r ?_));refine S.c1 rfl (wNums_spec bw (H0++X) (some ⟨b1,0,none⟩) 2 [e.id,(e.vs.length:Int)] _ (RdS.row1 rfl) (by intro z hz;rcases (by simpa using hz:z=e.id∨z=(e.vs.length:Int)) with rfl|rfl<;>omega) (by rw[List.length_append];simp only[List.length_cons,List.length_nil];omega)) ?_;rintro _ _ ⟨rfl,rfl⟩;have hYl:((numI e.id++numI (e.vs.length:Int))).length≤20:=by
    have h1:=numI_len hev.2.1;have h2:=numI_len (z:=(e.vs.length:Int)) zo;rw[List.length_append];omega
   have e1:H0++X++[e.id,(e.vs.length:Int)].flatMap numI=H0++X++(numI e.id++numI (e.vs.length:Int)):=by simp
   rw[e1];generalize hY:numI e.id++numI (e.vs.length:Int)=YY at hYl ⊢;refine Q.r ?_;refine swp_loop (σ:=Nat) (λm=> [(0,ptrJ p),(3,.pointer (some ⟨bw,0,none⟩)),(32,.slice (some ⟨b5,o5,none⟩) es.length ec),(33,.int .i64 es.length),(34,.int .i64 i),(48,.slice e.a e.vs.length e.c),(49,.int .i64 e.vs.length),(50,.int .i64 m)])
    (λm=>wH bw (H0++X++YY++(e.vs.take m).flatMap λv=>packVer v.abs)::jurH M1 p j::roM M1::L) (λm=>m≤e.vs.length) (λm=>e.vs.length - m) 0 zt (by simp only[List.take_zero,List.flatMap_nil,List.append_nil];exact eG) zo ?_
   intro m hm
   by_cases hmt:m<e.vs.length
   ·obtain ⟨v,hv⟩:=mem_get hmt
    have hmv:v∈e.vs:=List.mem_of_getElem? hv;have hvv:=hev.2.2 v hmv;have hrv:SlM M1 v.a v.vec.length 1 (v.vec.map I32):=(hoE e hme).2 v hmv;obtain ⟨b6,o6,hia6,cr6⟩:=SlM.cm (g:=OV.cells) (λ_=>rfl) (hoE e hme).1 hv rfl;have hZl:((e.vs.take m).flatMap λv=>packVer v.abs).length≤e.vs.length*100:=take_le m (λu hu=>packVer_len (hev.2.2 u hu).1 (hev.2.2 u hu).2);have hnx:(e.vs.take (m+1)).flatMap (λv=>packVer v.abs)=(e.vs.take m).flatMap (λv=>packVer v.abs)++packVer v.abs:=flat1 hv;generalize hZ:((e.vs.take m).flatMap λv=>packVer v.abs)=Z at hZl hnx ⊢;have hn1:=numI_len hvv.1;rw[hia6];refine Q.r ?_;(repeat (intro b1;refine Q.r ?_));refine Q.dgo [true] [3,4,7,8] [] [0,1,2,5,6,99999,0,0,0] ?_;refine Q.rd3 ?_;refine D.two 3 7 [99999,0,0] [3,4,8] zk rfl rfl rfl rfl zk zk ?_ ?_
    ·refine GQ.a ?_
     refine Q.al (λbn=> ?_)
     repeat (first|(refine GQ.y ?_;refine Q.y ?_)|refine Q.go ?_|(refine GQ.g ?_;refine Q.gq ?_)|(refine GQ.s ?_;refine Q.st ?_))
     refine Q.rd3 ?_;refine D.two 4 7 [7,8] [4,8] zk rfl rfl rfl rfl zk zk ?_ ?_
     ·refine S.c1 rfl (wNums_spec bw (H0++X++YY++Z) (some ⟨bn,0,none⟩) 1 [v.id] _ (RdS.row1 rfl) (by intro z hz;rw[List.mem_singleton.1 hz];omega) (by simp only[List.length_append,List.length_cons,List.length_nil];omega)) ?_
      rintro _ _ ⟨rfl,rfl⟩
      repeat (first|(refine GQ.y ?_;refine Q.y ?_)|refine Q.go ?_|(refine GQ.g ?_;refine Q.gq ?_)|(refine GQ.s ?_;refine Q.st ?_))
      refine Q.rd3 ?_;refine D.e rfl rfl rfl ?_;refine GQ.a ?_;refine Q.al (λbv=> ?_)
      repeat (first|(refine GQ.y ?_;refine Q.y ?_)|refine Q.go ?_|(refine GQ.g ?_;refine Q.gq ?_)|(refine GQ.s ?_;refine Q.st ?_))
      refine Q.rd3 ?_;refine D.e rfl rfl rfl ?_;refine S.c1 rfl (wVec_spec bw (H0++X++YY++Z++[v.id].flatMap numI) bv 0 v.a v.c 1 v.vec _ (RdC.row) (hrv.rd) (by simp only[List.length_append,List.flatMap_cons,List.flatMap_nil,List.length_nil];omega)) ?_;rintro _ _ ⟨rfl,rfl⟩
      repeat (first|(refine GQ.y ?_;refine Q.y ?_)|refine Q.go ?_|(refine GQ.g ?_;refine Q.gq ?_)|(refine GQ.s ?_;refine Q.st ?_))
      refine Q.rd3 ?_;refine Q.rd ?_;refine Q.r ?_;refine ⟨m+1,⟨rfl,rfl,rfl,rfl,rfl,by first|rfl|(rw[←hia6];rfl),rfl,rfl,trivial⟩,?_,by omega,by omega⟩;rw[hnx];have e3:H0++X++YY++Z++[v.id].flatMap numI++vecI v.vec=H0++X++YY++(Z++packVer v.abs):=by simp[packVer]
      rw[e3];exact eG
     ·refine GQ.a ?_
      refine Q.al (λbv=> ?_)
      repeat (first|(refine GQ.y ?_;refine Q.y ?_)|refine Q.go ?_|(refine GQ.g ?_;refine Q.gq ?_)|(refine GQ.s ?_;refine Q.st ?_))
      refine Q.rd3 ?_;refine D.e rfl rfl rfl ?_;refine S.c1 rfl (wNums_spec bw (H0++X++YY++Z) (some ⟨bn,0,none⟩) 1 [v.id] _ (RdS.row1 rfl) (by intro z hz;rw[List.mem_singleton.1 hz];omega) (by simp only[List.length_append,List.length_cons,List.length_nil];omega)) ?_;rintro _ _ ⟨rfl,rfl⟩
      repeat (first|(refine GQ.y ?_;refine Q.y ?_)|refine Q.go ?_|(refine GQ.g ?_;refine Q.gq ?_)|(refine GQ.s ?_;refine Q.st ?_))
      refine Q.rd3 ?_;refine D.e rfl rfl rfl ?_;refine S.c1 rfl (wVec_spec bw (H0++X++YY++Z++[v.id].flatMap numI) bv 0 v.a v.c 1 v.vec _ (RdC.row) (hrv.rd) (by simp only[List.length_append,List.flatMap_cons,List.flatMap_nil,List.length_nil];omega)) ?_;rintro _ _ ⟨rfl,rfl⟩
      repeat (first|(refine GQ.y ?_;refine Q.y ?_)|refine Q.go ?_|(refine GQ.g ?_;refine Q.gq ?_)|(refine GQ.s ?_;refine Q.st ?_))
      refine Q.rd3 ?_;refine Q.rd ?_;refine Q.r ?_;refine ⟨m+1,⟨rfl,rfl,rfl,rfl,rfl,by first|rfl|(rw[←hia6];rfl),rfl,rfl,trivial⟩,?_,by omega,by omega⟩;rw[hnx];have e3:H0++X++YY++Z++[v.id].flatMap numI++vecI v.vec=H0++X++YY++(Z++packVer v.abs):=by simp[packVer]
      rw[e3];exact eG
    ·refine GQ.a ?_
     refine Q.al (λbv=> ?_)
     repeat (first|(refine GQ.y ?_;refine Q.y ?_)|refine Q.go ?_|(refine GQ.g ?_;refine Q.gq ?_)|(refine GQ.s ?_;refine Q.st ?_))
     refine Q.rd3 ?_;refine D.e rfl rfl rfl ?_;refine GQ.a ?_;refine Q.al (λbn=> ?_)
     repeat (first|(refine GQ.y ?_;refine Q.y ?_)|refine Q.go ?_|(refine GQ.g ?_;refine Q.gq ?_)|(refine GQ.s ?_;refine Q.st ?_))
     refine Q.rd3 ?_;refine D.e rfl rfl rfl ?_;refine S.c1 rfl (wNums_spec bw (H0++X++YY++Z) (some ⟨bn,0,none⟩) 1 [v.id] _ (RdS.row1 rfl) (by intro z hz;rw[List.mem_singleton.1 hz];omega) (by simp only[List.length_append,List.length_cons,List.length_nil];omega)) ?_;rintro _ _ ⟨rfl,rfl⟩
     repeat (first|(refine GQ.y ?_;refine Q.y ?_)|refine Q.go ?_|(refine GQ.g ?_;refine Q.gq ?_)|(refine GQ.s ?_;refine Q.st ?_))
     refine Q.rd3 ?_;refine D.e rfl rfl rfl ?_;refine S.c1 rfl (wVec_spec bw (H0++X++YY++Z++[v.id].flatMap numI) bv 0 v.a v.c 1 v.vec _ (RdC.row) (hrv.rd) (by simp only[List.length_append,List.flatMap_cons,List.flatMap_nil,List.length_nil];omega)) ?_;rintro _ _ ⟨rfl,rfl⟩
     repeat (first|(refine GQ.y ?_;refine Q.y ?_)|refine Q.go ?_|(refine GQ.g ?_;refine Q.gq ?_)|(refine GQ.s ?_;refine Q.st ?_))
     refine Q.rd3 ?_;refine Q.rd ?_;refine Q.r ?_;refine ⟨m+1,⟨rfl,rfl,rfl,rfl,rfl,by first|rfl|(rw[←hia6];rfl),rfl,rfl,trivial⟩,?_,by omega,by omega⟩;rw[hnx];have e3:H0++X++YY++Z++[v.id].flatMap numI++vecI v.vec=H0++X++YY++(Z++packVer v.abs):=by simp[packVer]
     rw[e3];exact eG
   ·have hme2:m=e.vs.length:=by omega
    subst hme2;rw[List.take_length];refine Q.r ?_;refine ⟨i+1,zt,?_,by omega,by omega⟩;have e2:H0++(es.take (i+1)).flatMap (λe=>packEnt e.abs)=H0++X++YY++e.vs.flatMap λv=>packVer v.abs:=by
     rw[flat1 he,hX,←hY]
     show H0++(X++(numI e.id++numI ((e.vs.map OV.abs).length:Int)++(e.vs.map OV.abs).flatMap packVer))=_
     rw[List.length_map,List.flatMap_map];simp only[List.append_assoc]
    rw[e2];exact eG
  ·have hie:i=es.length:=by omega
   subst hie;rw[List.take_length];refine Q.r ?_;exact ⟨(),zt,Ent.refl _,trivial⟩
 ·rintro _ _
  have hXE:(es.flatMap λe=>packEnt e.abs).length≤es.length*100020:=flat_le hpe;obtain ⟨H1,hH1e⟩:∃H1,H1=H0++es.flatMap λe=>packEnt e.abs:=⟨_,rfl⟩
  have hH1:H1.length≤2000000000:=by rw[hH1e,List.length_append];omega
  rw[←hH1e];have hH1f:H1=numI j.v.mark++numI ((srtM j.v.ch).length:Int)++(srtM j.v.ch).flatMap packEnt:=by
   rw[hH1e,hH0e,←hE,List.flatMap_map]
  clear hXE hpe hvl hin hsE hoE;refine Q.r ?_;refine S.cj p rfl (JIntentsS_spec M1 p j k _ hj.w.wf zo) ?_;rintro _ _ ⟨ia,ic,is,M2,rfl,hl2,hsI,hoI,hpI,hsrtI,rfl⟩;have hI:is.map IV.abs=srtM j.v.its:=srt_eq hj.w.k2 hpI (by rw[List.map_map];exact hsrtI);have hil:is.length≤1000:=by
   have:=hpI.length_eq;rw[List.length_map] at this;have h2:=hj.w.wf.il;omega
  have hinI:∀e∈is,e.abs∈j.v.its:=λe he=>hpI.mem_iff.1 (List.mem_map_of_mem (f:=IV.abs) he)
  have hvI:∀e∈is,e.ops.length≤16∧e.txn≤18446744073709551615∧e.after≤18446744073709551615∧∀v∈e.ops,v.id≤18446744073709551615∧v.vec.length≤8:=λe he=>by
   have h1:=hj.w.wf.io _ (hinI e he);have h2:=hb.its _ (hinI e he);have h3:=h1.1;rw[List.length_map] at h3;exact ⟨h3,h2.1,h2.2.1,λv hv=>⟨h2.2.2 v.abs (List.mem_map_of_mem hv),(h1.2.2 v.abs (List.mem_map_of_mem hv)).1⟩⟩
  have hpl4:∀t,((lkL j.parts t).getD []).length≤4:=λt=>by
   cases hz:lkL j.parts t with
   |none=>exact Nat.zero_le _
   |some l=>exact hb.parts _ (lk_memL hz)
  have hpi:∀e∈is,(packInt j.parts e.abs).length≤2000:=λe he=>by
   have h1:=hvI e he;have h2:(numI e.abs.1).length≤10:=numI_len h1.2.1;have h3:(numI e.abs.2.1).length≤10:=numI_len h1.2.2.1;have h4:=hpl4 e.abs.1;have h5:(numI (((lkL j.parts e.abs.1).getD []).length:Int)).length≤10:=numI_len zo;have h6:(((lkL j.parts e.abs.1).getD []).flatMap packPart).length≤((lkL j.parts e.abs.1).getD []).length*10:=flat_le λx _=>numI_len (u64_le _)
   have h7:e.abs.2.2.length≤16:=by rw[List.length_map];exact h1.1
   have h8:(numI (e.abs.2.2.length:Int)).length≤10:=numI_len zo;have h9:(e.abs.2.2.flatMap packVer).length≤e.abs.2.2.length*100:=flat_le λv hv=>by
    obtain ⟨u,hu,rfl⟩:=List.mem_map.1 hv;exact packVer_len (h1.2.2.2 u hu).1 (h1.2.2.2 u hu).2
   exact len6 h2 h3 h5 (Nat.le_trans h6 zo) h8 (Nat.le_trans h9 zo)
  refine Q.r ?_;refine S.y (Y.cvi rfl) ?_;rw[wrap_u64 zo zo];refine Q.r ?_;(repeat (intro b1;refine Q.r ?_));refine S.c1 rfl (wNums_spec bw H1 (some ⟨b1,0,none⟩) 1 [(is.length:Int)] _ (RdS.row1 rfl) (by intro z hz;rw[List.mem_singleton.1 hz];omega) (by simp only[List.length_cons,List.length_nil];omega)) ?_;rintro _ _ ⟨rfl,rfl⟩;obtain ⟨H2,hH2e⟩:∃H2,H2=H1++[(is.length:Int)].flatMap numI:=⟨_,rfl⟩;have hH2f:H2=H1++numI ((srtM j.v.its).length:Int):=by rw[hH2e,←hI,List.length_map];simp
  have hH2:H2.length≤2000000010:=by
   have:=numI_len (z:=((srtM j.v.its).length:Int)) (by rw[←hI,List.length_map];omega);rw[hH2f,List.length_append];omega
  rw[←hH2e];refine Q.r ?_;refine swp_cutB (σ:=Unit) (λ_=> [(0,ptrJ p),(3,.pointer (some ⟨bw,0,none⟩))]) (λ_=>wH bw (H2++is.flatMap λe=>packInt j.parts e.abs)::jurH M2 p j::roM M2::L) (λ_=>True) ?_ ?_
  ·refine swp_loop (σ:=Nat) (λi=> [(0,ptrJ p),(3,.pointer (some ⟨bw,0,none⟩)),(73,.slice ia is.length ic),(74,.int .i64 is.length),(75,.int .i64 i)]) (λi=>wH bw (H2++(is.take i).flatMap λe=>packInt j.parts e.abs)::jurH M2 p j::roM M2::L)
    (λi=>i≤is.length) (λi=>is.length - i) 0 zt (by simp only[List.take_zero,List.flatMap_nil,List.append_nil];exact eG) zo ?_
   intro i hi
   by_cases hlt:i<is.length
   ·obtain ⟨e,he⟩:=mem_get hlt
    have hme:e∈is:=List.mem_of_getElem? he;have hev:=hvI e hme;obtain ⟨b5,o5,hia5,cr5⟩:=SlM.cm (g:=IV.cells) (λ_=>rfl) hsI he rfl;have hXl:((is.take i).flatMap λe=>packInt j.parts e.abs).length≤is.length*2000:=take_le i hpi;generalize hX:((is.take i).flatMap λe=>packInt j.parts e.abs)=X at hXl ⊢;rw[hia5];refine Q.r ?_;(repeat (intro b1;refine Q.r ?_));revert b1;intro b11;refine swp_jur p (λv mp md self ps hq=> ?_);obtain ⟨pa,pc,pl,hval,hpl,hsl⟩:=parts_of hq e.txn;have hp4:=hpl4 e.txn;rw[hpl] at hp4;refine Q.dgo [true,false,true,false,true] [14,15] [] [0,1,2,3,4,5,6,7,8,9,10,11,12,13,14,15] ?_;refine Q.rd ?_;refine D.y rfl rfl rfl zk (Ycast (v':=.slice pa pl.length pc) (Y.lk false rfl rfl (λw=>Tryz.zeroValue32 w)) (by rcases hval with ⟨h1,rfl,rfl,rfl⟩|⟨v,h1,rfl,rfl,rfl⟩<;>rw[h1]<;>rfl)) ?_;refine Q.rd ?_;refine D.y rfl rfl rfl zk (Y.cvi rfl) ?_;rw[wrap_u64 zo zo];refine Q.rd ?_;(repeat (intro b1;refine Q.rd ?_));refine D.e rfl rfl rfl ?_;refine S.c1 rfl (wNums_spec bw (H2++X) (some ⟨b1,0,none⟩) 3 [e.txn,e.after,(pl.length:Int)] _ (RdS.row1 rfl) (by intro z hz;rcases (by simpa using hz:z=e.txn∨z=e.after∨z=(pl.length:Int)) with rfl|rfl|rfl<;>omega) (by rw[List.length_append];simp only[List.length_cons,List.length_nil];omega)) ?_;rintro _ _ ⟨rfl,rfl⟩;obtain ⟨YY,hYY⟩:∃YY,YY=[e.txn,e.after,(pl.length:Int)].flatMap numI:=⟨_,rfl⟩;have hYl:YY.length≤30:=by
     rw[hYY];exact flat_le (c:=10) λx hx=>by
      refine numI_len ?_
      rcases (by simpa using hx:x=e.txn∨x=e.after∨x=(pl.length:Int)) with rfl|rfl|rfl<;>omega
    rw[←hYY];refine Q.r ?_;refine Q.rd ?_;refine Q.r ?_;refine D.start [] [] [0,1,2,3,4,5,6,7,8] _ [] rfl zk rfl zk NoPanic.no (Ent.refl _) ?_;refine Q.rd5 ?_;refine D.y rfl rfl rfl zk (Ycast (v':=.slice pa pl.length pc) (Y.lk false rfl rfl (λw=>Tryz.zeroValue32 w)) (by rcases hval with ⟨h1,rfl,rfl,rfl⟩|⟨v,h1,rfl,rfl,rfl⟩<;>rw[h1]<;>rfl)) ?_;refine Q.rd5 ?_;refine Q.r ?_;refine swp_ent (jclose (p:=p) (v:=v) (sf:=self) (dim:=j.v.dim) (mp:=mp) (md:=md) (j:=j) (ps:=ps) hq rfl) ?_;have hsl2:SlM M2 pa pl.length 1 (pl.flatMap λz=> [I64 z]):=by rw[flat_I64];exact hsl
    refine swp_cutB (σ:=Unit) (λ_=> [(0,ptrJ p),(3,.pointer (some ⟨bw,0,none⟩)),(11,.pointer (some ⟨b11,0,none⟩)),(73,.slice (some ⟨b5,o5,none⟩) is.length ic),(74,.int .i64 is.length),(75,.int .i64 i)]) (λ_=>wH bw (H2++X++YY++pl.flatMap packPart)::pt b11 (cl e.cells 100)::jurH M2 p j::roM M2::L) (λ_=>True) ?_ ?_
    ·refine swp_loop (σ:=Nat) (λm=> [(0,ptrJ p),(3,.pointer (some ⟨bw,0,none⟩)),(11,.pointer (some ⟨b11,0,none⟩)),(73,.slice (some ⟨b5,o5,none⟩) is.length ic),(74,.int .i64 is.length),(75,.int .i64 i),(101,.slice pa pl.length pc),(102,.int .i64 pl.length),(103,.int .i64 m)])
      (λm=>wH bw (H2++X++YY++(pl.take m).flatMap packPart)::pt b11 (cl e.cells 100)::jurH M2 p j::roM M2::L) (λm=>m≤pl.length) (λm=>pl.length - m) 0 zt (by simp only[List.take_zero,List.flatMap_nil,List.append_nil];exact eG) zo ?_
     intro m hm
     by_cases hmt:m<pl.length
     ·obtain ⟨z,hz⟩:=mem_get hmt
      obtain ⟨b7,o7,hia7,cr7⟩:=SlM.cm (g:=λz=> [I64 z]) (λ_=>rfl) hsl2 hz rfl;have hZl:((pl.take m).flatMap packPart).length≤pl.length*10:=take_le m (λx _=>numI_len (u64_le _));have hnx:(pl.take (m+1)).flatMap packPart=(pl.take m).flatMap packPart++packPart z:=flat1 hz;generalize hZ:((pl.take m).flatMap packPart)=Z at hZl hnx ⊢;rw[hia7];refine Q.r ?_;refine S.y (Y.cvi rfl) ?_;refine Q.r ?_;(repeat (intro b1;refine Q.r ?_));refine S.c1 rfl (wNums_spec bw (H2++X++YY++Z) (some ⟨b1,0,none⟩) 1 [IntKind.u64.wrap z] _ (RdS.row1 rfl) (by intro y hy;rw[List.mem_singleton.1 hy];exact u64_le _) (by simp only[List.length_append,List.length_cons,List.length_nil];omega)) ?_;rintro _ _ ⟨rfl,rfl⟩;refine Q.r ?_;refine ⟨m+1,⟨rfl,rfl,rfl,rfl,rfl,rfl,by first|rfl|(rw[←hia7];rfl),rfl,rfl,trivial⟩,?_,by omega,by omega⟩;rw[hnx];have e3:H2++X++YY++Z++[IntKind.u64.wrap z].flatMap numI=H2++X++YY++(Z++packPart z):=by simp[packPart]
      rw[e3];exact eG
     ·have hme2:m=pl.length:=by omega
      subst hme2;rw[List.take_length];refine Q.r ?_;exact ⟨(),zt,Ent.refl _,trivial⟩
    rintro _ _;have hPl:(pl.flatMap packPart).length≤pl.length*10:=flat_le λx _=>numI_len (u64_le _)
    generalize hPP:pl.flatMap packPart=PP at hPl ⊢;refine Q.r ?_;refine S.y (Y.cvi rfl) ?_;rw[wrap_u64 zo zo];refine Q.r ?_;(repeat (intro b1;refine Q.r ?_));refine S.c1 rfl (wNums_spec bw (H2++X++YY++PP) (some ⟨b1,0,none⟩) 1 [(e.ops.length:Int)] _ (RdS.row1 rfl) (by intro z hz;rw[List.mem_singleton.1 hz];omega) (by simp only[List.length_append,List.length_cons,List.length_nil];omega)) ?_;rintro _ _ ⟨rfl,rfl⟩;obtain ⟨VV,hVV⟩:∃VV,VV=[(e.ops.length:Int)].flatMap numI:=⟨_,rfl⟩;have hVl:VV.length≤10:=by
     rw[hVV];exact flat_le (c:=10) λx hx=>by
      refine numI_len ?_;rw[List.mem_singleton.1 hx];omega
    rw[←hVV];refine Q.r ?_;refine swp_loop (σ:=Nat) (λm=> [(0,ptrJ p),(3,.pointer (some ⟨bw,0,none⟩)),(73,.slice (some ⟨b5,o5,none⟩) is.length ic),(74,.int .i64 is.length),(75,.int .i64 i),(121,.slice e.a e.ops.length e.c),(122,.int .i64 e.ops.length),(123,.int .i64 m)])
     (λm=>wH bw (H2++X++YY++PP++VV++(e.ops.take m).flatMap λv=>packVer v.abs)::jurH M2 p j::roM M2::L) (λm=>m≤e.ops.length) (λm=>e.ops.length - m) 0 zt (by simp only[List.take_zero,List.flatMap_nil,List.append_nil];exact eG) zo ?_
    intro m hm
    by_cases hmt:m<e.ops.length
    ·obtain ⟨o,ho⟩:=mem_get hmt
     have hmo:o∈e.ops:=List.mem_of_getElem? ho;have hvv:=hev.2.2.2 o hmo;have hrv:SlM M2 o.a o.vec.length 1 (o.vec.map I32):=(hoI e hme).2 o hmo;obtain ⟨b6,o6,hia6,cr6⟩:=SlM.cm (g:=OV.cells) (λ_=>rfl) (hoI e hme).1 ho rfl;have hZl:((e.ops.take m).flatMap λv=>packVer v.abs).length≤e.ops.length*100:=take_le m (λu hu=>packVer_len (hev.2.2.2 u hu).1 (hev.2.2.2 u hu).2);have hnx:(e.ops.take (m+1)).flatMap (λv=>packVer v.abs)=(e.ops.take m).flatMap (λv=>packVer v.abs)++packVer o.abs:=flat1 ho;generalize hZ:((e.ops.take m).flatMap λv=>packVer v.abs)=Z at hZl hnx ⊢;have hn1:=numI_len hvv.1;rw[hia6];refine Q.r ?_;(repeat (intro b1;refine Q.r ?_));refine Q.dgo [true] [3,4,7,8] [] [0,1,2,5,6,99999,0,0,0] ?_;refine Q.rd3 ?_;refine D.two 3 7 [99999,0,0] [3,4,8] zk rfl rfl rfl rfl zk zk ?_ ?_
     ·refine GQ.a ?_
      refine Q.al (λbn=> ?_)
      repeat (first|(refine GQ.y ?_;refine Q.y ?_)|refine Q.go ?_|(refine GQ.g ?_;refine Q.gq ?_)|(refine GQ.s ?_;refine Q.st ?_))
      refine Q.rd3 ?_;refine D.two 4 7 [7,8] [4,8] zk rfl rfl rfl rfl zk zk ?_ ?_
      ·refine S.c1 rfl (wNums_spec bw (H2++X++YY++PP++VV++Z) (some ⟨bn,0,none⟩) 1 [o.id] _ (RdS.row1 rfl) (by intro z hz;rw[List.mem_singleton.1 hz];omega) (by simp only[List.length_append,List.length_cons,List.length_nil];omega)) ?_
       rintro _ _ ⟨rfl,rfl⟩
       repeat (first|(refine GQ.y ?_;refine Q.y ?_)|refine Q.go ?_|(refine GQ.g ?_;refine Q.gq ?_)|(refine GQ.s ?_;refine Q.st ?_))
       refine Q.rd3 ?_;refine D.e rfl rfl rfl ?_;refine GQ.a ?_;refine Q.al (λbv=> ?_)
       repeat (first|(refine GQ.y ?_;refine Q.y ?_)|refine Q.go ?_|(refine GQ.g ?_;refine Q.gq ?_)|(refine GQ.s ?_;refine Q.st ?_))
       refine Q.rd3 ?_;refine D.e rfl rfl rfl ?_;refine S.c1 rfl (wVec_spec bw (H2++X++YY++PP++VV++Z++[o.id].flatMap numI) bv 0 o.a o.c 1 o.vec _ (RdC.row) (hrv.rd) (by simp only[List.length_append,List.flatMap_cons,List.flatMap_nil,List.length_nil];omega)) ?_;rintro _ _ ⟨rfl,rfl⟩
       repeat (first|(refine GQ.y ?_;refine Q.y ?_)|refine Q.go ?_|(refine GQ.g ?_;refine Q.gq ?_)|(refine GQ.s ?_;refine Q.st ?_))
       refine Q.rd3 ?_;refine Q.rd ?_;refine Q.r ?_;refine ⟨m+1,⟨rfl,rfl,rfl,rfl,rfl,by first|rfl|(rw[←hia6];rfl),rfl,rfl,trivial⟩,?_,by omega,by omega⟩;rw[hnx];have e3:H2++X++YY++PP++VV++Z++[o.id].flatMap numI++vecI o.vec=H2++X++YY++PP++VV++(Z++packVer o.abs):=by simp[packVer]
       rw[e3];exact eG
      ·refine GQ.a ?_
       refine Q.al (λbv=> ?_)
       repeat (first|(refine GQ.y ?_;refine Q.y ?_)|refine Q.go ?_|(refine GQ.g ?_;refine Q.gq ?_)|(refine GQ.s ?_;refine Q.st ?_))
       refine Q.rd3 ?_;refine D.e rfl rfl rfl ?_;refine S.c1 rfl (wNums_spec bw (H2++X++YY++PP++VV++Z) (some ⟨bn,0,none⟩) 1 [o.id] _ (RdS.row1 rfl) (by intro z hz;rw[List.mem_singleton.1 hz];omega) (by simp only[List.length_append,List.length_cons,List.length_nil];omega)) ?_;rintro _ _ ⟨rfl,rfl⟩
       repeat (first|(refine GQ.y ?_;refine Q.y ?_)|refine Q.go ?_|(refine GQ.g ?_;refine Q.gq ?_)|(refine GQ.s ?_;refine Q.st ?_))
       refine Q.rd3 ?_;refine D.e rfl rfl rfl ?_;refine S.c1 rfl (wVec_spec bw (H2++X++YY++PP++VV++Z++[o.id].flatMap numI) bv 0 o.a o.c 1 o.vec _ (RdC.row) (hrv.rd) (by simp only[List.length_append,List.flatMap_cons,List.flatMap_nil,List.length_nil];omega)) ?_;rintro _ _ ⟨rfl,rfl⟩
       repeat (first|(refine GQ.y ?_;refine Q.y ?_)|refine Q.go ?_|(refine GQ.g ?_;refine Q.gq ?_)|(refine GQ.s ?_;refine Q.st ?_))
       refine Q.rd3 ?_;refine Q.rd ?_;refine Q.r ?_;refine ⟨m+1,⟨rfl,rfl,rfl,rfl,rfl,by first|rfl|(rw[←hia6];rfl),rfl,rfl,trivial⟩,?_,by omega,by omega⟩;rw[hnx];have e3:H2++X++YY++PP++VV++Z++[o.id].flatMap numI++vecI o.vec=H2++X++YY++PP++VV++(Z++packVer o.abs):=by simp[packVer]
       rw[e3];exact eG
     ·refine GQ.a ?_
      refine Q.al (λbv=> ?_)
      repeat (first|(refine GQ.y ?_;refine Q.y ?_)|refine Q.go ?_|(refine GQ.g ?_;refine Q.gq ?_)|(refine GQ.s ?_;refine Q.st ?_))
      refine Q.rd3 ?_;refine D.e rfl rfl rfl ?_;refine GQ.a ?_;refine Q.al (λbn=> ?_)
      repeat (first|(refine GQ.y ?_;refine Q.y ?_)|refine Q.go ?_|(refine GQ.g ?_;refine Q.gq ?_)|(refine GQ.s ?_;refine Q.st ?_))
      refine Q.rd3 ?_;refine D.e rfl rfl rfl ?_;refine S.c1 rfl (wNums_spec bw (H2++X++YY++PP++VV++Z) (some ⟨bn,0,none⟩) 1 [o.id] _ (RdS.row1 rfl) (by intro z hz;rw[List.mem_singleton.1 hz];omega) (by simp only[List.length_append,List.length_cons,List.length_nil];omega)) ?_;rintro _ _ ⟨rfl,rfl⟩
      repeat (first|(refine GQ.y ?_;refine Q.y ?_)|refine Q.go ?_|(refine GQ.g ?_;refine Q.gq ?_)|(refine GQ.s ?_;refine Q.st ?_))
      refine Q.rd3 ?_;refine D.e rfl rfl rfl ?_;refine S.c1 rfl (wVec_spec bw (H2++X++YY++PP++VV++Z++[o.id].flatMap numI) bv 0 o.a o.c 1 o.vec _ (RdC.row) (hrv.rd) (by simp only[List.length_append,List.flatMap_cons,List.flatMap_nil,List.length_nil];omega)) ?_;rintro _ _ ⟨rfl,rfl⟩
      repeat (first|(refine GQ.y ?_;refine Q.y ?_)|refine Q.go ?_|(refine GQ.g ?_;refine Q.gq ?_)|(refine GQ.s ?_;refine Q.st ?_))
      refine Q.rd3 ?_;refine Q.rd ?_;refine Q.r ?_;refine ⟨m+1,⟨rfl,rfl,rfl,rfl,rfl,by first|rfl|(rw[←hia6];rfl),rfl,rfl,trivial⟩,?_,by omega,by omega⟩;rw[hnx];have e3:H2++X++YY++PP++VV++Z++[o.id].flatMap numI++vecI o.vec=H2++X++YY++PP++VV++(Z++packVer o.abs):=by simp[packVer]
      rw[e3];exact eG
    ·have hme2:m=e.ops.length:=by omega
     subst hme2;rw[List.take_length];refine Q.r ?_;refine ⟨i+1,zt,?_,by omega,by omega⟩;have e2:H2++(is.take (i+1)).flatMap (λe=>packInt j.parts e.abs)=H2++X++YY++PP++VV++e.ops.flatMap λv=>packVer v.abs:=by
      rw[flat1 he,hX,hYY,hVV,←hPP]
      show H2++(X++(numI e.txn++numI e.after++numI (((lkL j.parts e.txn).getD []).length:Int)++((lkL j.parts e.txn).getD []).flatMap packPart++numI ((e.ops.map OV.abs).length:Int)++(e.ops.map OV.abs).flatMap packVer))=_
      rw[List.length_map,List.flatMap_map,hpl];simp only[List.append_assoc,List.flatMap_cons,List.flatMap_nil,List.append_nil]
     rw[e2];exact eG
   ·have hie:i=is.length:=by omega
    subst hie;rw[List.take_length];refine Q.r ?_;exact ⟨(),zt,Ent.refl _,trivial⟩
  ·rintro _ _
   have hXE:(is.flatMap λe=>packInt j.parts e.abs).length≤is.length*2000:=flat_le hpi;obtain ⟨H3,hH3e⟩:∃H3,H3=H2++is.flatMap λe=>packInt j.parts e.abs:=⟨_,rfl⟩
   have hH3:H3.length≤3000000000:=by rw[hH3e,List.length_append];omega
   rw[←hH3e];have hH3f:H3=H2++(srtM j.v.its).flatMap (packInt j.parts):=by rw[hH3e,←hI,List.flatMap_map]
   have hdl:j.done.length≤1000:=Nat.le_trans hj.dl hk;clear hXE hpi hvI hinI hsI hoI;refine swp_jur p (λv mp md self ps hq=> ?_);refine Q.r ?_;refine S.y (Y.cvi rfl) ?_;rw[wrap_u64 zo zo];refine Q.r ?_;(repeat (intro b1;refine Q.r ?_));refine S.c1 rfl (wNums_spec bw H3 (some ⟨b1,0,none⟩) 1 [(j.done.length:Int)] _ (RdS.row1 rfl) (by intro z hz;rw[List.mem_singleton.1 hz];omega) (by simp only[List.length_cons,List.length_nil];omega)) ?_;rintro _ _ ⟨rfl,rfl⟩;obtain ⟨H4,hH4e⟩:∃H4,H4=H3++[(j.done.length:Int)].flatMap numI:=⟨_,rfl⟩;have hH4f:H4=H3++numI (j.done.length:Int):=by rw[hH4e];simp
   have hH4:H4.length≤3000000010:=by
    have:=numI_len (z:=(j.done.length:Int)) zo;rw[hH4f,List.length_append];omega
   rw[←hH4e];refine Q.r ?_;refine opsS_ent (jclose (p:=p) (v:=v) (sf:=self) (dim:=j.v.dim) (mp:=mp) (md:=md) (j:=j) (ps:=ps) hq rfl) ?_;refine S.cjn p rfl (JFin_spec M2 p j _ zo) ?_;rintro _ _ ⟨fa,fc,rfl,rfl⟩;refine opsS_abs fa (λM3 hl3 hs3=> ?_);refine opsS_jm p hl3 ?_;obtain ⟨ks,hks⟩:∃ks,ks=sortL (j.done.map (·.1)):=⟨_,rfl⟩;have hkl:ks.length=j.done.length:=by rw[hks,sortL_len,List.length_map]
   rw[←hks,←hkl,←flat_U] at hs3;have hku:∀t∈ks,t≤18446744073709551615:=λt ht=>by
    rw[hks] at ht;obtain ⟨d,hd,rfl⟩:=List.mem_map.1 ((sortL_perm _).mem_iff.1 ht);exact (hb.done d hd).1
   have hdu:∀t,(lkL j.done t).getD 0≤18446744073709551615:=λt=>by
    cases hz:lkL j.done t with
    |none=>show (0:Int)≤_;decide
    |some s=>exact (hb.done _ (lk_memL hz)).2
   have hpd:∀t∈ks,(packDone j.done t).length≤20:=λt ht=>by
    have h1:=numI_len (hku t ht);have h2:=numI_len (hdu t);rw[List.length_append];omega
   rw[←hkl];refine Q.r ?_;refine swp_cutB (σ:=Unit) (λ_=> [(3,.pointer (some ⟨bw,0,none⟩))]) (λ_=>wH bw (H4++ks.flatMap (packDone j.done))::jurH M3 p j::roM M3::L) (λ_=>True) ?_ ?_
   ·refine swp_loop (σ:=Nat) (λi=> [(0,ptrJ p),(3,.pointer (some ⟨bw,0,none⟩)),(148,.slice fa ks.length fc),(149,.int .i64 ks.length),(150,.int .i64 i)]) (λi=>wH bw (H4++(ks.take i).flatMap (packDone j.done))::jurH M3 p j::roM M3::L)
     (λi=>i≤ks.length) (λi=>ks.length - i) 0 zt (by simp only[List.take_zero,List.flatMap_nil,List.append_nil];exact eG) zo ?_
    intro i hi
    by_cases hlt:i<ks.length
    ·obtain ⟨t,ht⟩:=mem_get hlt
     have hmt:t∈ks:=List.mem_of_getElem? ht;have htu:=hku t hmt;have hdt:=hdu t;obtain ⟨b5,o5,hia5,cr5⟩:=SlM.cm (g:=cU) (λ_=>rfl) hs3 ht rfl;have hXl:((ks.take i).flatMap (packDone j.done)).length≤ks.length*20:=take_le i hpd;have hnx:(ks.take (i+1)).flatMap (packDone j.done)=(ks.take i).flatMap (packDone j.done)++packDone j.done t:=flat1 ht;generalize hX:(ks.take i).flatMap (packDone j.done)=X at hXl hnx ⊢;rw[hia5];refine swp_jur p (λv mp md self ps hq=> ?_);refine Q.r ?_;refine S.y (Ycast (v':=.int .u64 ((lkL j.done t).getD 0)) (Y.lk false rfl rfl (λw=>Tryz.zeroValue31 w)) (by cases lkL j.done t<;>rfl)) ?_;refine Q.r ?_;(repeat (intro b1;refine Q.r ?_));refine S.c1 rfl (wNums_spec bw (H4++X) (some ⟨b1,0,none⟩) 2 [t,(lkL j.done t).getD 0] _ (RdS.row1 rfl) (by intro z hz;rcases (by simpa using hz:z=t∨z=(lkL j.done t).getD 0) with rfl|rfl<;>assumption) (by simp only[List.length_append,List.length_cons,List.length_nil];omega)) ?_;rintro _ _ ⟨rfl,rfl⟩;refine Q.r ?_;refine ⟨i+1,⟨rfl,rfl,by first|rfl|(rw[←hia5];rfl),rfl,rfl,trivial⟩,?_,by omega,by omega⟩;refine Ent.trans (jclose (p:=p) (v:=v) (sf:=self) (dim:=j.v.dim) (mp:=mp) (md:=md) (j:=j) (ps:=ps) hq rfl) ?_;rw[hnx];have e3:H4++X++[t,(lkL j.done t).getD 0].flatMap numI=H4++(X++packDone j.done t):=by simp[packDone]
     rw[e3];exact eG
    ·have hie:i=ks.length:=by omega
     subst hie;rw[List.take_length];refine Q.r ?_;exact ⟨(),zt,Ent.refl _,trivial⟩
   ·rintro _ _
    have hfin:H4++ks.flatMap (packDone j.done)=packV j:=by
     unfold packV;rw[hH4f,hH3f,hH2f,hH1f,hks]
    have hfl:(H4++ks.flatMap (packDone j.done)).length≤140737488355328:=by
     have:(ks.flatMap (packDone j.done)).length≤ks.length*20:=flat_le hpd;rw[List.length_append];omega
    rw[hfin] at hfl ⊢;refine Q.r ?_;refine S.c1 rfl (wBytes_spec bw (packV j) _ hfl) ?_;rintro _ _ ⟨ra,rc,rfl,rfl⟩;refine Q.r ?_;refine N.t rfl ?_ ⟨ra,rc,M3,rfl,hl1.trans (hl2.trans hl3),rfl⟩;exact eG
theorem RSameB_spec (a a':OA)(c c':Nat)(p q:List UInt8)(L:HL)(h:RdS L a p.length 1 (p.map B))(h':RdS L a' q.length 1 (q.map B)):
  CallsS Tryz.prog 44 [.slice a p.length c,.slice a' q.length c'] L (λv L'=>v=.bool (decide (p=q))∧L'=L):=by
 refine CallsS.of_body Tryz.func44 rfl rfl rfl ?_
 repeat (first|(refine GQ.y ?_;refine Q.y ?_)|refine Q.go ?_|(refine GQ.g ?_;refine Q.gq ?_)|(refine GQ.s ?_;refine Q.st ?_))
 refine S.y (by refine Y.b2s (bs:=p) zr ?_;exact h.sub) ?_
 repeat (first|(refine GQ.y ?_;refine Q.y ?_)|refine Q.go ?_|(refine GQ.g ?_;refine Q.gq ?_)|(refine GQ.s ?_;refine Q.st ?_))
 refine S.y (by refine Y.b2s (bs:=q) zr ?_;exact h'.sub) ?_
 repeat (first|(refine GQ.y ?_;refine Q.y ?_)|refine Q.go ?_|(refine GQ.g ?_;refine Q.gq ?_)|(refine GQ.s ?_;refine Q.st ?_))
 try refine S.y (Y.eqst (a:=p) (b:=q) rfl rfl) ?_
 repeat (first|(refine GQ.y ?_;refine Q.y ?_)|refine Q.go ?_|(refine GQ.g ?_;refine Q.gq ?_)|(refine GQ.s ?_;refine Q.st ?_))
 refine N.t rfl (Ent.refl _) ⟨rfl,rfl⟩
end Go.Proofs.YtjlgabojhnnbaaaGreatDoor
namespace Go.SX
open Go Go.ChangeShapes Go.WideShapes Go.RowKit
section
variable {H : Type} {enc : TypeId × Value → H} {P : Program} {W : World}
def Rd (enc:TypeId×Value→H)(P:Program)(W:World)(t:TypeId)(cs:List Value):Prop:=∃n x,DataW.trod enc P W 0 (λ_=>true) true n t cs=some x
theorem cells_of {w:World}{base:Nat}{a:Addr}{n:Nat}{cs:List Value}(h:w.cells? base a n=some cs):cs.length=n∧∀j,j<n→w.cell? (a.add j)=cs[j]? :=by
 unfold World.cells? at h
 split at h
 ·exact ⟨by simpa using mapM_some_length h,λj hj=>by simpa using mapM_some_get h j j (by simp[hj])⟩
 ·cases h
theorem cell_block {w:World}{a:Addr}{v:Value}(h:w.cell? a=some v):∃l t fz,w.heap[a.block]? =some (.cells l t fz)∧l[a.off]? =some v∧a.spot=none:=by
 unfold World.cell? at h
 split at h
 ·rename_i c t fz hb
  split at h
  ·cases h
  ·rename_i hs
   refine ⟨c,t,fz,hb,h,by simpa using hs⟩
 ·cases h
theorem add_at (x y n:Nat):(⟨x,y,none⟩:Addr).add n=⟨x,y+n,none⟩:=by unfold Addr.add;split<;>simp_all
theorem flat_at {sz:Nat}:∀{rows:List (List Value)} {j:Nat} {v:Value},(∀r∈rows,r.length=sz)→rows.flatten[j]? =some v→∃k r i,rows[k]? =some r∧r[i]? =some v∧j=k*sz+i
 | [],j,v,_,h=>by simp at h
 |r::rows,j,v,hr,h=>by
  have h0:=hr r (by simp);rw[List.flatten_cons] at h
  by_cases hj:j<r.length
  ·rw[List.getElem?_append_left hj] at h
   exact ⟨0,r,j,rfl,h,by simp⟩
  ·rw[List.getElem?_append_right zo] at h
   obtain ⟨k,r',i,h1,h2,h3⟩:=flat_at (λx hx=>hr x (by simp[hx])) h;exact ⟨k+1,r',i,by simpa using h1,h2,by rw[Nat.succ_mul];omega⟩
theorem Rd.slice {t e:TypeId}{sz:Nat}{cs:List Value}(h:Rd enc P W t cs)(ht:P.underlying t=some (.slice e))(hs:P.cellsOf e=sz)(h0:0<sz):
  ∃(a:OA) (c:Nat) (rows:List (List Value)),cs=[.slice a rows.length c]∧rows.length≤c∧c≤maxLen∧SlM (all0 W) a rows.length sz rows.flatten∧∀r∈rows,r.length=sz∧Rd enc P W e r:=by
 obtain ⟨n,x,h⟩:=h
 rcases DataW.trod_slice ht h with ⟨rfl,_⟩|⟨a,len,cap,elems,rest,n,rfl,rfl,_,_,hlc,hcm,hel,hat,_⟩
 ·exact ⟨none,0,[],rfl,Nat.le_refl _,Nat.zero_le _,SlM.nil,by simp⟩
 ·simp only[hs] at hat
  have hrow:∀i,i<len→∃r y,W.cells? 0 (a.add (i*sz)) sz=some r∧DataW.trod enc P W 0 (λ_=>true) true n e r=some y:=λi hi=>by
   have:=hat i hi;have hi':i<elems.length:=by omega
   rw[List.getElem?_eq_getElem hi'] at this;obtain ⟨r,h1,h2⟩:=Option.bind_eq_some_iff.1 this;exact ⟨r,_,h1,h2⟩
  let rows:=(List.range len).map λi=>(W.cells? 0 (a.add (i*sz)) sz).getD []
  have hrl:rows.length=len:=by simp[rows]
  have hri:∀i r,rows[i]? =some r→i<len∧W.cells? 0 (a.add (i*sz)) sz=some r:=λi r hr=>by
   have hi:i<len:=by have:=(List.getElem?_eq_some_iff.1 hr).1;omega
   obtain ⟨r',y,h1,_⟩:=hrow i hi;refine ⟨hi,?_⟩;simp only[rows,List.getElem?_map,List.getElem?_range hi,Option.map_some,Option.some.injEq,h1,Option.getD_some] at hr;rw[←hr];exact h1
  have hmem:∀r∈rows,r.length=sz∧Rd enc P W e r:=λr hr=>by
   obtain ⟨i,hi,rfl⟩:=List.getElem_of_mem hr;obtain ⟨h1,h2⟩:=hri i _ (List.getElem?_eq_getElem hi);obtain ⟨r',y,h3,h4⟩:=hrow i h1;rw[h2] at h3;cases h3;exact ⟨(cells_of h2).1,n,y,h4⟩
  refine ⟨some a,cap,rows,by rw[hrl],by omega,hcm,⟨?_,?_⟩,hmem⟩
  ·have:∀l:List (List Value),(∀r∈l,r.length=sz)→l.flatten.length=l.length*sz:=by
    intro l
    induction l with
    |nil=>simp
    |cons r l ih=>intro h;rw[List.flatten_cons,List.length_append,h r (by simp),ih (λx hx=>h x (by simp[hx])),List.length_cons,Nat.succ_mul];omega
   exact this rows λr hr=>(hmem r hr).1
  ·by_cases hl0:len=0
   ·exact .inl zo
   ·refine .inr ?_
    obtain ⟨r0,y0,h1,_⟩:=hrow 0 zo;have h2:=(cells_of h1).2 0 h0;have hr0:0<r0.length:=by rw[(cells_of h1).1];exact h0
    rw[List.getElem?_eq_getElem hr0] at h2;obtain ⟨l,tt,fz,hb,hc,hsp⟩:=cell_block h2;have ea:(a.add (0*sz)).add 0=a:=by simp[Addr.add]
    rw[ea] at hb hc hsp;have eA:a=⟨a.block,a.off,none⟩:=by cases a;simp_all
    refine ⟨a.block,a.off,l,tt,fz,by rw[←eA],hb,λj v hv=> ?_⟩;obtain ⟨k,r,i,h3,h4,rfl⟩:=flat_at (λr hr=>(hmem r hr).1) hv;obtain ⟨h5,h6⟩:=hri k r h3;have hi:i<sz:=by rw[←(cells_of h6).1];exact (List.getElem?_eq_some_iff.1 h4).1
    have h7:=(cells_of h6).2 i hi;rw[h4] at h7;have e2:(a.add (k*sz)).add i=⟨a.block,a.off+(k*sz+i),none⟩:=by
     rw[eA,add_at,add_at,Nat.add_assoc]
    rw[e2] at h7;simp only[World.cell?,hb] at h7
    simpa using h7
theorem Rd.list {t e:TypeId}{sz:Nat}{cs:List Value}{α:Type}{g:α→List Value}{Q:α→Prop}(he:∀r,Rd enc P W e r→∃x,r=g x∧Q x)(h:Rd enc P W t cs)(ht:P.underlying t=some (.slice e))(hs:P.cellsOf e=sz)(h0:0<sz):
  ∃(a:OA) (c:Nat) (xs:List α),cs=[.slice a xs.length c]∧xs.length≤c∧c≤maxLen∧SlM (all0 W) a xs.length sz (xs.flatMap g)∧∀x∈xs,Q x:=by
 obtain ⟨a,c,rows,h1,h2,h3,h4,h5⟩:=h.slice ht hs h0;have key:∀rows:List (List Value),(∀r∈rows,r.length=sz∧Rd enc P W e r)→∃xs:List α,rows=xs.map g∧∀x∈xs,Q x:=by
  intro rows
  induction rows with
  |nil=>exact λ_=>⟨[],rfl,by simp⟩
  |cons r rows ih=>
   intro h;obtain ⟨xs,e1,e2⟩:=ih λx hx=>h x (by simp[hx])
   obtain ⟨x,e3,e4⟩:=he r (h r (by simp)).2;refine ⟨x::xs,by rw[List.map_cons,←e1,←e3],λy hy=> ?_⟩
   rcases List.mem_cons.1 hy with rfl|hy
   ·exact e4
   ·exact e2 y hy
 obtain ⟨xs,e1,e2⟩:=key rows h5;have el:rows.length=xs.length:=by rw[e1,List.length_map]
 rw[el] at h1 h2 h4;refine ⟨a,c,xs,h1,h2,h3,?_,e2⟩;rw[List.flatMap_def,←e1];exact h4
theorem Rd.int {t:TypeId}{k:IntKind}{cs:List Value}(h:Rd enc P W t cs)(ht:P.underlying t=some (.int k)):∃n,cs=[.int k n]∧(Lit.int k n).wf=true:=by
 obtain ⟨n,x,h⟩:=h;obtain ⟨v,h1,_,h2⟩:=DataW.trod_int ht h;exact ⟨v,h1,h2⟩
theorem Rd.bool {t:TypeId}{cs:List Value}(h:Rd enc P W t cs)(ht:P.underlying t=some .bool):∃b,cs=[.bool b]:=by
 obtain ⟨n,x,h⟩:=h;obtain ⟨v,h1,_⟩:=DataW.trod_bool ht h;exact ⟨v,h1⟩
theorem Rd.fields {t:TypeId}{fs:Array Field}{cs:List Value}(h:Rd enc P W t cs)(ht:P.underlying t=some (.struct fs)):cs.length=P.cellsOf t∧∀(i:Nat) (f:Field),fs[i]? =some f→Rd enc P W f.type ((cs.drop f.offset).take (P.cellsOf f.type)):=by
 obtain ⟨n,x,h⟩:=h;obtain ⟨xs,m,_,_,h1,h2,h3⟩:=DataW.trod_struct ht h;refine ⟨h1,λi f hf=> ?_⟩;have:=h3 i f hf;have hi:i<xs.length:=by rw[h2];exact (Array.getElem?_eq_some_iff.1 hf).1
 rw[List.getElem?_eq_getElem hi] at this;exact ⟨m,_,this⟩
theorem Rd.byte {t:TypeId}{cs:List Value}(h:Rd enc P W t cs)(ht:P.underlying t=some (.int .u8)):∃x,cs=[B x]∧True:=by
 obtain ⟨n,rfl,h1⟩:=h.int ht;have h2:0≤n∧n≤255:=bounds_u8 h1;refine ⟨UInt8.ofNat n.toNat,?_,trivial⟩;have:(UInt8.ofNat n.toNat).toNat=n.toNat:=by simp;omega
 simp only[B,this];rw[Int.toNat_of_nonneg h2.1]
theorem Rd.bytes {t e:TypeId}{cs:List Value}(h:Rd enc P W t cs)(ht:P.underlying t=some (.slice e))(he:P.underlying e=some (.int .u8))(hs:P.cellsOf e=1):
  ∃(a:OA) (c:Nat) (bs:List UInt8),cs=[.slice a bs.length c]∧bs.length≤c∧c≤maxLen∧SlM (all0 W) a bs.length 1 (bs.map B):=by
 obtain ⟨a,c,xs,h1,h2,h3,h4,_⟩:=Rd.list (g:=λx=> [B x]) (λr hr=>hr.byte he) h ht hs zo;refine ⟨a,c,xs,h1,h2,h3,?_⟩;have key:∀xs:List UInt8,xs.flatMap (λx=> [B x])=xs.map B:=λxs=>by induction xs with
  |nil=>rfl
  |cons x xs ih=>rw[List.flatMap_cons,ih];rfl
 rwa [key] at h4
theorem args_again (K:Kids P (· <P.types.size))(hz:∀t e,t<P.types.size→P.underlying t=some (.slice e)→0<P.cellsOf e){W':World}{ts:List TypeId}{vs:List Value}{ds:List (DataW H)}{ps:List MemPlace}(hT:∀t∈ts,t<P.types.size)
  (h:DataW.TrodAll enc P W 0 (λ_=>true) true ts vs ds ps) (hk:Kept W W') (sp:Nat→Bool) (hs:∀p∈ps,sp p.block=true):DataW.TrodAll enc P W' 0 sp true ts vs ds ps:=
 DataW.TrodAll.respare K hz hT (trodAll_kept hk h) hs
theorem trodAll_rd :∀{ts:List TypeId} {vs:List Value} {ds:List (DataW H)} {ps:List MemPlace},DataW.TrodAll enc P W 0 (λ_=>true) true ts vs ds ps→vs.length=ts.length∧ds.length=ts.length∧∀(i:Nat) (t:TypeId) (v:Value),ts[i]? =some t→vs[i]? =some v→Rd enc P W t v.cells.toList
 | [],[],[],_,_=>⟨rfl,rfl,λi t v h=>by simp at h⟩
 |t::ts,v::vs,d::ds,ps,⟨p,q,⟨n,h1⟩,h2,_⟩=>by
  obtain ⟨e1,e2,e3⟩:=trodAll_rd h2;refine ⟨by simp[e1],by simp[e2],λi t' v' h h'=> ?_⟩
  cases i with
  |zero=>simp at h h';subst h h';exact ⟨n,_,h1⟩
  |succ i=>exact e3 i t' v' (by simpa using h) (by simpa using h')
structure Arg (enc:TypeId×Value→H)(P:Program)(W:World)(t:TypeId)(v:Value):Prop where
 rd:Rd enc P W t v.cells.toList
 ok:∃base,Value.okWide P W .any base t v
theorem Arg.int {t:TypeId}{k:IntKind}{v:Value}(h:Arg enc P W t v)(ht:P.underlying t=some (.int k)):∃n,v=.int k n∧(Lit.int k n).wf=true:=by
 obtain ⟨r,_,o⟩:=h;obtain ⟨n,rfl⟩:=okWide_int ht o;obtain ⟨m,h1,h2⟩:=r.int ht
 simp[Value.cells] at h1
 subst h1;exact ⟨n,rfl,h2⟩
theorem Arg.bool {t:TypeId}{v:Value}(h:Arg enc P W t v)(ht:P.underlying t=some .bool):∃b,v=.bool b:=by
 obtain ⟨r,_,o⟩:=h;exact okWide_bool ht o
theorem Arg.list {t e:TypeId}{sz:Nat}{v:Value}{α:Type}{g:α→List Value}{Q:α→Prop}(h:Arg enc P W t v)(he:∀r,Rd enc P W e r→∃x,r=g x∧Q x)(ht:P.underlying t=some (.slice e))(hs:P.cellsOf e=sz)(h0:0<sz):
  ∃(a:OA) (c:Nat) (xs:List α),v=.slice a xs.length c∧xs.length≤c∧c≤9223372036854775807∧SlM (all0 W) a xs.length sz (xs.flatMap g)∧∀x∈xs,Q x:=by
 obtain ⟨r,_,o⟩:=h;obtain ⟨a,l,c,rfl⟩:=okWide_slice ht o;obtain ⟨a',c',xs,h1,h2,h3,h4,h5⟩:=r.list he ht hs h0
 simp[Value.cells] at h1
 obtain ⟨rfl,rfl,rfl⟩:=h1;exact ⟨_,_,xs,rfl,h2,h3,h4,h5⟩
theorem Arg.bytes {t e:TypeId}{v:Value}(h:Arg enc P W t v)(ht:P.underlying t=some (.slice e))(he:P.underlying e=some (.int .u8))(hs:P.cellsOf e=1):
  ∃(a:OA) (c:Nat) (bs:List UInt8),v=.slice a bs.length c∧bs.length≤c∧c≤9223372036854775807∧SlM (all0 W) a bs.length 1 (bs.map B):=by
 obtain ⟨r,_,o⟩:=h;obtain ⟨a,l,c,rfl⟩:=okWide_slice ht o;obtain ⟨a',c',xs,h1,h2,h3,h4⟩:=r.bytes ht he hs
 simp[Value.cells] at h1
 obtain ⟨rfl,rfl,rfl⟩:=h1;exact ⟨_,_,xs,rfl,h2,h3,h4⟩
theorem row_post {f:FuncId}{F:Func}{s:ChangeSpec}{tb:TypeId}{args:Array Value}{ds gs:List (DataW H)}{before:List MemPlace}{handsOn again:Bool}(K:Kids P (· <P.types.size))(hz:∀t e,t<P.types.size→P.underlying t=some (.slice e)→0<P.cellsOf e)
  (hT:(F.params.toList.all λt=>decide (t<P.types.size))=true) (hvs:s.vars=[]) (hfn:∀ds:List (DataW H),ds.length=F.params.toList.length→s.fn H ds={results:=[.lit (.bool true)],args:=ds}) (hrt:F.resultTypes= #[tb]) (htb:P.underlying tb=some .bool)
  {base:Nat} (hval:∀(j:Nat) t v,F.params[j]? =some t→args[j]? =some v→Value.okWide P W .any base t v)
  (hW:DataW.Whole enc P F.params.toList s.vars false W args.toList ds gs before)
  (hw:(∀(i:Nat) (t:TypeId) (v:Value),F.params.toList[i]? =some t→args.toList[i]? =some v→Arg enc P W t v)→args.toList.length=F.params.toList.length→CallsS P f args.toList [roM (all0 W)] (λv _=>v=.bool true)):
  Calls P f args W λe W'=>∃v,e=.returned v∧s.post enc P F false true handsOn again W args v W':=by
 have hW':=hW;obtain ⟨p,q,hA,hV,rfl,hfz,hnd⟩:=hW;rw[hvs] at hV;obtain ⟨rfl,rfl⟩:gs=[]∧q=[]:=by
  cases gs with
  |nil=>exact ⟨rfl,hV⟩
  |cons g gs=>exact hV.elim
 obtain ⟨h1,h2,h3⟩:=trodAll_rd hA;have hc:=(hw (λi t v e1 e2=>⟨h3 i t v e1 e2,base,hval i t v (by simpa using e1) (by simpa using e2)⟩) h1).kept;refine hc.mono λe W' ⟨he,hk⟩=> ?_
 subst he;have hf:=hfn ds h2;refine ⟨_,rfl,post_kept (pa:=p) (pv:=[]) hW' (λb sp hd=> ?_) (λsp hsp=> ?_) (λsp _=> ?_) rfl hk ?_⟩
 ·rw[hrt,List.append_nil,hf]
  exact trodAll_cons_mk (shut_bool htb _) trodAll_mk0
 ·rw[List.append_nil,hf]
  exact args_again K hz (λt ht=>of_decide_eq_true (List.all_eq_true.1 hT t ht)) hA hk sp (λx hx=>hsp x (by simp[hx]))
 ·rw[hvs,List.append_nil,hf];rfl
 ·exact ok_one hrt rfl (okWide_bool_mk htb _)
end
end Go.SX
namespace Go.Proofs.YtjlgabojhnnbaaaGreatDoor
open Go Go.SX Go.ChangeShapes Go.WideShapes Go.ChangeAt Go.RowKit
theorem own :ownKnob Tryz.prog.godebug=none:=by kernel_rfl
theorem Rd.i32 {H:Type}{enc:TypeId×Value→H}{W:World}{cs:List Value}(h:Rd enc Tryz.prog W 21 cs):∃z,cs=cI z∧True:=by
 obtain ⟨z,hz,_⟩:=Rd.int h Tryz.underlying21;exact ⟨z,hz,trivial⟩
theorem u64_wf {n:Int}(h:(Lit.int .u64 n).wf=true):0≤n∧n≤18446744073709551615:=by
 have:=(Lit.wf_int_iff .u64 n).1 h;have e1:IntKind.u64.min=0:=by decide
 have e2:IntKind.u64.max=18446744073709551615:=by decide
 rw[e1,e2] at this;exact this
theorem Rd.u64 {H:Type}{enc:TypeId×Value→H}{W:World}{cs:List Value}(h:Rd enc Tryz.prog W 31 cs):∃z,cs=cU z∧(0≤z∧z≤18446744073709551615):=by
 obtain ⟨z,hz,hw⟩:=Rd.int h Tryz.underlying31;exact ⟨z,hz,u64_wf hw⟩
theorem Rd.vec {H:Type}{enc:TypeId×Value→H}{W:World}{cs:List Value}(h:Rd enc Tryz.prog W 34 cs):∃(a:OA) (c:Nat) (xs:List Int),cs=[.slice a xs.length c]∧xs.length≤c∧xs.length≤9223372036854775807∧SlM (all0 W) a xs.length 1 (xs.map I32):=by
 obtain ⟨a,c,ls,h1,h1c,h1m,h1s,h1q⟩:=Rd.list (λr hr=>Rd.i32 hr) h (sz:=1) Tryz.underlying34 zk zd;have hmx:maxLen=9223372036854775807:=by decide
 rw[hmx] at h1m;have hmm:ls.length≤9223372036854775807:=Nat.le_trans h1c h1m;rw[flat_I] at h1s;exact ⟨a,c,ls,h1,h1c,hmm,h1s⟩
set_option maxRecDepth 100000 in
theorem Rd.op {H:Type}{enc:TypeId×Value→H}{W:World}{cs:List Value}(h:Rd enc Tryz.prog W 119 cs):∃o:OV,cs=o.cells∧(SlM (all0 W) o.a o.vec.length 1 (o.vec.map I32)∧o.vec.length≤o.c∧o.vec.length≤9223372036854775807∧0≤o.id∧o.id≤18446744073709551615):=by
 obtain ⟨hl,hf⟩:=h.fields Tryz.underlying119;obtain ⟨x,h0,hx⟩:=Rd.u64 (hf 0 _ rfl);obtain ⟨a,c,xs,h1,h2,h3,h4⟩:=Rd.vec (hf 1 _ rfl);have hl':cs.length=2:=hl.trans zk
 match cs,hl' with
 | [u,v],_=>
  have h0':[u]=[Value.int .u64 x]:=h0;have h1':[v]=[Value.slice a xs.length c]:=h1;simp only[List.cons.injEq,and_true] at h0' h1';subst h0' h1';exact ⟨⟨x,a,c,xs⟩,rfl,h4,h2,h3,hx⟩
def QOps (W:World)(a:OA)(ops:List OV):Prop:=(SlM (all0 W) a ops.length 2 (ops.flatMap OV.cells)∧okR (all0 W) ops)∧(∀u∈ops,u.vec.length≤u.c)∧ops.length≤9223372036854775807
theorem Rd.u8 {H:Type}{enc:TypeId×Value→H}{W:World}{cs:List Value}(h:Rd enc Tryz.prog W 5 cs):∃z,cs=[Value.int .u8 z]:=by
 obtain ⟨z,hz,_⟩:=Rd.int h Tryz.underlying5;exact ⟨z,hz⟩
theorem Rd.ops {H:Type}{enc:TypeId×Value→H}{W:World}{cs:List Value}(h:Rd enc Tryz.prog W 33 cs):∃(a:OA) (c:Nat) (ops:List OV),cs=[.slice a ops.length c]∧QOps W a ops:=by
 obtain ⟨a,c,ls,h1,h1c,h1m,h1s,h1q⟩:=Rd.list (λr hr=>Rd.op hr) h (sz:=2) Tryz.underlying33 zk zd;have hmx:maxLen=9223372036854775807:=by decide
 rw[hmx] at h1m;exact ⟨a,c,ls,h1,⟨h1s,λu hu=>(h1q u hu).1⟩,λu hu=>(h1q u hu).2.1,Nat.le_trans h1c h1m⟩
theorem u8_wf {n:Int}(h:(Lit.int .u8 n).wf=true):0≤n∧n≤255:=bounds_u8 h
theorem Rd.u8b {H:Type}{enc:TypeId×Value→H}{W:World}{cs:List Value}(h:Rd enc Tryz.prog W 5 cs):∃z,cs=[Value.int .u8 z]∧(0≤z∧z≤255):=by
 obtain ⟨z,hz,hw⟩:=Rd.int h Tryz.underlying5;exact ⟨z,hz,u8_wf hw⟩
theorem Rd.i64 {H:Type}{enc:TypeId×Value→H}{W:World}{cs:List Value}(h:Rd enc Tryz.prog W 3 cs):∃z,cs=[I64 z]∧True:=by
 obtain ⟨z,hz,hw⟩:=Rd.int h Tryz.underlying3;exact ⟨z,hz,trivial⟩
theorem Rd.i64b {H:Type}{enc:TypeId×Value→H}{W:World}{cs:List Value}(h:Rd enc Tryz.prog W 3 cs):∃z,cs=[I64 z]∧(-9223372036854775808≤z∧z≤9223372036854775807):=by
 obtain ⟨z,hz,hw⟩:=Rd.int h Tryz.underlying3;exact ⟨z,hz,bounds_i64 hw⟩
theorem Rd.errnob {H:Type}{enc:TypeId×Value→H}{W:World}{cs:List Value}(h:Rd enc Tryz.prog W 26 cs):∃z,cs=[I64 z]∧(-9223372036854775808≤z∧z≤9223372036854775807):=by
 obtain ⟨z,hz,hw⟩:=Rd.int h Tryz.underlying26;exact ⟨z,hz,bounds_i64 hw⟩
theorem Rd.pints {H:Type}{enc:TypeId×Value→H}{W:World}{cs:List Value}(h:Rd enc Tryz.prog W 32 cs):∃(a:OA) (c:Nat) (xs:List Int),cs=[.slice a xs.length c]∧xs.length≤c∧xs.length≤9223372036854775807∧SlM (all0 W) a xs.length 1 (xs.map I64):=by
 obtain ⟨a,c,ls,h1,h1c,h1m,h1s,h1q⟩:=Rd.list (λr hr=>Rd.i64 hr) h (sz:=1) Tryz.underlying32 zk zd;have hmx:maxLen=9223372036854775807:=by decide
 rw[hmx] at h1m;rw[flat_I64] at h1s;exact ⟨a,c,ls,h1,h1c,Nat.le_trans h1c h1m,h1s⟩
set_option maxRecDepth 100000 in
theorem Rd.hit {H:Type}{enc:TypeId×Value→H}{W:World}{cs:List Value}(h:Rd enc Tryz.prog W 219 cs):∃o:HV,cs=o.cells∧(SlM (all0 W) o.a o.vec.length 1 (o.vec.map I32)∧o.vec.length≤o.c):=by
 obtain ⟨hl,hf⟩:=h.fields Tryz.underlying219;obtain ⟨x,h0,hx⟩:=Rd.u64 (hf 0 _ rfl);obtain ⟨y,h1,hy⟩:=Rd.u64 (hf 1 _ rfl);obtain ⟨a,c,xs,h2,h3,h4,h5⟩:=Rd.vec (hf 2 _ rfl);have hl':cs.length=3:=hl.trans zk
 match cs,hl' with
 | [u,v,w],_=>
  have h0':[u]=[Value.int .u64 x]:=h0;have h1':[v]=[Value.int .u64 y]:=h1;have h2':[w]=[Value.slice a xs.length c]:=h2;simp only[List.cons.injEq,and_true] at h0' h1' h2';subst h0' h1' h2';exact ⟨⟨x,y,a,c,xs⟩,rfl,h5,h3⟩
theorem Rd.hits {H:Type}{enc:TypeId×Value→H}{W:World}{cs:List Value}(h:Rd enc Tryz.prog W 35 cs):∃(a:OA) (c:Nat) (hs:List HV),cs=[.slice a hs.length c]∧SlM (all0 W) a hs.length 3 (hs.flatMap HV.cells)∧hs.length≤9223372036854775807∧∀x∈hs,SlM (all0 W) x.a x.vec.length 1 (x.vec.map I32)∧x.vec.length≤x.c:=by
 obtain ⟨a,c,ls,h1,h1c,h1m,h1s,h1q⟩:=Rd.list (λr hr=>Rd.hit hr) h (sz:=3) Tryz.underlying35 zk zd;have hmx:maxLen=9223372036854775807:=by decide
 rw[hmx] at h1m;exact ⟨a,c,ls,h1,h1s,Nat.le_trans h1c h1m,h1q⟩
abbrev sortD {H:Type}(p:ST):DataW H:=.agg [.lit (.string p.1),.lit (.int .i64 (p.2:Int))]
theorem laid_is {H:Type}:(Rows.laid_armillary_note_sorts:DataW H)=.agg (sortsT.map sortD):=by kernel_rfl
theorem flat_of {α:Type}{g:α→List Value}{sz:Nat}(hg:∀x,(g x).length=sz)(h0:0<sz){l:List α}{cs:List Value}(hl:cs.length=l.length*sz)(h:∀i x,l[i]? =some x→(cs.drop (i*sz)).take sz=g x):cs=l.flatMap g:=by
 have hlen:(l.flatMap g).length=l.length*sz:=by
  clear hl h
  induction l with
  |nil=>simp
  |cons y l ih=>rw[List.flatMap_cons,List.length_append,ih,hg,List.length_cons,Nat.succ_mul,Nat.add_comm]
 apply List.ext_getElem?;intro k
 by_cases hk:k<l.length*sz
 ·have hi:k / sz<l.length:=(Nat.div_lt_iff_lt_mul h0).2 hk
  have hr:k % sz<sz:=Nat.mod_lt _ h0;have e:k=k / sz*sz+k % sz:=by rw[Nat.mul_comm];exact (Nat.div_add_mod k sz).symm
  obtain ⟨x,hx⟩:=mem_get hi;have h1:=h _ x hx;have h2:(g x)[k % sz]? =cs[k]? :=by
   rw[←h1,List.getElem?_take_of_lt hr,List.getElem?_drop,←e]
  have h3:k % sz<(g x).length:=by rw[hg];exact hr
  have h4:=flat_get hg l (k / sz) (k % sz) x _ hx (List.getElem?_eq_getElem h3);rw[←e] at h4;rw[h4,←h2,List.getElem?_eq_getElem h3]
 ·rw[List.getElem?_eq_none zo,List.getElem?_eq_none zo]
theorem gSorts :Tryz.prog.globalNamed "armillary/note.sorts" =some 0:=by kernel_rfl
theorem gSortsT :(Tryz.prog.globals[0]?).map (·.type)=some 265:=by kernel_rfl
theorem cellsS :Tryz.prog.cellsOf 233=2:=by kernel_rfl
theorem cellsSA :Tryz.prog.cellsOf 265=46:=by kernel_rfl
theorem cellsStr :Tryz.prog.cellsOf 9=1:=by kernel_rfl
theorem cellsInt :Tryz.prog.cellsOf 3=1:=by kernel_rfl
theorem sort_cells {W:World}{fuel:Nat}{cs:List Value}{p:ST}{q:List MemPlace}(h:DataW.trod (λ_=>()) Tryz.prog W 0 (λ_=>true) false fuel 233 cs=some (sortD p,q)):cs=ST.cells p:=by
 obtain ⟨y0,y1,n,e,hl,h0,h1⟩:=trod_struct2 Tryz.underlying233 h;rw[cellsS] at hl;dsimp only at h0 h1;rw[cellsStr] at h0;rw[cellsInt] at h1;have e':=congrArg Prod.fst e;simp only[DataW.agg.injEq,List.cons.injEq,and_true] at e';obtain ⟨s,hs,hy0,_⟩:=DataW.trod_string Tryz.underlying9 h0;obtain ⟨z,hz,hy1,_⟩:=DataW.trod_int Tryz.underlying3 h1;subst hy0 hy1;simp only[DataW.lit.injEq,Lit.string.injEq,Lit.int.injEq,true_and] at e'
 match cs,hl with
 | [u,v],_=>
  have hs':[u]=[Value.string s]:=hs;have hz':[v]=[Value.int .i64 z]:=hz;simp only[List.cons.injEq,and_true] at hs' hz';subst hs' hz';have:str p.1=Value.string s:=by
   unfold str;rw[e'.1]
  rw[←e'.2,←this]
theorem tab_of_laid {W:World}(h:laidMet Tryz.prog [("armillary/note.sorts",Rows.laid_armillary_note_sorts)] W):TabM (all0 W):=by
 obtain ⟨ps,⟨g',t',cs,fuel,p,q,hg',ht',hvar,hd,_,_⟩,_⟩:=h;obtain rfl:=Option.some.inj (gSorts.symm.trans hg');obtain rfl:=Option.some.inj (gSortsT.symm.trans ht');rw[laid_is] at hd;obtain ⟨xs,m,_,e,hl,hxl,hx⟩:=DataW.trod_array Tryz.underlying265 hd;rw[cellsSA] at hl;have e1:=congrArg Prod.fst e;simp only[DataW.agg.injEq] at e1;have hcs:cs.toList=sortsC:=by
  refine flat_of (g:=ST.cells) (sz:=2) (λ_=>rfl) zd (hl.trans zd) (λi x hi=> ?_);have hi':i<23:=(List.getElem?_eq_some_iff.1 hi).1;have h1:=hx i hi';rw[cellsS] at h1;obtain ⟨y,hy⟩:=mem_get (l:=xs) (by rw[hxl];exact hi');rw[hy] at h1;have h2:(xs.map (·.1))[i]? =some y.1:=by rw[List.getElem?_map,hy];rfl
  rw[←e1,List.getElem?_map,hi] at h2;have h3:=Option.some.inj h2;exact sort_cells (p:=x) (q:=y.2) (by rw[h1,show sortD x=y.1 from h3])
 unfold World.var? at hvar;rw[gSorts] at hvar;simp only[Option.bind_some] at hvar;refine ⟨by decide,.inr ⟨0,0,?_⟩⟩
 cases hb:W.heap[0]? with
 |none=>rw[hb] at hvar;cases hvar
 |some o=>
  rw[hb] at hvar
  cases o with
  |cells l t fz=>
   dsimp only at hvar
   cases hvar
   refine ⟨cs,t,fz,rfl,hb,λj v hv=> ?_⟩;rw[←hcs] at hv;rw[Nat.zero_add]
   simpa using hv
  |_=>cases hvar
end Go.Proofs.YtjlgabojhnnbaaaGreatDoor
namespace Go.SX
open Go
section
variable {κ α : Type} {g : κ → Value} {rr : α → Value}
def itQ (g:κ→Value)(rr:α→Value)(m:List (κ×α))(done:List κ)(last:Option κ)(x:Array MapEntry×Nat×Array Nat):Prop:=
 entsOK g rr m x.1.toList x.2.1∧(∀y∈x.1.toList.zip m,y.1.born∈x.2.2.toList↔y.2.1∈done)∧∀k,last=some k→∃y∈x.1.toList.zip m,y.2.1=k∧∃v0:Array Nat,x.2.2=v0.push y.1.born
def itK (g:κ→Value)(rr:α→Value)(b r:Nat)(m:List (κ×α))(done:List κ)(last:Option κ):HP:=
 exH λx:Array MapEntry×Nat×Array Nat=>allH [pureH (itQ g rr m done last x),pt b (.map x.1 x.2.1),pt r (.mapIter (some b) x.2.1 x.2.2 x.2.1)]
end
class FindIk (r:Nat)(L:HL){κ α:outParam Type}(g:outParam (κ→Value))(rr:outParam (α→Value))(b:outParam Nat)(m:outParam (List (κ×α)))(done:outParam (List κ))(last:outParam (Option κ))(L':outParam (HP→HL)):Prop where
 at_:∃R,L.Perm (itK g rr b r m done last::R)∧∀x,(x::R).Perm (L' x)
instance FindIk.here {κ α:Type}{r b:Nat}{g:κ→Value}{rr:α→Value}{m:List (κ×α)}{done:List κ}{last:Option κ}{L:HL}:FindIk r (itK g rr b r m done last::L) g rr b m done last (λx=>x::L):=⟨L,.refl _,λ_=>.refl _⟩
instance (priority :=low) FindIk.there {κ α:Type} {r b:Nat} {g:κ→Value} {rr:α→Value} {m:List (κ×α)} {done:List κ} {last:Option κ} {A:HP} {L:HL} {L':HP→HL} [h:FindIk r L g rr b m done last L']:FindIk r (A::L) g rr b m done last (λx=>A::L' x):=by
 obtain ⟨R,h1,h2⟩:=h.at_;exact ⟨A::R,(h1.cons A).trans (.swap _ _ _),λx=>List.Perm.trans (.swap _ _ _) ((h2 x).cons A)⟩
section
variable {κ α : Type} {g : κ → Value} {rr : α → Value} {m : List (κ × α)} {done : List κ} {last : Option κ}
end
section
variable {P : Program} {n : Nat} {ops rest : List Oper} {Q : Post} {f : Env} {L : HL} {d : Nat} {ty : TypeId} {pos : String} {af : Array Edge}
variable {κ α : Type} {g : κ → Value} {rr : α → Value} {m : List (κ × α)} {done : List κ} {last : Option κ}
end
end Go.SX
namespace Go.Proofs.YtjlgabojhnnbaaaGreatDoor
open Go Go.SX
attribute [local irreducible] swp opsS thenS blockS retS CallsS St Ent YieldS anyS drawS
structure TR where
 txn:Int
 batch:Int
 stamp:Int
 after:Int
 who:Int
 parts:List Int
 yes:List Int
 acked:List Int
 ops:VL
structure TV where
 txn:Int
 batch:Int
 stamp:Int
 after:Int
 who:Int
 pa:OA
 pc:Nat
 parts:List Int
 ya:OA
 yc:Nat
 yes:List Int
 ka:OA
 kc:Nat
 acked:List Int
 oa:OA
 oc:Nat
 ops:List OV
abbrev TV.abs (t:TV):TR:=⟨t.txn,t.batch,t.stamp,t.after,t.who,t.parts,t.yes,t.acked,t.ops.map OV.abs⟩
abbrev TV.cells (t:TV):List Value:=[.int .u64 t.txn,.int .u64 t.batch,.int .u64 t.stamp,.int .u64 t.after,.int .i64 t.who,.slice t.pa t.parts.length t.pc,.slice t.ya t.yes.length t.yc,.slice t.ka t.acked.length t.kc,.slice t.oa t.ops.length t.oc]
structure JG where
 shards:Int
 dim:Int
 epoch:Int
 seq:Int
 last:Int
 tr:List (Int×TR)
 done:List (Int×Int)
structure okT (M:OM)(t:TV):Prop where
 p:SlM M t.pa t.parts.length 1 (t.parts.map I64)
 y:SlM M t.ya t.yes.length 1 (t.yes.map I64)
 k:SlM M t.ka t.acked.length 1 (t.acked.map I64)
 o:SlM M t.oa t.ops.length 2 (t.ops.flatMap OV.cells)
 ov:okR M t.ops
 pl:t.parts.length≤1000000
 yl:t.yes.length≤1000000
 kl:t.acked.length≤1000000
 ol:t.ops.length≤1000000
theorem okT.mono {M M':OM}{t:TV}(h:okT M t)(hl:leM M M'):okT M' t:=⟨h.p.mono hl,h.y.mono hl,h.k.mono hl,h.o.mono hl,λo ho=>(h.ov o ho).mono hl,h.pl,h.yl,h.kl,h.ol⟩
abbrev TB :=Int×Nat×TV
abbrev ptT (t:Nat×TV):Value:=.pointer (some ⟨t.1,0,none⟩)
structure GQ' (M:OM)(j:JG)(ts:List TB):Prop where
 s1:1≤j.shards
 s2:j.shards≤4
 tr:ts.map (λu=>(u.1,u.2.2.abs))=j.tr
 ok:∀u∈ts,okT M u.2.2
theorem GQ'.mono {M M':OM}{j:JG}{ts:List TB}(h:GQ' M j ts)(hl:leM M M'):GQ' M' j ts:=⟨h.s1,h.s2,h.tr,λu hu=>(h.ok u hu).mono hl⟩
abbrev gT (mt:Nat)(ts:List TB):HP:=mpO U64 ptT mt ts
abbrev gD (md:Nat)(d:List (Int×Int)):HP:=mpO U64 U64 md d
structure GX where
 mt:Nat
 md:Nat
 ts:List TB
section
variable {n : Nat} {ops rest : List Oper} {cd : Code} {Q : Post} {f : Env} {L L0 : HL} {M : OM} {j : JG}
end
def homeV (s id:Int):Int:=((IntKind.u64.wrap (id*11400714819323198485)).fdiv (2^32)).tmod s
abbrev JG0 (shards dim:Int):JG:=⟨shards,dim,0,0,0,[],[]⟩
abbrev decM (p txn stamp code:Int):Int×NA:=(p,{NA.zero with kind:=5,txn:=txn,stamp:=stamp,code:=code})
abbrev repM (to batch stamp code:Int):Int×NA:=(to,{NA.zero with kind:=2,batch:=batch,stamp:=stamp,code:=code})
abbrev goneN (txn:Int):NA:={NA.zero with kind:=22,txn:=txn}
abbrev toldM (t:TR)(stamp code:Int):List (Int×NA):=(t.parts.map λp=>decM p t.txn stamp code)++[repM t.who t.batch stamp code]
end Go.Proofs.YtjlgabojhnnbaaaGreatDoor
namespace Go.SX
open Go
def EntX (L:HL)(F:HL→Prop):Prop:=∀w G,St w (L++G)→∃L2,F L2∧St w (L2++G)
theorem EntX.ent {L L':HL}{F:HL→Prop}(h:Ent L L')(hk:EntX L' F):EntX L F:=λw G t=>hk w G (h w G t)
theorem EntX.done {L:HL}{F:HL→Prop}(h:F L):EntX L F:=λ_ _ t=>⟨L,h,t⟩
theorem EntX.ex {α:Sort _}{X:α→HP}{L:HL}{F:HL→Prop}(h:∀x,EntX (X x::L) F):EntX (exH X::L) F:=λw G t=>let ⟨x,t⟩:=St.open_ex t;h x w G t
theorem EntX.pure {φ:Prop}{L:HL}{F:HL→Prop}(h:φ→EntX L F):EntX (pureH φ::L) F:=λw G t=>let ⟨x,t⟩:=St.open_pure t;h x w G t
theorem EntX.abs (a:OA){t sz m c:Nat}{cs:List Value}{M:OM}{L L0 L1:HL}{F:HL→Prop}[h:PickS a L t sz m c cs L0][h1:PickM L0 M L1](hk:∀M',leM M M'→SlM M' a m sz cs→EntX (roM M'::L1) F):EntX L F:=
 EntX.ent h.ent (EntX.ent Ent.absorb (EntX.ex λM'=>EntX.ent Ent.open_all (EntX.pure λh=>hk M' h.1 h.2)))
end Go.SX
namespace Go.Proofs.YtjlgabojhnnbaaaGreatDoor
open Go Go.SX
attribute [local irreducible] swp opsS thenS blockS retS CallsS St Ent YieldS anyS drawS
structure PG where
 rec_:List NA
 notes:List NA
 mail:List (Int×NA)
 inst:List NA
 els:List (Int×NA)
def PG.none :PG:=⟨[],[],[],[],[]⟩
def voteG (j:JG)(fr:Int)(n:NA):PG:=
 match lkL j.tr n.txn with
 |none=>PG.none
 |some t=>
  if 0<t.stamp∨fr∉t.parts then PG.none
  else if n.code≠0 then ⟨[],[goneN t.txn],toldM t 0 n.code,[],[]⟩
  else if fr∈t.yes then PG.none
  else if t.yes.length+1≠t.parts.length then ⟨[],[{NA.zero with kind:=20,txn:=n.txn,who:=fr}],[],[],[]⟩
  else ⟨[{NA.zero with kind:=17,txn:=t.txn,batch:=t.batch,stamp:=j.last+1,parts:=t.parts}],[],toldM t (j.last+1) 0,[goneN t.txn],toldM t 0 8⟩
def ackG (j:JG)(fr:Int)(n:NA):PG:=
 match lkL j.tr n.txn with
 |none=>PG.none
 |some t=>
  if t.stamp=0∨fr∉t.parts∨fr∈t.acked then PG.none
  else if t.acked.length+1≠t.parts.length then ⟨[],[{NA.zero with kind:=21,txn:=n.txn,who:=fr}],[],[],[]⟩
  else ⟨[{NA.zero with kind:=18,txn:=n.txn}],[],[],[],[]⟩
def probeG (j:JG)(fr:Int)(n:NA):PG:=
 match lkL j.tr n.txn with
 |none=>⟨[],[],[decM fr n.txn 0 6],[],[]⟩
 |some t=>if t.stamp=0 then PG.none else ⟨[],[],[decM fr n.txn t.stamp 0],[],[]⟩
def okNs (M:OM)(a:OA)(xs:List NV):Prop:=SlM M a xs.length 16 (xs.flatMap NV.cells)∧∀n∈xs,okN M n
def okMs (M:OM)(a:OA)(xs:List (Int×NV)):Prop:=SlM M a xs.length 17 (xs.flatMap mcells)∧∀n∈xs,okN M n.2
theorem okNs.mono {M M':OM}{a:OA}{xs:List NV}(h:okNs M a xs)(hl:leM M M'):okNs M' a xs:=⟨h.1.mono hl,λn hn=>(h.2 n hn).mono hl⟩
theorem okMs.mono {M M':OM}{a:OA}{xs:List (Int×NV)}(h:okMs M a xs)(hl:leM M M'):okMs M' a xs:=⟨h.1.mono hl,λn hn=>(h.2 n hn).mono hl⟩
theorem okNs.nil {M:OM}{a:OA}:okNs M a []:=⟨SlM.nil0,λ_ h=>by cases h⟩
theorem okMs.nil {M:OM}{a:OA}:okMs M a []:=⟨SlM.nil0,λ_ h=>by cases h⟩
section
variable {n : Nat} {ops rest : List Oper} {cd : Code} {Q : Post} {f : Env} {L L0 : HL}
end
end Go.Proofs.YtjlgabojhnnbaaaGreatDoor
namespace Go.Proofs.YtjlgabojhnnbaaaGreatDoor
open Go Go.SX
abbrev homeP (s id:Int):Int:=homeV s id+1
def putI (l:List Int)(n:Int):List Int:=l.takeWhile (λx=>decide (x<n))++n::l.dropWhile (λx=>decide (x<n))
def partsG (s:Int)(ops:VL):List Int:=ops.foldl (λl o=>if homeP s o.1∈l then l else putI l (homeP s o.1)) []
def askE (j:JG)(n:NA):Int:=if checkV j.dim n.ops≠0 then checkV j.dim n.ops else if 8≤j.tr.length∨1048575≤j.seq∨1099511627776≤j.last then 8 else 0
abbrev newT (j:JG)(fr:Int)(n:NA):TR:=⟨j.epoch*1048576+j.seq+1,n.batch,0,j.last,fr,partsG j.shards n.ops,[],[],n.ops⟩
abbrev beginN (t:TR):NA:={NA.zero with kind:=19,txn:=t.txn,batch:=t.batch,after:=t.after,who:=t.who,parts:=t.parts,ops:=t.ops}
abbrev prepM (s:Int)(t:TR)(q:Int):Int×NA:=(q,{NA.zero with kind:=3,txn:=t.txn,after:=t.after,parts:=t.parts,ops:=t.ops.filter λo=>decide (homeP s o.1=q)})
def askG (j:JG)(fr:Int)(n:NA):PG:=
 match lkL j.done n.batch with
 |some s=>⟨[],[],[repM fr n.batch s 0],[],[]⟩
 |none=>
  if j.tr.any (λu=>decide (u.2.batch=n.batch))=true then PG.none
  else if askE j n≠0 then ⟨[],[],[repM fr n.batch 0 (askE j n)],[],[]⟩
  else ⟨[],[beginN (newT j fr n)],(newT j fr n).parts.map (prepM j.shards (newT j fr n)),[],[]⟩
def planG (j:JG)(fr:Int)(n:NA):PG:=
 if rightN n=false∨fr<0∨16≤fr then PG.none
 else if n.kind=1 then askG j fr n
 else if n.kind=4 then voteG j fr n
 else if n.kind=6 then ackG j fr n
 else if n.kind=7 then probeG j fr n
 else PG.none
abbrev comT (n:NA):TR:=⟨n.txn,n.batch,0,0,0,n.parts,[],[],[]⟩
abbrev begT (n:NA):TR:=⟨n.txn,n.batch,0,n.after,n.who,n.parts,[],[],n.ops⟩
def saidE (t:TR)(n:NA):Int:=
 if decide (0<t.stamp)≠decide (n.kind=21) then 10
 else if n.who∉t.parts∨n.who∈(if n.kind=21 then t.acked else t.yes) then 1 else 0
def saidT (t:TR)(n:NA):TR:=if n.kind=21 then {t with acked:=putI t.acked n.who} else {t with yes:=putI t.yes n.who}
def comE (j:JG)(n:NA):Int:=if n.stamp=0 then 1 else match lkL j.tr n.txn with
 |some t=>if 0<t.stamp then 10 else 0
 |none=>0
def appGE (j:JG)(n:NA):Int:=
 if rightN n=false then 4
 else if n.kind=16 then if n.mark≤j.epoch then 1 else 0
 else if n.kind=19 then if (lkL j.tr n.txn).isSome then 7 else 0
 else if n.kind=17 then comE j n
 else if n.kind=20∨n.kind=21∨n.kind=18∨n.kind=22 then match lkL j.tr n.txn with
  |none=>6
  |some t=>if n.kind=20∨n.kind=21 then saidE t n else if decide (0<t.stamp)≠decide (n.kind=18) then 10 else 0
 else 4
def appG (j:JG)(n:NA):JG:=
 if appGE j n≠0 then j
 else if n.kind=16 then {j with epoch:=n.mark,seq:=0,tr:=j.tr.filter λu=> !decide (u.2.stamp=0)}
 else if n.kind=19 then {j with tr:=putL j.tr n.txn (begT n),seq:=if n.txn / 1048576=j.epoch then max j.seq (n.txn % 1048576) else j.seq}
 else if n.kind=17 then
  {j with tr:=putL j.tr n.txn {(lkL j.tr n.txn).getD (comT n) with stamp:=n.stamp},done:=putL j.done ((lkL j.tr n.txn).getD (comT n)).batch n.stamp,last:=max j.last n.stamp}
 else if n.kind=20∨n.kind=21 then match lkL j.tr n.txn with
  |some t=>{j with tr:=putL j.tr n.txn (saidT t n)}
  |none=>j
 else {j with tr:=delL j.tr n.txn}
theorem appGE16 {j:JG}{n:NA}(hr:rightN n=true)(hk:n.kind=16):appGE j n=if n.mark≤j.epoch then 1 else 0:=by
 unfold appGE;rw[if_neg (by rw[hr];decide),hk,if_pos rfl]
theorem appGE17 {j:JG}{n:NA}(hr:rightN n=true)(hk:n.kind=17):appGE j n=comE j n:=by
 unfold appGE;rw[if_neg (by rw[hr];decide),hk,if_neg zd,if_neg zd,if_pos rfl]
theorem appGEw {j:JG}{n:NA}(hr:rightN n=true)(hk:n.kind=20∨n.kind=21):appGE j n=match lkL j.tr n.txn with
  |none=>6
  |some t=>saidE t n:=by
 unfold appGE;rw[if_neg (by rw[hr];decide),if_neg zo,if_neg zo,if_neg zo,if_pos zo]
 cases lkL j.tr n.txn with
 |none=>rfl
 |some t=>dsimp only;rw[if_pos hk]
theorem appG16 {j:JG}{n:NA}(h:appGE j n=0)(hk:n.kind=16):appG j n={j with epoch:=n.mark,seq:=0,tr:=j.tr.filter λu=> !decide (u.2.stamp=0)}:=by
 unfold appG;rw[if_neg (by rw[h];decide),if_pos hk]
theorem appG19 {j:JG}{n:NA}(h:appGE j n=0)(hk:n.kind=19):appG j n={j with tr:=putL j.tr n.txn (begT n),seq:=if n.txn / 1048576=j.epoch then max j.seq (n.txn % 1048576) else j.seq}:=by
 unfold appG;rw[if_neg (by rw[h];decide),if_neg zo,if_pos hk]
theorem appG17 {j:JG}{n:NA}(h:appGE j n=0)(hk:n.kind=17):appG j n={j with tr:=putL j.tr n.txn {(lkL j.tr n.txn).getD (comT n) with stamp:=n.stamp},done:=putL j.done ((lkL j.tr n.txn).getD (comT n)).batch n.stamp,last:=max j.last n.stamp}:=by
 unfold appG;rw[if_neg (by rw[h];decide),if_neg zo,if_neg zo,if_pos hk]
theorem appGw {j:JG}{n:NA}(h:appGE j n=0)(hk:n.kind=20∨n.kind=21){t:TR}(ht:lkL j.tr n.txn=some t):appG j n={j with tr:=putL j.tr n.txn (saidT t n)}:=by
 unfold appG;rw[if_neg (by rw[h];decide),if_neg zo,if_neg zo,if_neg zo,if_pos hk,ht]
theorem appGe {j:JG}{n:NA}(h:appGE j n=0)(hk:n.kind=18∨n.kind=22):appG j n={j with tr:=delL j.tr n.txn}:=by
 unfold appG;rw[if_neg (by rw[h];decide),if_neg zo,if_neg zo,if_neg zo,if_neg zo]
theorem appGno {j:JG}{n:NA}(h:appGE j n≠0):appG j n=j:=by unfold appG;rw[if_pos h]
theorem putI_mem {l:List Int}{n x:Int}:x∈putI l n↔x=n∨x∈l:=by
 unfold putI;rw[List.mem_append,List.mem_cons]
 constructor
 ·rintro (h|h|h)
  ·exact .inr ((List.takeWhile_sublist _).subset h)
  ·exact .inl h
  ·exact .inr ((List.dropWhile_sublist _).subset h)
 ·rintro (h|h)
  ·exact .inr (.inl h)
  ·rw[←List.takeWhile_append_dropWhile (p:=λx=>decide (x<n)) (l:=l)] at h
   rcases List.mem_append.1 h with h|h
   ·exact .inl h
   ·exact .inr (.inr h)
abbrev Rise (l:List Int):Prop:=l.Pairwise (· < ·)
theorem putI_rise {l:List Int}{n:Int}(h:Rise l)(hn:n∉l):Rise (putI l n):=by
 unfold putI
 induction l with
 |nil=>simp[Rise]
 |cons a l ih=>
  have ha:=List.pairwise_cons.1 h;have hne:n≠a∧n∉l:=by simpa using hn
  by_cases hx:a<n
  ·rw[List.takeWhile_cons_of_pos (by simpa using hx),List.dropWhile_cons_of_pos (by simpa using hx),List.cons_append]
   refine List.pairwise_cons.2 ⟨λy hy=> ?_,ih ha.2 hne.2⟩
   rcases putI_mem.1 (show y∈putI l n from hy) with rfl|hy
   ·exact hx
   ·exact ha.1 y hy
  ·rw[List.takeWhile_cons_of_neg (by simpa using hx),List.dropWhile_cons_of_neg (by simpa using hx),List.nil_append]
   refine List.pairwise_cons.2 ⟨λy hy=> ?_,h⟩
   rcases List.mem_cons.1 hy with rfl|hy
   ·omega
   ·have:=ha.1 y hy;omega
end Go.Proofs.YtjlgabojhnnbaaaGreatDoor
namespace Go.SX
open Go
section
variable {P : Program} {n : Nat} {ops rest : List Oper} {Q : Post} {f : Env} {A L : HL}
variable {d : Tmp} {ty : TypeId} {pos : String} {af : Array Edge}
theorem run_copy_sz {w:World}{dT sT ty e t0:TypeId}{b o dl dc k kc sz:Nat}{a:Addr}{cs l:List Value}(hu:P.underlying dT=some (.slice e))(hs:∀w,(sizeOf e).run P w=.ok sz w)
  (hn:cs.length=min k dl*sz) (hrow:w.heap[b]? =some (cl l t0)) (hl:o+cs.length≤l.length) (hsrc:∀j v,cs[j]? =some v→w.cell? (a.add j)=some v) (h1:∀v∈cs,v.oneCell'=true):
  (Builtin.copy_ #[dT,sT] ty #[.slice (some ⟨b,o,none⟩) dl dc,.slice (some a) k kc]).run P w=.ok (goInt (min k dl:Nat)) (w.setRow b (putAt l o cs).toArray):=by
 have hld:=run_loadCells_list (P:=P) w a cs hsrc;have hst:=run_storeCells_at P b o t0 cs 0 l.toArray w hrow (by simpa using hl) h1;rw[hn] at hld;simp only[Nat.add_zero] at hst;have hp:putAt l o cs=List.take o l++cs++List.drop (o+cs.length) l:=rfl;rw[hp];have hm:Nat.min k dl=min k dl:=rfl
 simp[Builtin.copy_,run_underlying hu,Builtin.lenOf,Builtin.firstCells,hs,hm,hld,hst]
theorem S.cpy {x y:Operand}{t tx e t0:TypeId}{sz bts:Nat}{ag:Bool}{zs:List Value}{b o dl dc b2 o2 k kc:Nat}{l l' ys:List Value}{L':Obj→HL}[h:SlTy P t e][h2:Ty P e ag sz zs bts][hu:UpdB b L (cl l t0) L']
  (hx:ev f x=some (.slice (some ⟨b,o,none⟩) dl dc)) (hy:ev f y=some (.slice (some ⟨b2,o2,none⟩) k kc)) (hr:RdC L b2 o2 ys) (hn:ys.length=min k dl*sz) (hl:o+ys.length≤l.length) (h1:ys.all (·.oneCell')=true) (hl':putAt l o ys=l')
  (hk:opsS P n ops rest Q (upd f d (.int .i64 (min k dl:Nat))) (L' (cl l' t0))):
  opsS P n ops (⟨some d,.call ⟨.builtin .copy,#[x,y],#[t,tx]⟩,ty,pos,af,none⟩::rest) Q f L:=by
 refine opsS_value (R := fun v L1 => v = .int .i64 (min k dl : Nat) ∧ L1 = L' (cl l' t0)) (fun F ac w s t1 => ?_) (by rintro _ _ ⟨rfl,rfl⟩;exact hk);have hrow := hu.read t1;have hrun := run_copy_sz (P := P) (w := w) (dT := t) (sT := tx) (ty := ty) (e := e) (t0 := t0) (b := b) (o := o) (dl := dl) (dc := dc) (k := k) (kc := kc) (sz := sz) (a := ⟨b2,o2,none⟩) (cs := ys) (l := l) h.raw h2.size hn hrow hl (fun j v e => by
  have:=hr w F t1 j v e;have e2:(⟨b2,o2,none⟩:Addr).add j=⟨b2,o2+j,none⟩:=by unfold Addr.add;split<;>simp_all
  rw[e2];exact this) (λv hv=>by simpa using List.all_eq_true.1 h1 v hv)
 refine ⟨_,w.setRow b l'.toArray,_,?_,setRow_heap_of hrow t1,rfl,rfl⟩;rw[←hl']
 simp[execOp,resolve,invoke,s.eval hx,s.eval hy,builtin,hrun,goInt]
end
end Go.SX
namespace Go.Proofs.YtjlgabojhnnbaaaGreatDoor
open Go Go.SX
attribute [local irreducible] swp opsS thenS blockS retS CallsS St Ent YieldS anyS drawS
attribute [local irreducible] ar
end Go.Proofs.YtjlgabojhnnbaaaGreatDoor
namespace Go.Proofs.YtjlgabojhnnbaaaGreatDoor
open Go Go.SX
attribute [local irreducible] swp opsS thenS blockS retS CallsS St Ent YieldS anyS drawS
end Go.Proofs.YtjlgabojhnnbaaaGreatDoor
namespace Go.Proofs.YtjlgabojhnnbaaaGreatDoor
open Go Go.SX
attribute [local irreducible] swp opsS thenS blockS retS CallsS St Ent YieldS anyS drawS
end Go.Proofs.YtjlgabojhnnbaaaGreatDoor
namespace Go.Proofs.YtjlgabojhnnbaaaGreatDoor
open Go Go.SX
structure OneT (j:JG)(Y:Int→Int→Prop)(D:List (Int×Int))(x:Int)(t:TR):Prop where
 xx:t.txn=x
 x1:1≤x
 x2:x≤j.seq
 r:Rise t.parts
 pb:∀q∈t.parts,1≤q∧q≤3
 yn:t.yes.Nodup
 ys:∀q∈t.yes,q∈t.parts∧Y x q
 st:0≤t.stamp
 d:t.stamp=0→lkL D x=none
 b:t.stamp=0→lkL j.done t.batch=none
structure GI (j:JG)(k:Nat)(Y:Int→Int→Prop)(D:List (Int×Int)):Prop where
 e:j.epoch=0
 sh:j.shards=3
 s0:0≤j.seq
 s1:j.seq≤k
 l0:0≤j.last
 l1:j.last≤k
 kt:keysOK j.tr
 kd:keysOK j.done
 kD:keysOK D
 tx:∀x t,lkL j.tr x=some t→OneT j Y D x t
 dd:∀t s,lkL D t=some s→t≤j.seq∧s≠0
 dp:∀t s,lkL j.done t=some s→s≠0
 b1:∀x t y u,lkL j.tr x=some t→lkL j.tr y=some u→t.stamp=0→u.stamp=0→t.batch=u.batch→x=y
theorem OneT.to {j j':JG}{Y Y':Int→Int→Prop}{D:List (Int×Int)}{x:Int}{t:TR}(h:OneT j Y D x t)(hs:j.seq≤j'.seq)(hd:j'.done=j.done)(hY:∀x q,Y x q→Y' x q):OneT j' Y' D x t:=
 ⟨h.xx,h.x1,by have:=h.x2;omega,h.r,h.pb,h.yn,λq hq=>⟨(h.ys q hq).1,hY _ _ (h.ys q hq).2⟩,h.st,h.d,by rw[hd];exact h.b⟩
theorem GI.put {j:JG}{k:Nat}{Y:Int→Int→Prop}{D:List (Int×Int)}(h:GI j k Y D){x:Int}{t t':TR}(ht:lkL j.tr x=some t)(h':OneT j Y D x t')(hb:t'.batch=t.batch)(hs:t'.stamp=t.stamp):GI {j with tr:=putL j.tr x t'} k Y D:=by
 have hl:∀y u,lkL (putL j.tr x t') y=some u→(y=x∧u=t')∨(y≠x∧lkL j.tr y=some u):=by
  intro y u hu;rw[lkL_put h.kt] at hu
  by_cases hy:y=x
  ·rw[if_pos hy] at hu;exact .inl ⟨hy,by injection hu with hu;exact hu.symm⟩
  ·rw[if_neg hy] at hu;exact .inr ⟨hy,hu⟩
 refine ⟨h.e,h.sh,h.s0,h.s1,h.l0,h.l1,putL_ok h.kt _ _,h.kd,h.kD,λy u hu=> ?_,h.dd,h.dp,λy u z v hu hv e1 e2 e3=> ?_⟩
 ·rcases hl y u hu with ⟨rfl,rfl⟩|⟨_,hu⟩
  ·exact h'.to (Int.le_refl _) rfl λ_ _ h=>h
  ·exact (h.tx y u hu).to (Int.le_refl _) rfl λ_ _ h=>h
 ·rcases hl y u hu with ⟨rfl,rfl⟩|⟨_,hu'⟩<;>rcases hl z v hv with ⟨rfl,rfl⟩|⟨_,hv'⟩
  ·rfl
  ·exact h.b1 _ _ _ _ ht hv' zo e2 (by rw[←hb];exact e3)
  ·exact h.b1 _ _ _ _ hu' ht e1 zo (by rw[←hb];exact e3)
  ·exact h.b1 _ _ _ _ hu' hv' e1 e2 e3
theorem right_opsG {n:NA}(h:rightN n=true):n.ops.any badOp=false∧n.ops.length≤16:=by
 unfold rightN boundN at h;simp only[Bool.and_eq_true,Bool.not_eq_true',Bool.or_eq_false_iff,decide_eq_false_iff_not] at h;exact ⟨h.2.1.2,by omega⟩
def MO (n:NA)(D:List (Int×Int))(ms:List (Int×NA)):Prop:=∀m∈ms,m.2.kind=5→n.kind=7∨lkL D m.2.txn=none
theorem MO.nil {n:NA}{D:List (Int×Int)}:MO n D []:=λ_ h=>by cases h
structure NZ (r:NA):Prop where
 t0:0≤r.txn
 t1:r.txn<18446744073709551616
 s:0≤r.stamp
 m:0≤r.mark
 a:0≤r.after
inductive OnceC (j:JG)(k:Nat)(Y:Int→Int→Prop)(D:List (Int×Int))(n:NA)(pl:PG):Prop
 |a (h1:pl.rec_=[]) (h2:pl.notes=[]) (h3:MO n D pl.mail) (h4:GI j (k+1) Y D)
 |b (r:NA) (hz:NZ r) (h1:pl.rec_=[]) (h2:pl.notes=[r]) (h3:MO n D pl.mail) (hr:r.kind=19∨r.kind=20∨r.kind=21∨r.kind=22) (h4:appGE j r=0) (h5:r.kind=22→lkL D r.txn=none) (h6:GI (appG j r) (k+1) Y D) (h7:(appG j r).done=j.done) (h8:(appG j r).last=j.last)
 |c (r:NA) (hz:NZ r) (h1:pl.rec_=[r]) (h2:pl.notes=[]) (h3:pl.mail=[]) (hr:r.kind=18) (h4:appGE j r=0) (h6:GI (appG j r) (k+1) Y D) (h7:(appG j r).done=j.done) (h8:(appG j r).last=j.last)
 |d (r:NA) (hz:NZ r) (h1:pl.rec_=[r]) (h2:pl.notes=[]) (hr:r.kind=17) (h3:∀m∈pl.mail,m.2.kind=5→m.2.txn=r.txn∧m.2.stamp=r.stamp∧m.2.code=0) (h4:appGE j r=0) (h5:lkL D r.txn=none) (h6:r.stamp=j.last+1) (h7:lkL j.done r.batch=none)
   (h8:∀q∈r.parts,Y r.txn q) (h9:GI (appG j r) (k+1) Y (putL D r.txn r.stamp)) (ha:(appG j r).done=putL j.done r.batch r.stamp) (hb:(appG j r).last=r.stamp)
end Go.Proofs.YtjlgabojhnnbaaaGreatDoor
namespace Go.Proofs.YtjlgabojhnnbaaaGreatDoor
open Go Go.SX
attribute [local irreducible] swp opsS thenS blockS retS CallsS St Ent YieldS anyS drawS
theorem RdS.own {L:HL}{t sz m c:Nat}{a:OA}{cs:List Value}{L':HP→HL}[h:UpdS a L t sz m c cs L'](ha:m=0∨∃b,a=some ⟨b,0,none⟩)(hl:cs.length=m*sz):RdS L a m sz cs:=by
 refine ⟨hl,ha.imp id ?_⟩;rintro ⟨b,rfl⟩;obtain ⟨R,p1,_⟩:=h.at_;exact ⟨b,0,rfl,RdC.slO (t:=t) (sz:=sz) (m:=m) (c:=c) ⟨R,Ent.perm p1⟩⟩
end Go.Proofs.YtjlgabojhnnbaaaGreatDoor
namespace Go.SX
open Go
section
variable {P : Program} {n : Nat} {ops : List Oper} {Q : Post} {f : Env} {A L : HL} {E cs σ : List Nat} {listed : Array Bool}
theorem one_ofA {i:Nat}{o:Oper}{F:HL}{a:Act}{w:World}{k:Nat}(hi:ops[i]? =some o)(ok:okOps n ops=true)(s:Sim n a f)(t:St w (L++(A++F)))(hsh:shut ops.toArray (listed.setIfInBounds i true))
    (h:oneS P n ops o (λf L2=>∃L',Ent L2 (L'++A)∧anyS P n ops Q cs A k (listed.setIfInBounds i true) true f L') f (L++A)):
    wpOp P ops.toArray (lift n F Q) i (λa w=>until_ cs (λw=>∃L,St w (L++(A++F))) (listed.setIfInBounds i true) w∧anyI P ops.toArray (lift n F Q) (until_ cs λw=>∃L,St w (L++(A++F))) k (listed.setIfInBounds i true) a w) a w:=by
  have h2:=h (by simpa[okOps] using okOps_at ok hi) F a w s (by simpa using t);simp only[wpList] at h2;unfold wpOp;have hi':ops.toArray[i]? =some o:=by simpa using hi
  simp only[hi'];have key:∀a w,lift n F (λe f L2=>match e with| .normal=>∃L',Ent L2 (L'++A)∧anyS P n ops Q cs A k (listed.setIfInBounds i true) true f L'|_=>False) .normal a w→
      until_ cs (λw=>∃L,St w (L++(A++F))) (listed.setIfInBounds i true) w∧anyI P ops.toArray (lift n F Q) (until_ cs λw=>∃L,St w (L++(A++F))) k (listed.setIfInBounds i true) a w:=by
    rintro a w ⟨f,L2,s,t,L',he,q⟩;have t3:=he w F t;exact ⟨.inr ⟨L',by simpa using t3⟩,q ok F a w s hsh (by simpa using t3) (λh=>by cases h)⟩
  by_cases hw:Region.wanted o (yielded ops.toArray a.tmps)=true
  · rw[if_pos hw] at h2 ⊢
    refine .inl ?_
    rcases h2 with h2|⟨_,a',w',f,L,_,_,q⟩
    · unfold Oper.wp at h2 ⊢
      generalize (execOp a.eval o).run P w=r at*
      cases r with
      |ok m w'=>
        cases m<;>simp only[Oper.upon] at h2 ⊢ <;>first
          |exact key _ _ h2
          |exact h2
          | (refine Calls.mono h2 fun e w'' he => ?_
             cases e with
             |returned u=>exact key _ _ he
             |panicked c=>obtain ⟨_,_,_,_,q⟩:=he;exact q.elim
             |outgrown=>obtain ⟨_,_,_,_,_,_,q⟩:=he;exact q.elim)
          |exact Rows.mono h2 λ_ _ he=>key _ _ he
      |halt x w'=>cases x<;>simp only[Oper.upon] at h2 ⊢ <;>first|exact h2|(obtain ⟨_,_,_,_,q⟩:=h2;exact q.elim)
    · exact q.elim
  · rw[if_neg hw] at h2 ⊢
    exact key _ _ h2
theorem A.oneA (i:Nat){k:Nat}{o:Oper}(hr:Region.ready .any ops.toArray listed=[i])(hi:ops[i]? =some o)
  (h:oneS P n ops o (λf L2=>∃L',Ent L2 (L'++A)∧anyS P n ops Q cs A k (listed.setIfInBounds i true) true f L') f (L++A)):anyS P n ops Q cs A (k+1) listed true f L:=by
 intro ok F a w s hsh t hh;refine ⟨λh0=>(by rw[h0] at hr;cases hr),λj hj=> ?_⟩;have hri:i∈Region.ready .any ops.toArray listed:=by rw[hr];simp
 rw[hr] at hj;obtain rfl:j=i:=by simpa using hj
 exact one_ofA hi ok s (by simpa using t) (hsh.set hri) h
class AppL (A L:HL)(L2:outParam (HL)):Prop where
 eq:A++L=L2
instance AppL.nil {L:HL}:AppL [] L L:=⟨rfl⟩
instance AppL.cons {x:HP}{A L L2:HL}[h:AppL A L L2]:AppL (x::A) L (x::L2):=⟨congrArg (List.cons x) h.eq⟩
theorem D.ea {i:Nat}{o:Oper}{L2:HL}[hL:AppL A L L2](hi:ops[i]? =some o)(h9:Nat.beq i 99999=false)(hE:E.contains i=true)
  (h:opsS P n ops [o] (thenS (λf L2=>∃L',Ent L2 (A++L')∧drawS P n ops E cs A σ Q (listed.setIfInBounds i true) true f L') (λ_ _ _=>False)) f L2):drawS P n ops E cs A (i::σ) Q listed true f L:=by
 intro ho hs hQ;simp only[ordOK,h9,hE,cond_true,cond_false,Bool.and_eq_true,beq_iff_eq] at ho;refine _root_.Go.SX.A.oneA i ho.1 hi (opsS_ent (Ent.perm (List.perm_append_comm.trans (hL.eq▸List.Perm.refl _))) λok F a w s t=>wpList_mono (h ok F a w s t) ?_);rintro e a w ⟨f,L,s,t,q⟩
 cases e<;>first|exact q.elim|(obtain ⟨L',he,q⟩:=q;exact ⟨f,L,s,t,L',he.trans (Ent.perm List.perm_append_comm),q ho.2 hs hQ⟩)
class PickL (A L:HL)(L':outParam (HL)):Prop where
 ent:Ent L (A++L')
instance PickL.nil {L:HL}:PickL [] L L:=⟨Ent.refl _⟩
instance PickL.cons {x:HP}{A L L1 L':HL}[h1:Pick x L L1][h2:PickL A L1 L']:PickL (x::A) L L':=⟨h1.ent.trans h2.ent.cons⟩
theorem D.back {L':HL}[h:PickL A L L'](hk:drawS P n ops E cs A σ Q listed true f L'):∃L',Ent L (A++L')∧drawS P n ops E cs A σ Q listed true f L':=⟨L',h.ent,hk⟩
end
end Go.SX
namespace Go.Proofs.YtjlgabojhnnbaaaGreatDoor
open Go Go.SX
attribute [local irreducible] swp opsS thenS blockS retS CallsS St Ent YieldS anyS drawS
structure JB (j:JG):Prop where
 e0:0≤j.epoch
 e1:j.epoch≤1099511627776
 s0:0≤j.seq
 s1:j.seq<1048576
 l0:0≤j.last
 l1:j.last≤1099511627776
 d1:1≤j.dim
 d2:j.dim≤8
structure WT (x:Int)(t:TR):Prop where
 xx:t.txn=x
 x0:0≤x
 st:0≤t.stamp
 r:Rise t.parts
 pl:t.parts.length≤4
 pb:∀q∈t.parts,0≤q∧q<16
 yr:Rise t.yes
 ys:∀q∈t.yes,q∈t.parts
 kr:Rise t.acked
 ks:∀q∈t.acked,q∈t.parts
 ol:t.ops.length≤16
structure WG (j:JG):Prop where
 b:JB j
 kt:keysOK j.tr
 kd:keysOK j.done
 tx:∀u∈j.tr,WT u.1 u.2
 dp:∀u∈j.done,0<u.2
theorem WG.lk {j:JG}(h:WG j){x:Int}{t:TR}(ht:lkL j.tr x=some t):WT x t:=h.tx _ ((lkL_iff h.kt).1 ht)
end Go.Proofs.YtjlgabojhnnbaaaGreatDoor
namespace Go.SX
open Go
end Go.SX
namespace Go.Proofs.YtjlgabojhnnbaaaGreatDoor
open Go Go.SX
attribute [local irreducible] swp opsS thenS blockS retS CallsS St Ent YieldS anyS drawS
theorem GQ'.upd {M:OM}{j j':JG}{ts:List TB}(h:GQ' M j ts)(hk:keysOK j.tr){k:Nat}{x:Int}{b:Nat}{t t':TV}(hx:ts[k]? =some (x,b,t))(ht:okT M t')(hs:j'.shards=j.shards)(htr:j'.tr=putL j.tr x t'.abs):GQ' M j' (ts.set k (x,b,t')):=by
 refine ⟨by rw[hs];exact h.s1,by rw[hs];exact h.s2,?_,λu hu=> ?_⟩
 ·rw[htr,List.map_set,h.tr]
  have hkl:k<ts.length:=(List.getElem?_eq_some_iff.1 hx).1;have hkt:k<j.tr.length:=by rw[←h.tr,List.length_map];exact hkl
  have he:j.tr[k]=(x,t.abs):=by
   have e2:=(List.getElem?_eq_some_iff.1 hx).2;simp only[←h.tr,List.getElem_map,e2]
  rcases keyCase j.tr hk x with ⟨p,a,q,hpq,hp,hqn⟩|hn
  ·rw[hpq,putL_mid hp hqn]
   have hkp:k=p.length:=by
    have hm:j.tr[k]? =some (x,t.abs):=by rw[List.getElem?_eq_getElem hkt,he]
    rw[hpq] at hm
    rcases Nat.lt_trichotomy k p.length with h1|h1|h1
    ·rw[List.getElem?_append_left h1] at hm
     exact absurd rfl (hp _ (List.mem_of_getElem? hm))
    ·exact h1
    ·rw[List.getElem?_append_right zo] at hm
     obtain ⟨d,hd⟩:∃d,k - p.length=d+1:=⟨k - p.length - 1,by omega⟩;rw[hd,List.getElem?_cons_succ] at hm;exact absurd rfl (hqn _ (List.mem_of_getElem? hm))
   subst hkp;rw[List.set_append_right _ _ (Nat.le_refl _),Nat.sub_self,List.set_cons_zero]
  ·exact absurd rfl (hn (x,t.abs) (by rw[←he];exact List.getElem_mem hkt))
 ·rcases List.mem_or_eq_of_mem_set hu with hu|hu
  ·exact h.ok u hu
  ·subst hu;exact ht
end Go.Proofs.YtjlgabojhnnbaaaGreatDoor
namespace Go.Proofs.YtjlgabojhnnbaaaGreatDoor
open Go Go.SX
attribute [local irreducible] swp opsS thenS blockS retS CallsS St Ent YieldS anyS drawS
abbrev keyT (t:TV):Int×TR:=(t.txn,t.abs)
structure okC (t:TV):Prop where
 y:t.yes.length≤t.yc
 k:t.acked.length≤t.kc
structure RG (M:OM)(j:JG)(ta:OA)(tc:Nat)(ts:List TV)(da:OA)(ds:List (Int×Int)):Prop where
 s1:1≤j.shards
 s2:j.shards≤4
 tp:(ts.map keyT).Perm j.tr
 sT:(ts.map (·.txn)).Pairwise (· < ·)
 ok:∀t∈ts,okT M t
 oc:∀t∈ts,okC t
 tS:SlM M ta ts.length 9 (ts.flatMap TV.cells)
 tc:ts.length≤tc
 dp:ds.Perm j.done
 sD:(ds.map (·.1)).Pairwise (· < ·)
 dS:SlM M da ds.length 2 (ds.flatMap dC)
theorem RG.mono {M M':OM}{j:JG}{ta da:OA}{tc:Nat}{ts:List TV}{ds:List (Int×Int)}(h:RG M j ta tc ts da ds)(hl:leM M M'):RG M' j ta tc ts da ds:=
 ⟨h.s1,h.s2,h.tp,h.sT,λt ht=>(h.ok t ht).mono hl,h.oc,h.tS.mono hl,h.tc,h.dp,h.sD,h.dS.mono hl⟩
structure RGX where
 ta:OA
 tc:Nat
 ts:List TV
 da:OA
 dc:Nat
 ds:List (Int×Int)
section
variable {n : Nat} {ops rest : List Oper} {cd : Code} {Q : Post} {f : Env} {L L0 : HL} {M : OM} {j : JG}
end
section
variable {M M' : OM} {j j' : JG} {ta ta' da da' : OA} {tc tc' : Nat} {ts ts' : List TV} {ds ds' : List (Int × Int)}
theorem RG.len (h:RG M j ta tc ts da ds):ts.length=j.tr.length:=by have:=h.tp.length_eq;rwa [List.length_map] at this
theorem RG.has (h:RG M j ta tc ts da ds)(hk:keysOK j.tr){u:TV}(hu:u∈ts):lkL j.tr u.txn=some u.abs:=
 (lkL_iff hk).2 (h.tp.mem_iff.1 (List.mem_map.2 ⟨u,hu,rfl⟩))
theorem RG.no (h:RG M j ta tc ts da ds){x:Int}(hn:∀u∈ts,u.txn≠x):lkL j.tr x=none:=by
 refine lkL_none λw hw=> ?_
 obtain ⟨u,hu,rfl⟩:=List.mem_map.1 (h.tp.mem_iff.2 hw);exact hn u hu
theorem RG.any (h:RG M j ta tc ts da ds)(b:Int):(j.tr.any λu=>decide (u.2.batch=b))=ts.any λu=>decide (u.batch=b):=by
 rw[←h.tp.any_eq,List.any_map];rfl
theorem RG.keys (h:RG M j ta tc ts da ds):sortL (j.tr.map (·.1))=ts.map (·.txn):=by
 refine sorted_uniq ((sortL_perm _).trans ?_) (sortL_sorted _) (h.sT.imp λh=>Int.le_of_lt h);have:=(h.tp.map (·.1)).symm
 rwa [List.map_map] at this
theorem RG.abs (h:RG M j ta tc ts da ds)(hk:keysOK j.tr):(sortL (j.tr.map (·.1))).filterMap (λx=>lkL j.tr x)=ts.map TV.abs:=by
 rw[h.keys,List.filterMap_map];have:∀l:List TV,(∀u∈l,u∈ts)→l.filterMap ((λx=>lkL j.tr x)∘λt=>t.txn)=l.map TV.abs:=by
  intro l
  induction l with
  |nil=>exact λ_=>rfl
  |cons u l ih=>
   intro hl;rw[List.filterMap_cons];have e:((λx=>lkL j.tr x)∘λt:TV=>t.txn) u=some u.abs:=h.has hk (hl u List.mem_cons_self);rw[e,List.map_cons,←ih λv hv=>hl v (List.mem_cons_of_mem _ hv)]
 exact this ts λ_ h=>h
theorem RG.same (h:RG M j ta tc ts da ds)(hs:j'.shards=j.shards)(htr:j'.tr=j.tr)(hd:j'.done=j.done):RG M j' ta tc ts da ds:=
 ⟨hs▸h.s1,hs▸h.s2,htr▸h.tp,h.sT,h.ok,h.oc,h.tS,h.tc,hd▸h.dp,h.sD,h.dS⟩
end
abbrev TV.val (t:TV):Value:=.agg t.cells.toArray
end Go.Proofs.YtjlgabojhnnbaaaGreatDoor
namespace Go.Proofs.YtjlgabojhnnbaaaGreatDoor
open Go Go.SX
theorem partsV_get {l:List Int}(h:partsV l=true){k:Nat}(hk:k<l.length):0≤l[k]∧l[k]<16∧(∀(h0:0<k),l[k - 1]'(by omega)<l[k]):=by
 unfold partsV at h;have:=List.all_eq_true.1 h k (List.mem_range.2 hk);unfold okP at this;have e:∀i (hi:i<l.length),l.getD i 0=l[i]:=λi hi=>by simp[List.getD,hi]
 rw[e k hk] at this;simp only[Bool.and_eq_true,Bool.or_eq_true,decide_eq_true_eq] at this;refine ⟨this.1.1,this.1.2,λh0=> ?_⟩
 rcases this.2 with h1|h1
 ·omega
 ·rwa [e (k - 1) zo] at h1
theorem partsV_ok {l:List Int}(h:partsV l=true):Rise l∧∀q∈l,0≤q∧q<16:=by
 constructor
 ·refine List.pairwise_iff_getElem.2 ?_
  intro i j hi hj hij
  induction j with
  |zero=>omega
  |succ j ih=>
   have hs:=(partsV_get h hj).2.2 zo;simp only[Nat.add_sub_cancel] at hs
   by_cases he:i=j
   ·subst he;exact hs
   ·exact Int.lt_trans (ih zo zo) hs
 ·intro q hq
  obtain ⟨k,hk,rfl⟩:=List.getElem_of_mem hq;exact ⟨(partsV_get h hk).1,(partsV_get h hk).2.1⟩
theorem right_parts {n:NA}(h:rightN n=true):Rise n.parts∧(∀q∈n.parts,0≤q∧q<16)∧n.parts.length≤4:=by
 unfold rightN boundN at h;simp only[Bool.and_eq_true,Bool.not_eq_true',Bool.or_eq_false_iff,decide_eq_false_iff_not] at h;have:=partsV_ok h.2.1.1.2;exact ⟨this.1,this.2,by omega⟩
theorem right_max {n:NA}(h:rightN n=true):n.stamp≤1099511627776∧n.mark≤1099511627776:=by
 unfold rightN boundN at h;simp only[Bool.and_eq_true,Bool.not_eq_true',Bool.or_eq_false_iff,decide_eq_false_iff_not] at h;omega
theorem putL_memG {κ α:Type}[DecidableEq κ]{m:List (κ×α)}{k:κ}{a:α}{x:κ×α}(h:x∈putL m k a):x∈m∨x=(k,a):=by
 unfold putL at h
 split at h
 ·obtain ⟨u,hu,rfl⟩:=List.mem_map.1 h
  split
  ·exact .inr rfl
  ·exact .inl hu
 ·rcases List.mem_append.1 h with h|h
  ·exact .inl h
  ·exact .inr (List.mem_singleton.1 h)
theorem WG.app {j:JG}(h:WG j){n:NA}(h0:0≤n.txn)(hst:0≤n.stamp)(hmk:0≤n.mark):WG (appG j n):=by
 by_cases hE:¬appGE j n=0
 ·rw[appGno hE];exact h
 have hE:appGE j n=0:=Classical.not_not.1 hE
 cases hr:rightN n with
 |false=>unfold appGE at hE;rw[if_pos hr] at hE;cases hE
 |true=>
 have hb:=h.b;have hp:=right_parts hr;have hm:=right_max hr;have ho:=(right_opsG hr).2
 by_cases h16:n.kind=16
 ·rw[appG16 hE h16]
  have hmj:j.epoch<n.mark:=by
   rw[appGE16 hr h16] at hE
   split at hE
   ·cases hE
   ·omega
  exact ⟨⟨hmk,hm.2,Int.le_refl _,(show (0:Int)<1048576 by decide),hb.l0,hb.l1,hb.d1,hb.d2⟩,(List.filter_sublist.map _).nodup h.kt,h.kd,λu hu=>h.tx u (List.mem_filter.1 hu).1,h.dp⟩
 by_cases h19:n.kind=19
 ·rw[appG19 hE h19]
  refine ⟨⟨hb.e0,hb.e1,?_,?_,hb.l0,hb.l1,hb.d1,hb.d2⟩,putL_ok h.kt _ _,h.kd,λu hu=> ?_,h.dp⟩
  ·have:=hb.s0
   dsimp only
   split<;>omega
  ·have:=hb.s1
   dsimp only
   split<;>omega
  ·rcases putL_memG hu with hu|rfl
   ·exact h.tx u hu
   ·exact ⟨rfl,h0,Int.le_refl _,hp.1,hp.2.2,hp.2.1,List.Pairwise.nil,λ_ h=>(by cases h),List.Pairwise.nil,λ_ h=>(by cases h),ho⟩
 by_cases h17:n.kind=17
 ·rw[appG17 hE h17]
  have hne:n.stamp≠0:=by
   rw[appGE17 hr h17] at hE;unfold comE at hE;intro e;rw[if_pos e] at hE;cases hE
  refine ⟨⟨hb.e0,hb.e1,hb.s0,hb.s1,?_,?_,hb.d1,hb.d2⟩,putL_ok h.kt _ _,putL_ok h.kd _ _,λu hu=> ?_,λu hu=> ?_⟩
  ·have:=hb.l0;dsimp only;omega
  ·have:=hb.l1;dsimp only;omega
  ·rcases putL_memG hu with hu|rfl
   ·exact h.tx u hu
   ·cases hz:lkL j.tr n.txn with
    |some t=>
     have ht:=h.lk hz;exact ⟨ht.xx,ht.x0,hst,ht.r,ht.pl,ht.pb,ht.yr,ht.ys,ht.kr,ht.ks,ht.ol⟩
    |none=>exact ⟨rfl,h0,hst,hp.1,hp.2.2,hp.2.1,List.Pairwise.nil,λ_ h=>(by cases h),List.Pairwise.nil,λ_ h=>(by cases h),Nat.zero_le _⟩
  ·rcases putL_memG hu with hu|rfl
   ·exact h.dp u hu
   ·dsimp only;omega
 by_cases hw:n.kind=20∨n.kind=21
 ·have hE2:=hE
  rw[appGEw hr hw] at hE2
  cases hz:lkL j.tr n.txn with
  |none=>rw[hz] at hE2;cases hE2
  |some t=>
   rw[hz] at hE2;dsimp only at hE2;have ht:=h.lk hz;rw[appGw hE hw hz];refine ⟨⟨hb.e0,hb.e1,hb.s0,hb.s1,hb.l0,hb.l1,hb.d1,hb.d2⟩,putL_ok h.kt _ _,h.kd,λu hu=> ?_,h.dp⟩
   rcases putL_memG hu with hu|rfl
   ·exact h.tx u hu
   ·unfold saidE at hE2
    by_cases hne:decide (0<t.stamp)≠decide (n.kind=21)
    ·rw[if_pos hne] at hE2;cases hE2
    ·rw[if_neg hne] at hE2
     by_cases hno:n.who∉t.parts∨n.who∈(if n.kind=21 then t.acked else t.yes)
     ·rw[if_pos hno] at hE2;cases hE2
     ·skip
      have hpp:n.who∈t.parts:=Classical.not_not.1 λe=>hno (.inl e)
      have hnn:n.who∉(if n.kind=21 then t.acked else t.yes):=λe=>hno (.inr e)
      unfold saidT
      by_cases h21:n.kind=21
      ·rw[if_pos h21] at hnn ⊢
       exact ⟨ht.xx,ht.x0,ht.st,ht.r,ht.pl,ht.pb,ht.yr,ht.ys,putI_rise ht.kr hnn,λq hq=>(by rcases putI_mem.1 hq with rfl|hq;exact hpp;exact ht.ks q hq),ht.ol⟩
      ·rw[if_neg h21] at hnn ⊢
       exact ⟨ht.xx,ht.x0,ht.st,ht.r,ht.pl,ht.pb,putI_rise ht.yr hnn,λq hq=>(by rcases putI_mem.1 hq with rfl|hq;exact hpp;exact ht.ys q hq),ht.kr,ht.ks,ht.ol⟩
 ·by_cases he:n.kind=18∨n.kind=22
  ·rw[appGe hE he]
   exact ⟨⟨hb.e0,hb.e1,hb.s0,hb.s1,hb.l0,hb.l1,hb.d1,hb.d2⟩,delL_ok h.kt _,h.kd,λu hu=>h.tx u (List.mem_filter.1 hu).1,h.dp⟩
  ·unfold appGE at hE
   rw[if_neg (by rw[hr];decide),if_neg h16,if_neg h19,if_neg h17,if_neg zo] at hE
   cases hE
theorem WG.zero {s d:Int}(h1:1≤d)(h2:d≤8):WG (JG0 s d):=
 ⟨⟨Int.le_refl _,(show (0:Int)≤1099511627776 by decide),Int.le_refl _,(show (0:Int)<1048576 by decide),Int.le_refl _,(show (0:Int)≤1099511627776 by decide),h1,h2⟩,List.nodup_nil,List.nodup_nil,λ_ h=>(by cases h),λ_ h=>(by cases h)⟩
theorem GI.zero :GI (JG0 3 2) 0 (λ_ _=>False) []:=
 ⟨rfl,rfl,Int.le_refl _,Int.le_refl _,Int.le_refl _,Int.le_refl _,List.nodup_nil,List.nodup_nil,List.nodup_nil,λ_ _ h=>(by cases h),λ_ _ h=>(by cases h),λ_ _ h=>(by cases h),λ_ _ _ _ h=>(by cases h)⟩
end Go.Proofs.YtjlgabojhnnbaaaGreatDoor
namespace Go.Proofs.YtjlgabojhnnbaaaGreatDoor
open Go Go.SX
attribute [local irreducible] swp opsS thenS blockS retS CallsS St Ent YieldS anyS drawS
attribute [local irreducible] opsI
end Go.Proofs.YtjlgabojhnnbaaaGreatDoor
namespace Go.Proofs.YtjlgabojhnnbaaaGreatDoor
open Go Go.SX
attribute [local irreducible] swp opsS thenS blockS retS CallsS St Ent YieldS anyS drawS
abbrev TV.c8 (t:TV):List Value:=[.int .u64 t.txn,.int .u64 t.batch,.int .u64 t.stamp,.int .u64 t.after,.int .i64 t.who,.slice t.pa t.parts.length t.pc,.slice t.ya t.yes.length t.yc,.slice t.ka t.acked.length t.kc]
def quitL (j:JG)(xs:List Int):List TR:=(xs.filterMap λx=>lkL j.tr x).filter λt=>decide (t.stamp=0)
def quitG (j:JG):PG:=⟨[],(quitL j (sortL (j.tr.map (·.1)))).map λt=>goneN t.txn,(quitL j (sortL (j.tr.map (·.1)))).flatMap λt=>toldM t 0 12,[],[]⟩
section
variable {n : Nat} {ops rest : List Oper} {cd : Code} {Q : Post} {f : Env} {L L0 : HL} {M : OM}
end
theorem right_of_app {j:JG}{n:NA}(h:appGE j n=0):rightN n=true:=by
 cases hr:rightN n with
 |true=>rfl
 |false=>unfold appGE at h;rw[if_pos hr] at h;cases h
end Go.Proofs.YtjlgabojhnnbaaaGreatDoor
namespace Go.Proofs.YtjlgabojhnnbaaaGreatDoor
open Go Go.SX
structure OkA (r:NA):Prop where
 p:r.parts.length≤1000000
 o:r.ops.length≤1000000
 ov:∀o∈r.ops,o.2.length≤1000000
 v:r.vec.length≤1000000
 h:r.hits.length≤1000000
 hv:∀h∈r.hits,h.2.2.length≤1000000
theorem OkA.bare {r:NA}(hp:r.parts.length≤1000000)(ho:r.ops=[])(hv:r.vec=[])(hh:r.hits=[]):OkA r:=
 ⟨hp,(by rw[ho];exact Nat.zero_le _),λo h=>(by rw[ho] at h;cases h),(by rw[hv];exact Nat.zero_le _),(by rw[hh];exact Nat.zero_le _),λo h=>(by rw[hh] at h;cases h)⟩
structure NT (x:Int)(t:TR):Prop where
 x1:x≤18446744073709551615
 b0:0≤t.batch
 b1:t.batch≤18446744073709551615
 s1:t.stamp≤1099511627776
 a0:0≤t.after
 a1:t.after≤1099511627776
 w0:0≤t.who
 w1:t.who<16
 ov:∀o∈t.ops,o.2.length≤64
structure WN (j:JG):Prop where
 g:WG j
 t:∀u∈j.tr,NT u.1 u.2
 d:∀u∈j.done,0≤u.1∧u.1≤18446744073709551615∧u.2≤1099511627776
theorem WN.lk {j:JG}(h:WN j){x:Int}{t:TR}(ht:lkL j.tr x=some t):NT x t:=h.t _ ((lkL_iff h.g.kt).1 ht)
theorem bare_len {v:List Int}(h:bareV v=true):v.length≤64:=by have:=bare_le h;omega
theorem right_more {n:NA}(h:rightN n=true):n.after≤1099511627776∧0≤n.who∧n.who<16∧(∀o∈n.ops,o.2.length≤64)∧0≤n.code∧n.code≤13:=by
 unfold rightN boundN at h;simp only[Bool.and_eq_true,Bool.not_eq_true',Bool.or_eq_false_iff,decide_eq_false_iff_not] at h;refine ⟨by omega,by omega,by omega,λo ho=> ?_,by omega,by omega⟩;have h1:=h.2.1.2;have:=List.any_eq_false.1 h1 o ho;unfold badOp at this;simp only[Bool.or_eq_true,decide_eq_true_eq,Bool.not_eq_true',not_or,Bool.not_eq_false] at this;exact bare_len this.2
theorem WN.app {j:JG}(h:WN j){n:NA}(u:NumA n):WN (appG j n):=by
 have hG:=h.g.app u.txn.1 u.stamp.1 u.mark.1
 by_cases hE:¬appGE j n=0
 ·rw[appGno hE];exact h
 have hE:appGE j n=0:=Classical.not_not.1 hE;have hr:=right_of_app hE;have hm:=right_max hr;have hq:=right_more hr;refine ⟨hG,?_,?_⟩
 ·by_cases h16:n.kind=16
  ·rw[appG16 hE h16];exact λv hv=>h.t v (List.mem_filter.1 hv).1
  by_cases h19:n.kind=19
  ·rw[appG19 hE h19]
   intro v hv
   rcases putL_memG hv with hv|rfl
   ·exact h.t v hv
   ·exact ⟨u.txn.2,u.batch.1,u.batch.2,(show (0:Int)≤1099511627776 by decide),u.after.1,hq.1,hq.2.1,hq.2.2.1,hq.2.2.2.1⟩
  by_cases h17:n.kind=17
  ·rw[appG17 hE h17]
   intro v hv
   rcases putL_memG hv with hv|rfl
   ·exact h.t v hv
   ·cases hz:lkL j.tr n.txn with
    |some t=>
     have ht:=h.lk hz;exact ⟨ht.x1,ht.b0,ht.b1,hm.1,ht.a0,ht.a1,ht.w0,ht.w1,ht.ov⟩
    |none=>exact ⟨u.txn.2,u.batch.1,u.batch.2,hm.1,Int.le_refl _,(show (0:Int)≤1099511627776 by decide),Int.le_refl _,(show (0:Int)<16 by decide),λ_ h=>(by cases h)⟩
  by_cases hw:n.kind=20∨n.kind=21
  ·have hE2:=hE
   rw[appGEw hr hw] at hE2
   cases hz:lkL j.tr n.txn with
   |none=>rw[hz] at hE2;cases hE2
   |some t=>
    have ht:=h.lk hz;rw[appGw hE hw hz];intro v hv
    rcases putL_memG hv with hv|rfl
    ·exact h.t v hv
    ·unfold saidT
     split<;>exact ⟨ht.x1,ht.b0,ht.b1,ht.s1,ht.a0,ht.a1,ht.w0,ht.w1,ht.ov⟩
  ·by_cases he:n.kind=18∨n.kind=22
   ·rw[appGe hE he];exact λv hv=>h.t v (List.mem_filter.1 hv).1
   ·unfold appGE at hE
    rw[if_neg (by rw[hr];decide),if_neg h16,if_neg h19,if_neg h17,if_neg zo] at hE
    cases hE
 ·by_cases h16:n.kind=16
  ·rw[appG16 hE h16];exact h.d
  by_cases h19:n.kind=19
  ·rw[appG19 hE h19];exact h.d
  by_cases h17:n.kind=17
  ·rw[appG17 hE h17]
   intro v hv
   rcases putL_memG hv with hv|rfl
   ·exact h.d v hv
   ·cases hz:lkL j.tr n.txn with
    |some t=>
     have ht:=h.lk hz;exact ⟨ht.b0,ht.b1,hm.1⟩
    |none=>exact ⟨u.batch.1,u.batch.2,hm.1⟩
  by_cases hw:n.kind=20∨n.kind=21
  ·have hE2:=hE
   rw[appGEw hr hw] at hE2
   cases hz:lkL j.tr n.txn with
   |none=>rw[hz] at hE2;cases hE2
   |some t=>rw[appGw hE hw hz];exact h.d
  ·by_cases he:n.kind=18∨n.kind=22
   ·rw[appGe hE he];exact h.d
   ·unfold appGE at hE
    rw[if_neg (by rw[hr];decide),if_neg h16,if_neg h19,if_neg h17,if_neg zo] at hE
    cases hE
structure PN (pl:PG):Prop where
 r:∀r∈pl.rec_,NumA r∧OkA r
 n:∀r∈pl.notes,NumA r∧OkA r
 i:∀r∈pl.inst,NumA r∧OkA r
 m:∀m∈pl.mail,OkA m.2
 e:∀m∈pl.els,OkA m.2
theorem PN.none :PN PG.none:=⟨λ_ h=>(by cases h),λ_ h=>(by cases h),λ_ h=>(by cases h),λ_ h=>(by cases h),λ_ h=>(by cases h)⟩
def appL (j:JG)(l:List NA):JG:=l.foldl appG j
abbrev epochN (m:Int):NA:={NA.zero with kind:=16,mark:=m}
def stepL (j:JG)(d fr:Int)(n:NA)(w:Bool):List NA:=
 if d % 11=8 then [n]
 else if d % 11=9 then (quitG j).notes
 else if d % 11=10 then [epochN (j.epoch+1)]
 else if w=false∧0<(planG j fr n).rec_.length then (planG j fr n).inst
 else (planG j fr n).rec_++(planG j fr n).notes
def stepG (j:JG)(d fr:Int)(n:NA)(w:Bool):JG:=appL j (stepL j d fr n w)
end Go.Proofs.YtjlgabojhnnbaaaGreatDoor
namespace Go.Proofs.YtjlgabojhnnbaaaGreatDoor
open Go Go.SX
attribute [local irreducible] swp opsS thenS blockS retS CallsS St Ent YieldS anyS drawS
end Go.Proofs.YtjlgabojhnnbaaaGreatDoor
namespace Go.Proofs.YtjlgabojhnnbaaaGreatDoor
open Go Go.SX
structure LS (j:JG)(k:Nat):Prop where
 w:WN j
 s:j.shards=3
 dm:j.dim=2
 t:j.tr.length≤2*min k 40
 d:j.done.length≤2*min k 40
theorem LS.zero :LS (JG0 3 2) 0:=⟨⟨WG.zero zd zd,λ_ h=>(by cases h),λ_ h=>(by cases h)⟩,rfl,rfl,Nat.zero_le _,Nat.zero_le _⟩
theorem LS.skip {j:JG}{k:Nat}(h:LS j k):LS j (k+1):=by
 have ht:=h.t;have hd:=h.d;exact ⟨h.w,h.s,h.dm,by omega,by omega⟩
theorem LS.b {j:JG}{k:Nat}(h:LS j k):j.tr.length≤80∧j.done.length≤80:=by
 have ht:=h.t;have hd:=h.d;omega
def trsL (j:JG):List TR:=(sortL (j.tr.map (·.1))).filterMap λx=>lkL j.tr x
end Go.Proofs.YtjlgabojhnnbaaaGreatDoor
namespace Go.Proofs.YtjlgabojhnnbaaaGreatDoor
open Go Go.SX
attribute [local irreducible] swp opsS thenS blockS retS CallsS St Ent YieldS anyS drawS
def com0 (t:TR):Bool:=decide (0<t.stamp)
def comL (j:JG):List TR:=(trsL j).filter com0
structure PT (x:Int)(t:TR):Prop where
 xx:t.txn=x
 x1:x≤18446744073709551615
 b1:t.batch≤18446744073709551615
 s1:t.stamp≤1099511627776
 pl:t.parts.length≤4
 pb:∀q∈t.parts,0≤q∧q<16
structure PB (j:JG):Prop where
 e0:0≤j.epoch
 e1:j.epoch≤1099511627776
 l0:0≤j.last
 l1:j.last≤1099511627776
 kt:keysOK j.tr
 kd:keysOK j.done
 tx:∀u∈j.tr,PT u.1 u.2
 d:∀u∈j.done,u.1≤18446744073709551615∧u.2≤1099511627776
theorem PB.lk {j:JG}(h:PB j){x:Int}{t:TR}(ht:lkL j.tr x=some t):PT x t:=h.tx _ ((lkL_iff h.kt).1 ht)
theorem WN.pb {j:JG}(h:WN j):PB j:=⟨h.g.b.e0,h.g.b.e1,h.g.b.l0,h.g.b.l1,h.g.kt,h.g.kd,λu hu=>⟨(h.g.tx u hu).xx,(h.t u hu).x1,(h.t u hu).b1,(h.t u hu).s1,(h.g.tx u hu).pl,(h.g.tx u hu).pb⟩,λu hu=>(h.d u hu).2⟩
abbrev slB (a:OA)(c:Nat)(bs:List UInt8):HP:=slO 5 1 a bs.length c (bs.map B)
section
variable {n : Nat} {ops rest : List Oper} {Q : Post} {f : Env} {L : HL} {d : Tmp} {ty : TypeId} {pos : String} {af : Array Edge}
theorem S.appB {x y:Operand}{t tx:TypeId}{a a2:OA}{c c2:Nat}{X Y:List UInt8}{L':HP→HL}[h:SlTy Tryz.prog t 5][h2:SlTy Tryz.prog tx 5][hu:UpdS a L 5 1 X.length c (X.map B) L'](hx:ev f x=some (.slice a X.length c))(hy:ev f y=some (.slice a2 Y.length c2))(hr:RdS L a2 Y.length 1 (Y.map B))(hl:X.length+Y.length≤100000000000000)
  (hk:∀a' c',opsS Tryz.prog n ops rest Q (upd f d (.slice a' (X++Y).length c')) (L' (slB a' c' (X++Y)))):
  opsS Tryz.prog n ops (⟨some d,.call ⟨.builtin .append,#[x,y],#[t,tx]⟩,ty,pos,af,none⟩::rest) Q f L:=by
 refine S.app hx hy (SrcS.rd hr (B_one _)) zr zo zo (λa' c'=> ?_);have:=hk a' c';unfold slB at this;rw[List.length_append,List.map_append] at this;exact this
end
theorem numI_hiZ {z:Int}(h:128≤z):numI z=UInt8.ofNat (z % 128+128).toNat::numI (z / 128):=by
 obtain ⟨m,rfl⟩:∃m:Nat,z=(m:Int):=⟨z.toNat,by omega⟩;rw[numI_hi (m:=m) zo];have e1:((m:Int) % 128+128).toNat=m % 128+128:=by omega
 have e2:((m:Int) / 128)=((m / 2^7:Nat):Int):=by omega
 rw[e1,e2]
theorem u8add {r:Int}(h:0≤r∧r<128):IntKind.u8.wrap (IntKind.u8.wrap r+128)=((UInt8.ofNat (r+128).toNat).toNat:Int):=by
 rw[u8w,u8w,UInt8.toNat_ofNat'];omega
theorem RNum_spec :∀(k:Nat) (z:Int) (L:HL),0≤z→z.toNat≤k→z≤18446744073709551615→
  CallsS Tryz.prog 66 [.int .u64 z] L (λr L'=>∃a c,r=.slice a (numI z).length c∧L'=slB a c (numI z)::L):=by
 have low:∀(z:Int) (L:HL),0≤z→z<128→CallsS Tryz.prog 66 [.int .u64 z] L (λr L'=>∃a c,r=.slice a (numI z).length c∧L'=slB a c (numI z)::L):=by
  intro z L h0 hlt;refine CallsS.of_body Tryz.func66 rfl rfl rfl ?_;refine Q.r ?_;refine S.y (Y.cvi rfl) ?_;rw[u8lo];refine Q.r ?_;(repeat (intro b1;refine Q.r ?_));rw[numI_lo hlt];refine N.t rfl ?_ ⟨some ⟨b1,0,none⟩,1,rfl,rfl⟩;exact slO_fold (sz:=1) (m:=1) rfl
 intro k
 induction k with
 |zero=>exact λz L h0 hk hz=>low z L h0 zo
 |succ k ih=>
  intro z L h0 hk hz
  by_cases hlt:z<128
  ·exact low z L h0 hlt
  ·have hq:=numI_hiZ (z:=z) zo
   refine CallsS.of_body Tryz.func66 rfl rfl rfl ?_;refine Q.r ?_;refine S.y (Y.rem rfl rfl zd) ?_;rw[Int.tmod_eq_emod_of_nonneg h0];refine Q.r ?_;refine S.y (Y.cvi rfl) ?_;refine Q.r ?_;refine S.y (Y.add rfl rfl) ?_;rw[u8add zo];refine Q.r ?_;(repeat (intro b1;refine Q.r ?_));refine opsS_ent (slO_fold (sz:=1) (m:=1) rfl) ?_;refine S.y (Y.quo rfl rfl zd) ?_;rw[Int.tdiv_eq_ediv_of_nonneg h0,wrap_u64 zo zo];refine Q.r ?_;refine S.cr rfl (ih (z / 128) _ zo zo zo) ?_;rintro _ _ ⟨a,c,rfl,rfl⟩;have hnl:=numI_len (z:=z / 128) zo;refine Q.r ?_;refine opsS_addr a (λha=> ?_);refine S.appB (X:=[UInt8.ofNat (z % 128+128).toNat]) (Y:=numI (z / 128)) rfl rfl (RdS.own ha (by rw[List.length_map,Nat.mul_one])) (by simp only[List.length_cons,List.length_nil];omega) (λa' c'=> ?_);refine Q.r ?_;rw[hq];refine N.t rfl ?_ ⟨a',c',rfl,rfl⟩;exact eG
theorem RNum (z:Int)(L:HL)(h0:0≤z)(hz:z≤18446744073709551615):
  CallsS Tryz.prog 66 [.int .u64 z] L (λr L'=>∃a c,r=.slice a (numI z).length c∧L'=slB a c (numI z)::L):=RNum_spec z.toNat z L h0 (Nat.le_refl _) hz
end Go.Proofs.YtjlgabojhnnbaaaGreatDoor
