/- Walks of functions, and plain laws, that the last text rests on. No condition. -/
import Derived.Test.YtlnfjhiphlfkjaaGreatDoorPk06
set_option linter.unusedVariables false
set_option linter.unusedSimpArgs false
set_option linter.unusedSectionVars false
set_option maxHeartbeats 4000000
namespace Go.Proofs.YtlnfjhiphlfkjaaGreatDoor
open Go Go.SX
attribute [local irreducible] swp qq qM qL vX qh St qi qk vu qG
attribute [local irreducible] zc
def apT (rec:Loop)(l D bs:Nat)(pre:List (List UInt8)):HP:=cQ λx:OA×Nat=>xO [pt l (.loop rec),pt D (.deferred (some [])),pt bs (cl [.slice x.1 pre.length x.2] 68),slO 9 1 x.1 pre.length x.2 (pre.map str)]
theorem gp {rec:Loop}{l D bs:Nat}{pre:List (List UInt8)}{a:OA}{c:Nat}{L:HL}:qi (pt l (.loop rec)::pt D (.deferred (some []))::pt bs (cl [.slice a pre.length c] 68)::slO 9 1 a pre.length c (pre.map str)::L) (apT rec l D bs pre::L):=
 qi.trans (qi.shut_all (L:=[_,_,_,_])) (qi.shut_ex (P:=λx:OA×Nat=>xO [pt l (.loop rec),pt D (.deferred (some [])),pt bs (cl [.slice x.1 pre.length x.2] 68),slO 9 1 x.1 pre.length x.2 (pre.map str)]) (a,c))
theorem gr {rec:Loop}{l D bs:Nat}{pre:List (List UInt8)}{w:World}{L:HL}(H:St w (apT rec l D bs pre::L)):∃a c,St w (pt l (.loop rec)::pt D (.deferred (some []))::pt bs (cl [.slice a pre.length c] 68)::slO 9 1 a pre.length c (pre.map str)::L):=by
 obtain ⟨x,H⟩:=St.open_ex H;exact ⟨x.1,x.2,St.ent (qi.open_all (L:=[_,_,_,_])) H⟩
theorem jCl {fn:FuncId}{tm:Array Value}{l D bs:Nat}{pre:List (List UInt8)}{x:List UInt8}{assign body:Code}(htm:tm.size=13)(hbs:tm[2]? =some (.pointer (some ⟨bs,0,none⟩)))(hN:pre.length<1048576)
  (ha:assign=.region 2 ([⟨some 5,.assign (.tmp 7),9, "iter.go:51",#[],none⟩]:List Oper).toArray false)
  (hb : ∃ l1 id,body = .block 1 (.region id (l1 : List Oper).toArray false) ∧ wj 13 l1 = true ∧
   ∀(v:List UInt8) (a:OA) (c k:Nat) (cs:List Value),k<1048576→zc kY 13 (some l) l1 l1 (qM (λf L=>∃a' c',L=[pt bs (cl [.slice a' (k+1) c'] 68),slO 9 1 a' (k+1) c' (cs++[str v])]) (λ_ _ _=>False)) (vR [(2,.pointer (some ⟨bs,0,none⟩)),(5,str v)]) [pt bs (cl [.slice a k c] 68),slO 9 1 a k c cs]):
  K5 kY l (str x) [apT (vy fn tm #[7] assign body D .ready none) l D bs pre] [apT (vy fn tm #[7] assign body D .ready none) l D bs (pre++[x])]:=by
 intro F w t;obtain ⟨a,c,t⟩:=gr (L:=F) (by simpa using t);have hl:=St.pt_read t;obtain ⟨l1,id,hbd,hok1,hb⟩:=hb;refine ⟨fn,tm.setIfInBounds 7 (str x),_,_,by simpa[vy] using run_yield (P:=kY) (args:= #[str x]) hl rfl,roundIn_of_wpIn trivial ?_⟩;have s0:Ki 13 {tmps:=tm.setIfInBounds 7 (str x),defers:=[]} (vR [(2,.pointer (some ⟨bs,0,none⟩)),(7,str x)]):=by
  refine ⟨rfl,by simp[htm],λi v e=> ?_⟩;simp only[vR,upd,e0] at e
  by_cases h2:i=2
  ·subst h2
   cases e
   rw[Array.getD_eq_getD_getElem?,Array.getElem?_setIfInBounds_ne zo,hbs];rfl
  ·by_cases h7:i=7
   ·subst h7
    cases e
    simp[htm]
   ·rw[Wj h2,Wj h7] at e;cases e
 have hwa:∀Q a w,(Code.region 2 ([⟨some 5,.assign (.tmp 7),9, "iter.go:51",#[],none⟩]:List Oper).toArray false).wpIn (Go.SX.WF (some l)) 0 kY Q a w→assign.wpIn (Go.SX.WF (some l)) 0 kY Q a w:=λQ a w h=>by rw[ha];exact h
 refine hwa _ _ _ (xI (r:=some l) (n:=13) (L:=[pt l (.loop (vy fn tm #[7] assign body D .ready none)),pt D (.deferred (some [])),pt bs (cl [.slice a pre.length c] 68),slO 9 1 a pre.length c (pre.map str)]) (F:=F) (K:=λf L=>f 2=some (.pointer (some ⟨bs,0,none⟩))∧f 5=some (str x)∧L=[pt l (.loop (vy fn tm #[7] assign body D .ready none)),pt D (.deferred (some [])),pt bs (cl [.slice a pre.length c] 68),slO 9 1 a pre.length c (pre.map str)]) ?_ rfl s0 t ?_)
 ·refine qy (λ_ h=>by cases h) rfl ?_
  repeat (first|(refine GQ.y ?_;refine Q.y ?_)|refine Q.go ?_|(refine GQ.g ?_;refine Q.gq ?_)|(refine GQ.s ?_;refine Q.st ?_))
  exact wB (N.tn ⟨rfl,rfl,rfl⟩)
 rintro f L a1 w1 ⟨h2,h5,rfl⟩ s1 t1;refine ⟨_,run_beginRound (St.pt_read t1) rfl,?_⟩;have t2:=St.obj (o':=.loop {(vy fn tm #[7] assign body D .ready none) with state:=.busy}) (L:=[pt D (.deferred (some [])),pt bs (cl [.slice a pre.length c] 68),slO 9 1 a pre.length c (pre.map str)]++F) t1;have t3:St _ ([pt bs (cl [.slice a pre.length c] 68),slO 9 1 a pre.length c (pre.map str)]++(pt l (.loop {(vy fn tm #[7] assign body D .ready none) with state:=.busy})::pt D (.deferred (some []))::F)):=
  St.rot2 t2
 have hwp:∀Q a w,(Code.block 1 (.region id l1.toArray false)).wpIn (Go.SX.WF (some l)) 0 kY Q a w→body.wpIn (Go.SX.WF (some l)) 0 kY Q a w:=λQ a w h=>by rw[hbd];exact h
 refine hwp _ _ _ (wpIn_block (xI (r:=some l) (n:=13) (F:=_) (hb x a c pre.length (pre.map str) hN) hok1 (s1.weaken (we ⟨h2,h5,trivial⟩)) t3 ?_));rintro f L a2 w2 ⟨a',c',rfl⟩ s2 t4;have t5:St w2 (pt l (.loop {(vy fn tm #[7] assign body D .ready none) with state:=.busy})::pt D (.deferred (some []))::([pt bs (cl [.slice a' (pre.length+1) c'] 68),slO 9 1 a' (pre.length+1) c' (pre.map str++[str x])]++F)):=
  St.rot2 t4
 refine ⟨_,_,run_endRound none (St.pt_read t5),rfl,?_⟩;have t6:=St.obj (o':=.loop (vy fn tm #[7] assign body D .ready none)) t5;have e1:pre.length+1=(pre++[x]).length:=by simp
 have e2:pre.map str++[str x]=(pre++[x]).map str:=by simp
 rw[e1,e2] at t6;have t7:=St.ent (gp (L:=F)) t6
 simpa[vy] using t7
theorem Xg (gf:FuncId)(lb:List Value)[he:Go.SX.qj kY gf](Sp:List (List UInt8)→Prop)(A A':HL)(hseq:VT kY gf lb str 1048576 Sp A A'):
  qh kY 179 [.slice none 0 0,.func (.func gf) #[] lb.toArray] A (λv L'=>∃ks a c,Sp ks∧v=.slice a ks.length c∧L'=slO 9 1 a ks.length c (ks.map str)::A'):=by
 refine qh.mk' λF w t=> ?_
 refine (callsIn_wide (n:=1)).1 (callsIn_of_wp_marks Tryz.func179 rfl trivial ?_);have s0:Ki 13 {tmps:= #[.slice none 0 0,.func (.func gf) #[] lb.toArray]++Array.replicate 11 undef,defers:=[]} (K3 [.slice none 0 0,.func (.func gf) #[] lb.toArray] 0):=by
  refine ⟨rfl,by simp,λi v e=> ?_⟩;obtain ⟨_,h2⟩:=JR _ 0 i v e;simp only[Nat.sub_zero] at h2;have hi:i<2:=(jm.1 h2).1
  match i,hi,h2 with
  |0,_,h2=>simpa using h2
  |1,_,h2=>simpa using h2
 refine xh (n:=13) (F:=F) (K:=λf L=>∃bs,f 1=some (.func (.func gf) #[] lb.toArray)∧f 2=some (.pointer (some ⟨bs,0,none⟩))∧L=pt bs (cl [.slice none 0 0] 68)::A) ?_ rfl s0 t ?_
 ·refine Q.r ?_;(repeat (intro b1;refine Q.r ?_))
  exact ⟨_,rfl,rfl,rfl⟩
 rintro f L a1 w1 ⟨bs,h1,h2,rfl⟩ s1 t1;refine wpIn_seq ?_;refine xh (n:=13) (F:=F) (K:=λf L=>f 6=some (.func (.func gf) #[] lb.toArray)∧f 2=some (.pointer (some ⟨bs,0,none⟩))∧L=pt bs (cl [.slice none 0 0] 68)::A) (f:=vR [(1,.func (.func gf) #[] lb.toArray),(2,.pointer (some ⟨bs,0,none⟩))]) ?_ rfl (s1.weaken (we ⟨h1,h2,trivial⟩)) t1 ?_
 ·refine Q.r ?_
  exact ⟨rfl,rfl,rfl⟩
 rintro f L a2 w2 ⟨h6,h2,rfl⟩ s2 t2;obtain ⟨tm,htm⟩:∃tm,tm=a2.tmps:=⟨_,rfl⟩;have hsz:tm.size=13:=by rw[htm];exact s2.size
 have h2':tm[2]? =some (.pointer (some ⟨bs,0,none⟩)):=by
  have:=s2.at_ 2 _ h2;rw[←htm,Array.getD_eq_getD_getElem?] at this;have hlt:2<tm.size:=by omega
  rw[Array.getElem?_eq_getElem hlt] at this ⊢
  simpa using this
 have hev:a2.eval (.tmp 6)=.func (.func gf) #[] lb.toArray:=s2.eval (x:=.tmp 6) h6;refine wpIn_block (Ky hev λfn=> ?_);have t3:=St.pt_new (w':=w2.alloc (.deferred (some []))) t2 rfl rfl;generalize hr0:({state:=.ready,pending:=none,fn,tmps:=a2.tmps,params:= #[7],assign:=_,body:=_,defers:=w2.heap.size}:Loop)=rec;have t4:=St.pt_new (w':=(w2.alloc (.deferred (some []))).alloc (.loop rec)) t3 rfl rfl;obtain ⟨As,hA⟩:∃A,A=rec.assign:=⟨_,rfl⟩;obtain ⟨Bs,hB⟩:∃B,B=rec.body:=⟨_,rfl⟩;have hrec:rec=vy fn tm #[7] As Bs w2.heap.size .ready none:=by rw[hA,hB,htm,←hr0];rfl
 have hA':As=.region 2 ([⟨some 5,.assign (.tmp 7),9, "iter.go:51",#[],none⟩]:List Oper).toArray false:=by rw[hA,←hr0]
 have hB':∃l1 id,Bs=.block 1 (.region id (l1:List Oper).toArray false)∧wj 13 l1=true∧
   ∀(v:List UInt8) (a:OA) (c k:Nat) (cs:List Value),k<1048576→zc kY 13 (some (w2.heap.size+1)) l1 l1 (qM (λf L=>∃a' c',L=[pt bs (cl [.slice a' (k+1) c'] 68),slO 9 1 a' (k+1) c' (cs++[str v])]) (λ_ _ _=>False)) (vR [(2,.pointer (some ⟨bs,0,none⟩)),(5,str v)]) [pt bs (cl [.slice a k c] 68),slO 9 1 a k c cs]:=by
  refine ⟨_,3,by rw[hB,←hr0],rfl,λv a c k cs hk=> ?_⟩;refine qy (λ_ h=>by cases h) rfl ?_;refine Q.r ?_;refine qy (λ_ h=>by cases h) rfl ?_;refine Q.r ?_;refine qy (λ_ h=>by cases h) rfl ?_;refine Q.r ?_;(repeat (intro b1;refine Q.r ?_));refine qy (λ_ h=>by cases h) rfl ?_;refine S.app rfl rfl (vA.sl vg.row zr zr) zr zo zo (λa' c'=> ?_);refine Q.r ?_;refine qy (λ_ h=>by cases h) rfl ?_;refine Q.r ?_;exact zy (qi.drop (kZ _)) (wB (N.tn ⟨a',c',rfl⟩))
 clear hA hB;subst hrec;clear hr0;have hcall:=hseq (w2.heap.size+1) (apT (vy fn tm #[7] As Bs w2.heap.size .ready none) (w2.heap.size+1) w2.heap.size bs) (λpre x hp=>jCl hsz h2' hp hA' hB');have hsz1:(w2.alloc (.deferred (some []))).heap.size=w2.heap.size+1:=by simp
 rw[hsz1] at t4;have t5:=St.ent (gp (pre:=[]) (L:=A++F)) (St.ent (qi.cons (qi.cons (qi.cons vh))) t4);refine (qh.run hcall t5).mono ?_;rintro e w3 ⟨v,L',rfl,t6,ks,hks,rfl⟩;obtain ⟨a,c,t7⟩:=gr (L:=A'++F) t6;refine ⟨v,_,rfl,run_endLoop (St.pt_read t7) (by simp[vy]),?_⟩;have t8:=St.obj (o':=.loop {vy fn tm #[7] As Bs w2.heap.size .ready none with state:=.exhausted}) t7;have t9:=t8.tail;generalize w3.putObj (w2.heap.size+1) (.loop {vy fn tm #[7] As Bs w2.heap.size .ready none with state:=.exhausted})=w4 at t9;have hD:=St.pt_read t9;have hcell:=St.pt_read t9.tail;simp only[Exit.inBlock,Exit.then];have hload:(Instr.loadAt 68 (.pointer (some ⟨bs,0,none⟩))).run kY w4=.ok (.slice a ks.length c) w4:=J6 (P:=kY) (b:=bs) (o:=0) (by simp[World.cell?,hcell,cl]);have hd0:a2.tmps.getD 2 undef=.pointer (some ⟨bs,0,none⟩):=s2.at_ 2 _ h2;have hd1:a2.tmps.size=13:=s2.size;have hd2:a2.defers=[]:=s2.defers;refine wpIn_seq (wpIn_region_lit ?_);refine wpListIn_plain rfl λK hK=>⟨λ_ _=>trivial,?_⟩
 rw[Oper.semAt_eq _ _ _ (λ_ h=>by cases h)];simp only[execOp,Act.eval,hd0,Sem.run_bind,hload,Result.andThen_ok,Sem.run_pure];refine hK _ _ (wpListIn_plain rfl λK' hK'=>⟨λ_ _=>trivial,?_⟩);rw[Oper.semAt_eq _ _ _ (λ_ h=>by cases h)];simp only[execOp,Act.eval,Sem.run_pure];refine hK' _ _ (wpListIn_nil (wpIn_ret ?_));refine ⟨by simp,.inl ⟨_,_,rfl,run_takeDeferred hD,?_⟩⟩;rw[hd2];refine ⟨_,results_tmp rfl _ _ _,_,slO 9 1 a ks.length c (ks.map str)::A',?_,(St.obj (o':=.deferred none) t9).tail.tail,ks,a,c,hks,rfl,rfl⟩
 simp[Act.put,hd1]
theorem Zk (gf:FuncId)(lb:List Value)[he:Go.SX.qj kY gf](Sp:List (List UInt8)→Prop)(A A':HL)(hseq:VT kY gf lb str 1048576 Sp A A'):
  qh kY 124 [.func (.func gf) #[] lb.toArray] A (λv L'=>∃ks a c,Sp ks∧v=.slice a ks.length c∧L'=slO 9 1 a ks.length c (ks.map str)::A'):=by
 refine qg Tryz.func124 rfl rfl rfl ?_;refine Q.r ?_;refine S.cr rfl (Xg gf lb Sp A A' hseq) ?_;rintro _ _ ⟨ks,a,c,hks,rfl,rfl⟩;refine Q.r ?_;exact N.t rfl (kZ _) ⟨ks,a,c,hks,rfl,rfl⟩
theorem mZ {α:Type}(rr:α→Value)(bm b:Nat)(m:List (List UInt8×α))(A:HL):VT kY 126 [.pointer (some ⟨bm,0,none⟩)] str m.length (λks=>ks.Perm (m.map (·.1)))
  (pt bm (cl [.map (some b)] 62)::Vp str rr b m::A) (Vp str rr b m::A):=by
 intro l J hJ;refine qg Tryz.func126 rfl rfl rfl ?_;refine Q.r ?_;refine S.rg rfl (λr=> ?_);refine Q.r ?_;refine ql (σ:=List Nat) (λvis=> [(0,.func (.yield l) #[] #[]),(5,.pointer (some ⟨r,0,none⟩))])
  (λvis=>J (vis.filterMap λi=>(m[i]?).map (·.1))::ZO str rr b r m vis::A) (λvis=>vis.Nodup∧∀i∈vis,i<m.length) (λvis=>m.length - vis.length) [] zt (by simp only[List.filterMap_nil];exact eG) ⟨by simp,by simp⟩ ?_
 rintro vis ⟨hv1,hv2⟩;refine Q.r ?_;refine S.nx rfl (λhend=> ?_) (λi p hp hi=> ?_)
 ·refine Q.r ?_
  exact N.n0 RV.nil (qi.cons Qn) ⟨_,Xi _ hv1 hv2 hend,rfl⟩
 ·have hil:i<m.length:=(jm.1 hp).1
  obtain ⟨hm1,hm2,hm3⟩:=Kz hv1 hv2 hil hi;have hvl:(vis.filterMap λi=>(m[i]?).map (·.1)).length≤vis.length:=List.length_filterMap_le _ _;have happ:((vis++[i]).filterMap λi=>(m[i]?).map (·.1))=(vis.filterMap λi=>(m[i]?).map (·.1))++[p.1]:=by
   rw[List.filterMap_append];simp[hp]
  refine Q.r ?_;refine S.y (Y.en rfl hp) ?_;refine S.y (Y.ext rfl rfl) ?_;refine S.y (Y.as rfl) ?_;refine qO ?_;refine N.tn ?_;refine wl ?_;refine zT ?_;refine qy (λ_ h=>by cases h) rfl ?_;refine Q.r ?_;refine qy (λ_ h=>by cases h) rfl ?_;refine Q.r ?_;refine J8 rfl rfl ((hJ _ p.1 zo).frame (R:=_)) ?_;refine qy (λ_ h=>by cases h) rfl ?_;refine Q.r ?_;refine wB ?_;refine Q.r ?_;refine ⟨vis++[i],zt,?_,⟨hm1,hm2⟩,by simp;omega⟩;rw[happ];exact eG
theorem Zh (mo:Option Nat)(L:HL):qh kY 63 [.map mo] L
  (λv L'=>∃bm,v=.func (.func 126) #[] [.pointer (some ⟨bm,0,none⟩)].toArray∧L'=pt bm (cl [.map mo] 62)::L):=by
 refine qg Tryz.func63 rfl rfl rfl ?_;refine Q.r ?_;(repeat (intro b1;refine Q.r ?_));refine S.y (Y.mf rfl rfl) ?_;refine Q.r ?_;exact N.t rfl (kZ _) ⟨_,rfl,rfl⟩
end Go.Proofs.YtlnfjhiphlfkjaaGreatDoor
namespace Go.Proofs.YtlnfjhiphlfkjaaGreatDoor
open Go Go.SX
attribute [local irreducible] swp qq qM qL vX qh St qi qk vu qG
def Jp (ks:List (List UInt8)):List (List UInt8):=ks.mergeSort λx y=>decide (x≤y)
theorem yu (ks:List (List UInt8)):(Jp ks).Perm ks:=List.mergeSort_perm _ _
theorem Jo (ks:List (List UInt8)):(Jp ks).length=ks.length:=(yu ks).length_eq
theorem jAW (ks ds:List (List UInt8))(rest:List Value)(hl:ds.length=ks.length):Sort.putCells encStr 0 ds.toArray (ks.map str++rest).toArray=(ds.map str++rest).toArray:=by
 unfold Sort.putCells;apply Array.ext
 ·simp[hl]
 ·intro i h1 h2
  simp only[Array.getElem_mapIdx,jw,true_and,kR,List.size_toArray,Nat.sub_zero,List.getElem_toArray]
  by_cases hi:i<ds.length
  ·rw[jb hi,List.getElem_append_left (by simpa using hi),List.getElem_map]
   rw[getElem!_pos ds.toArray i (by simpa using hi)];rfl
  ·rw[ja hi,List.getElem_append_right (by simp;omega),List.getElem_append_right (by simp;omega)]
   simp[hl]
theorem mS (a:OA)(c:Nat)(ks:List (List UInt8))(L:HL)(hn:ks.length≤1000000):
  qh kY 125 [.slice a ks.length c] (slO 9 1 a ks.length c (ks.map str)::L) (λr L'=>r=.tuple #[]∧L'=slO 9 1 a ks.length c ((Jp ks).map str)::L):=by
 refine qh.intro λF w H=> ?_
 obtain ⟨hl0,hq⟩:=St.slO_open (L:=L++F) (by simpa using H)
 rcases hq with ⟨rfl,hm,hc,hcs,H2⟩|⟨b,rest,rfl,hm,hlen,H2⟩
 ·have hks:ks=[]:=jO hm
  subst hks;subst hc;refine (Tryz.slices_Sort_string_none none 0 w).mono ?_;rintro e w' ⟨rfl,rfl⟩;exact ⟨_,slO 9 1 none 0 0 []::L,rfl,by simpa using St.slO_none (t:=9) (sz:=1) H2,rfl,by simp[Jp]⟩
 ·have hb:=St.pt_read H2
  have hlt:b<w.heap.size:=(kj.1 hb).1;have hH:Sort.Holds encStr w b 0 ks.toArray:=λj hj=>by
   have hj':j<ks.length:=by simpa using hj
   refine ⟨?_,?_⟩
   ·simp only[World.cell?,hb,cl,kR]
    rw[getElem!_pos ks.toArray j hj]
    simp[hj',ko,str,encStr]
   ·simp[World.frozen?,hb,cl]
  refine (Tryz.slices_Sort_string b 0 c ks w hH hlt zo).mono ?_;rintro e w' ⟨rfl,n,os,rfl⟩;refine ⟨_,slO 9 1 (some ⟨b,0,none⟩) ks.length c ((Jp ks).map str)::L,rfl,?_,rfl,rfl⟩;have H3:St (Sort.putRow encStr (Sort.ahead w n) b 0 (Jp ks).toArray) (pt b (cl ((Jp ks).map str++rest) 9)::(L++F)):=by
   refine St.pt_write (w:=w) H2 ?_ (λk hk=> ?_) rfl
   ·show ((Sort.mapBlock (Sort.ahead w n) b _).heap)[b]? =_
    have hb':(Sort.ahead w n).heap[b]? =some (cl (ks.map str++rest) 9):=hb;simp only[Sort.mapBlock,Array.getElem?_modify,hb',if_true,Option.map_some,Sort.onCells,cl];rw[jAW ks (Jp ks) rest (Jo ks)]
   ·show ((Sort.mapBlock (Sort.ahead w n) b _).heap)[k]? =_
    simp only[Sort.mapBlock,Array.getElem?_modify,Ne.symm hk,if_false];rfl
  have H4:=St.slO_shut (sz:=1) (m:=ks.length) (c:=c) (by rw[jf,Jo];omega) hm (by rw[jc,jf,Jo];rw[jc,jf] at hlen;exact hlen) H3;refine St.more (w:=Sort.putRow encStr (Sort.ahead w n) b 0 (Jp ks).toArray) (L:=slO 9 1 (some ⟨b,0,none⟩) ks.length c ((Jp ks).map str)::L++F) (by simpa using H4) (λk o h=> ?_) rfl;have h':(Sort.putRow encStr (Sort.ahead w n) b 0 (ks.mergeSort λx y=>decide (x≤y)).toArray).heap[k]? =some o:=h
  show ((Sort.putRow encStr (Sort.ahead w n) b 0 (ks.mergeSort λx y=>decide (x≤y)).toArray).heap++os)[k]? =some o
  rw[Array.getElem?_append_left (kj.1 h').1];exact h'
theorem du (gf:FuncId)(lb:List Value)[he:Go.SX.qj kY gf](ms:List (List UInt8))(A A':HL)(hn:ms.length≤1000000)(hseq:VT kY gf lb str 1048576 (λks=>ks.Perm ms) A A'):
  qh kY 62 [.func (.func gf) #[] lb.toArray] A (λv L'=>∃ks a c,ks.Perm ms∧v=.slice a ms.length c∧L'=slO 9 1 a ms.length c ((Jp ks).map str)::A'):=by
 refine qg Tryz.func62 rfl rfl rfl ?_;refine Q.r ?_;refine S.cr rfl (Zk gf lb _ A A' hseq) ?_;rintro _ _ ⟨ks,a,c,hks,rfl,rfl⟩;refine Q.r ?_;refine S.cr rfl (mS a c ks A' (by rw[hks.length_eq];exact hn)) ?_;rintro _ _ ⟨rfl,rfl⟩;refine Q.r ?_;exact N.t rfl (kZ _) ⟨ks,a,c,hks,by rw[hks.length_eq],by rw[hks.length_eq]⟩
def qI (d:DK):List (List UInt8):=Jp (d.fs.map (·.1))
theorem jAL {a b:List (List UInt8)}(h:a.Perm b):Jp a=Jp b:=by
 have ha:(Jp a).Pairwise (λx y=>decide (x≤y)=true):=List.pairwise_mergeSort (λx y z h1 h2=>by simp at*;exact List.le_trans h1 h2) (λx y=>by simpa using List.le_total x y) a;have hb:(Jp b).Pairwise (λx y=>decide (x≤y)=true):=List.pairwise_mergeSort (λx y z h1 h2=>by simp at*;exact List.le_trans h1 h2) (λx y=>by simpa using List.le_total x y) b;have hp:(Jp a).Perm (Jp b):=(yu a).trans (h.trans (yu b).symm);exact List.Perm.eq_of_pairwise (le:=λx y=>decide (x≤y)=true) (λx y _ _ h1 h2=>by simp at h1 h2;exact List.le_antisymm h1 h2) ha hb hp
theorem zJ (p:Nat)(d:DK)(M:OM)(L:HL):
  qh kY 24 [.pointer (some ⟨p,0,none⟩)] (qr p d::qo M::L) (λr L'=>∃a c M',r=.slice a d.fs.length c∧qH M' a d.fs.length 1 ((qI d).map str)∧d.fs.length≤c∧qU M M'∧L'=qr p d::qo M'::L):=by
 refine v8 λmp ts hd=> ?_
 refine qg Tryz.func24 rfl rfl rfl ?_;refine Q.r ?_;refine S.cr rfl (Zh (some mp) _) ?_;rintro _ _ ⟨bm,rfl,rfl⟩;refine Q.r ?_;refine qm (qi.cons (qi.perm (.swap _ _ _))) ?_;have hlen:ts.length=d.fs.length:=by rw[←hd.fs,jf]
 have hnm:ts.map (·.1)=d.fs.map (·.1):=by rw[←hd.fs,kE];rfl
 refine S.cr rfl (du _ _ (ts.map (·.1)) _ _ (by rw[jf];have:=hd.few;omega) (VT.mono (mZ fk bm mp ts (dP p mp d::wX ts::qo M::L)) (by have:=hd.few;omega))) ?_;rintro _ _ ⟨ks,a,c,hks,rfl,rfl⟩;rw[jf,hlen];refine wA a (λM' hl hs hc=> ?_);refine Q.r ?_;refine N.t rfl ?_ ⟨a,c,M',rfl,?_,hc,hl,rfl⟩
 ·exact qi.trans (M:=dP p mp d::dM mp ts::wX ts::qo M'::L) eG (vz hd)
 ·unfold qI
  rw[←jAL (hnm▸hks)];exact hs
abbrev FE :=List UInt8×List UInt8×Nat
def Y8 (kf:List UInt8→Nat)(done:List (List UInt8))(u:FE):FE:=if u.1∈done then (u.1,u.2.1.take (u.2.2+kf u.1),u.2.2+kf u.1) else u
def YX (d:DK)(kf:List UInt8→Nat)(done:List (List UInt8)):DK:={d with fs:=d.fs.map (Y8 kf done)}
def crD (d:DK)(kf:List UInt8→Nat):DK:={d with left:= -1,down:=false,fs:=d.fs.map λu=>(u.1,u.2.1.take (u.2.2+kf u.1),u.2.2+kf u.1)}
def WW (kf:List UInt8→Nat)(n:List UInt8)(k:Nat):List UInt8→Nat:=λx=>if x=n then k else kf x
theorem X6 {α:Type}{l:List α}(h:l.Nodup){i j:Nat}{x:α}(hi:l[i]? =some x)(hj:l[j]? =some x):i=j:=by
 obtain ⟨h1,h2⟩:=jm.1 hi;obtain ⟨h3,h4⟩:=jm.1 hj
 rcases Nat.lt_trichotomy i j with hlt|rfl|hlt
 ·exact absurd (h2.trans h4.symm) (List.pairwise_iff_getElem.1 h i j h1 h3 hlt)
 ·rfl
 ·exact absurd (h4.trans h2.symm) (List.pairwise_iff_getElem.1 h j i h3 h1 hlt)
theorem jB2 {fs:List FE}(hk:qn fs){kf:List UInt8→Nat}{done:List (List UInt8)}{i:Nat}{n bs:List UInt8}{firm k0:Nat}(hi:fs[i]? =some (n,bs,firm))(hn:n∉done):
  fs.map (Y8 (WW kf n k0) (done++[n]))=(fs.map (Y8 kf done)).set i (n,bs.take (firm+k0),firm+k0):=by
 apply List.ext_getElem?;intro j;rw[jZ,List.getElem?_set,jZ,jf]
 by_cases hj:i=j
 ·subst hj
  rw[jb rfl,jb (jm.1 hi).1,hi,Option.map_some];unfold Y8 WW;rw[jb (by simp)]
  simp
 ·rw[ja hj]
  cases hu:fs[j]? with
  |none=>rfl
  |some u=>
   have hne:u.1≠n:=λh=>by
    exact hj (X6 hk (x:=n) (by rw[jZ,hi];rfl) (by rw[jZ,hu,←h];rfl))
   rw[Option.map_some,Option.map_some];unfold Y8 WW
   by_cases hd:u.1∈done
   ·rw[jb (List.mem_append_left _ hd),jb hd,ja hne]
   ·rw[ja (by simp[hd,hne]),ja hd]
theorem nB (p:Nat)(d:DK)(ak:OA)(ck:Nat)(ks:List Int)(M:OM)(L:HL)(h:qH M ak ks.length 1 (ks.map I64))(hkl:ks.length≤1000000):
  qh kY 22 [qK p,.slice ak ks.length ck] (qr p d::qo M::L) (λr L'=>∃kf M',r=.tuple #[]∧qU M M'∧(∀u∈d.fs,u.2.2+kf u.1≤u.2.1.length)∧(ks=[]→∀n,kf n=0)∧L'=qr p (crD d kf)::qo M'::L):=by
 refine v8 λmp0 ts0 hd0=>qh.ent (vz hd0) ?_
 have hfirm:∀u∈d.fs,u.2.2≤u.2.1.length:=by
  intro u hu;rw[←hd0.fs] at hu;obtain ⟨v,hv,rfl⟩:=jM.1 hu;exact hd0.firm v hv
 have hkey:qn d.fs:=KQ hd0.fs hd0.key;have hfew:d.fs.length≤16:=by rw[←hd0.fs,jf];exact hd0.few
 have hused:qP d.fs≤1048576:=by have h1:=hd0.used;have h2:=hd0.rm;omega
 clear hd0;refine qg Tryz.func22 rfl rfl rfl ?_;refine Q.r ?_;refine S.ckm p rfl (zJ p d M _) ?_;rintro _ _ ⟨a,c,M1,rfl,hs,hc,hl1,rfl⟩;refine Q.r ?_;have hnl:(qI d).length=d.fs.length:=by unfold qI;rw[Jo,jf]
 have hs1:qH M1 a d.fs.length 1 ((qI d).flatMap sC):=by rw[VM];exact hs
 have h1:qH M1 ak ks.length 1 (ks.map I64):=h.mono hl1;refine qx (σ:=List UInt8→Nat) (λ_=> [(0,qK p)]) (λkf=>qr p (YX d kf (qI d))::qo M1::L) (λkf=>(∀u∈d.fs,u.2.2+kf u.1≤u.2.1.length)∧(ks=[]→∀n,kf n=0)) ?_ ?_
 ·refine ql (σ:=Nat×(List UInt8→Nat)) (λs=> [(0,qK p),(1,.slice ak ks.length ck),(11,.slice a d.fs.length c),(12,.int .i64 d.fs.length),(13,.int .i64 s.1)]) (λs=>qr p (YX d s.2 ((qI d).take s.1))::qo M1::L)
   (λs=>s.1≤d.fs.length∧(∀u∈d.fs,u.2.2+s.2 u.1≤u.2.1.length)∧(ks=[]→∀n,s.2 n=0)) (λs=>d.fs.length - s.1) (0,λ_=>0) zt ?_ ?_ ?_
  ·rw[show YX d (λ_=>0) ((qI d).take 0)=d from by unfold YX;rw[show d.fs.map (Y8 (λ_=>0) ((qI d).take 0))=d.fs from List.map_id'' (λu=>by unfold Y8;rw[ja (by simp)]) _]]
   exact kZ _
  ·exact ⟨by show 0≤_;omega,λu hu=>hfirm u hu,λ_ _=>rfl⟩
  rintro ⟨k,kf⟩ ⟨hk,hkf,hk0⟩;dsimp only at hk hkf hk0
  by_cases hlt:k<d.fs.length
  ·obtain ⟨n,hnk⟩:=qw (hnl▸hlt:k<(qI d).length)
   obtain ⟨b,o,rfl,hr⟩:=qH.cm (g:=sC) (λ_=>rfl) hs1 hnk hnl.symm;have hmem:n∈d.fs.map (·.1):=(yu _).mem_iff.1 (jn hnk);have hnd:(qI d).Nodup:=(yu _).nodup_iff.2 hkey;have hnt:n∉(qI d).take k:=λh=>by
    obtain ⟨j,hj⟩:=List.getElem?_of_mem h;rw[List.getElem?_take] at hj
    split at hj
    ·have:=X6 hnd hj hnk;omega
    ·cases hj
   obtain ⟨⟨n',bs,firm⟩,hu,hn'⟩:=jM.1 hmem;dsimp only at hn';subst hn';obtain ⟨i,hi⟩:=List.getElem?_of_mem hu;have hfi:=hfirm _ hu;have hsz:bs.length≤qP d.fs:=Qf (jA (f:=λu:FE=>u.2.1.length) hu);dsimp only at hfi;refine XK p λmp ts hd=> ?_
   dsimp only at hd;have hi2:(ts.map DE.abs)[i]? =some (n',bs,firm):=by
    rw[hd.fs]
    show (d.fs.map _)[i]? =_
    rw[jZ,hi,Option.map_some];unfold Y8;rw[ja hnt]
   rw[jZ] at hi2;obtain ⟨⟨n2,ub,ua,uc,ubs,ufirm⟩,hti,hab⟩:=Option.map_eq_some_iff.1 hi2;obtain ⟨rfl,rfl,rfl⟩:n2=n'∧ubs=bs∧ufirm=firm:=by
    have:=hab;simp only[DE.abs,js] at this;exact this
   have hz:qJ (α:=Nat×FV) ts n2=some (ub,⟨ua,uc,ubs,ufirm⟩):=(vQ hd.key).2 (jn hti);refine Q.r ?_;refine S.y (Y.lk false rfl rfl (λw=>Tryz.zeroValue124 w)) ?_;rw[hz];dsimp only
   repeat (first|(refine GQ.y ?_;refine Q.y ?_)|(refine GQ.a ?_;refine Q.al (λb1=> ?_))|(refine GQ.s ?_;refine Q.st ?_)|(refine GQ.g ?_;refine Q.gq ?_))
   refine qO ?_;refine N.tn ?_;refine wl ?_;refine QX ?_;(repeat (first|(refine GQ.y ?_;refine Q.y ?_)|(refine GQ.a ?_;refine Q.al (λb1=> ?_))|(refine GQ.s ?_;refine Q.st ?_)|(refine GQ.g ?_;refine Q.gq ?_)));refine qO ?_;first|refine N.tn ?_|skip
   refine wl ?_;refine vf (L':=dP p mp (YX d kf ((qI d).take k))::dM mp ts::wX ts::qo M1::L) eG ?_;refine vn (σ:=Nat) (λk0=> [(0,qK p),(1,.slice ak ks.length ck),(11,.slice (some ⟨b,o,none⟩) d.fs.length c),(12,.int .i64 d.fs.length),(13,.int .i64 k),(6,fk (ub,(⟨ua,uc,ubs,ufirm⟩:FV))),(7,.int .i64 k0)])
    (λ_=>dP p mp (YX d kf ((qI d).take k))::dM mp ts::wX ts::qo M1::L) (λk0=>ufirm+k0≤ubs.length∧(ks=[]→k0=0)) ?_ ?_
   ·by_cases hkk:k<ks.length
    ·obtain ⟨x,hx⟩:=qw hkk
     obtain ⟨b2,o2,rfl,hr2⟩:=qH.cm1 (g:=I64) h1 hx rfl
     by_cases hx0:0<x
     ·refine Q.r ?_
      refine QZ hti ?_;refine Q.dgo [true,false,false,true,true,true] [] [] [0,1,2,3,4,5,6,7,8,9,10,11,12,13,14,15,16] ?_;refine Q.rd ?_;refine D.yp rfl rfl rfl (Y.subN (a:=ubs.length) (b:=ufirm) rfl rfl ⟨hfi,by omega⟩) ?_;refine Q.rd ?_;obtain ⟨k0,hke⟩:∃k0:Nat,x.tmod (((ubs.length - ufirm:Nat):Int)+1)=(k0:Int):=Int.eq_ofNat_of_zero_le (Int.tmod_nonneg _ zo);have hkl0:=Int.tmod_lt_of_pos x (b:=((ubs.length - ufirm:Nat):Int)+1) zo;refine D.yp rfl rfl rfl (Y.rem rfl rfl zo) ?_;rw[hke];refine Q.rd ?_;refine Q.r ?_;exact ⟨k0,zt,qi.trans (M:=xY (ub,(⟨ua,uc,ubs,ufirm⟩:FV))::wT (ub,(⟨ua,uc,ubs,ufirm⟩:FV))::wX (ts.eraseIdx i)::dP p mp (YX d kf ((qI d).take k))::dM mp ts::qo M1::L) eG (qi.trans (Xs hti) eG),by omega,λh=>by rw[h] at hkk;exact absurd hkk (by simp)⟩
     ·refine Q.r ?_
      exact ⟨0,zt,kZ _,by omega,λ_=>rfl⟩
    ·refine Q.r ?_
     exact ⟨0,zt,kZ _,by omega,λ_=>rfl⟩
   rintro k0 ⟨hk1,hk2⟩;refine QZ hti ?_;refine Q.r ?_;refine bM ua (λ_ _ hcap=> ?_);dsimp only at hcap;refine vf (L':=xY (ub,(⟨ua,uc,ubs,ufirm⟩:FV))::wT (ub,(⟨ua,uc,ubs,ufirm⟩:FV))::wX (ts.eraseIdx i)::dP p mp (YX d kf ((qI d).take k))::dM mp ts::qo M1::L) eG ?_;refine Q.dgo [true,false,false,false,false,false] [14] [14] [0,1,2,3,4,5,6,7,8,9,10,11,12,13,14] ?_;refine Q.rd2 ?_;refine D.yp rfl rfl rfl (Y.addN (a:=ufirm) (b:=k0) rfl rfl zo) ?_;refine D.yp rfl rfl rfl (Y.slT (h:=ufirm+k0) (c:=uc) rfl rfl rfl zo) ?_;refine Q.rd2 ?_;refine Q.dc rfl rfl rfl rfl ?_;refine Q.r ?_;refine Q.rd2 ?_;refine Q.r ?_;have hkf2:(YX d kf ((qI d).take k)).fs[i]? =some (n2,ubs,ufirm):=by
    show (d.fs.map _)[i]? =_
    rw[jZ,hi,Option.map_some];unfold Y8;rw[ja hnt]
   have hl2:(ubs.take (ufirm+k0)).length=ufirm+k0:=by rw[jP];omega
   have hfs2:(YX d (WW kf n2 k0) ((qI d).take (k+1))).fs=(YX d kf ((qI d).take k)).fs.set i (n2,ubs.take (ufirm+k0),ufirm+k0):=by
    show d.fs.map _=(d.fs.map _).set _ _
    rw[qz hnk,jB2 hkey hi hnt]
   have hd2 : Wq (YX d (WW kf n2 k0) ((qI d).take (k + 1))) (ts.set i (n2,ub,⟨ua,uc,ubs.take (ufirm + k0),ufirm + k0⟩)) := hd.set hti _ rfl rfl hfs2 (by
    have h1:=hd.used;have h2:qP (YX d (WW kf n2 k0) ((qI d).take (k+1))).fs≤qP (YX d kf ((qI d).take k)).fs:=by
     rw[hfs2];exact dU hkf2 (by simp;omega)
    have h3 : (YX d (WW kf n2 k0) ((qI d).take (k + 1))).room = (YX d kf ((qI d).take k)).room := rfl;omega) (by
    show ufirm+k0≤(ubs.take (ufirm+k0)).length
    omega)
   refine ⟨(k+1,WW kf n2 k0),zt,?_,⟨by show k+1≤_;omega,λu hu2=> ?_,λh n=> ?_⟩,by show _ - (k+1)<_ - k;omega⟩
   ·refine qi.trans (M:=slO 5 1 ua ubs.length uc (ubs.map B)::pt ub (cl [.slice ua (ufirm+k0) uc,.int .i64 (ufirm+k0:Nat)] 126)::wX (ts.eraseIdx i)::dP p mp (YX d kf ((qI d).take k))::dM mp ts::qo M1::L) eG ?_
    refine qi.trans (XN rfl hk1) ?_;refine qi.trans (M:=xY (ub,(⟨ua,uc,ubs.take (ufirm+k0),ufirm+k0⟩:FV))::wT (ub,(⟨ua,uc,ubs.take (ufirm+k0),ufirm+k0⟩:FV))::wX (ts.eraseIdx i)::dP p mp (YX d kf ((qI d).take k))::dM mp ts::qo M1::L) ?_ (KW hti hd2)
    show qi _ (pt ub (cl [.slice ua (ubs.take (ufirm+k0)).length uc,.int .i64 ((ufirm+k0:Nat):Int)] 126)::slO 5 1 ua (ubs.take (ufirm+k0)).length uc ((ubs.take (ufirm+k0)).map B)::wX (ts.eraseIdx i)::dP p mp (YX d kf ((qI d).take k))::dM mp ts::qo M1::L)
    rw[hl2];exact eG
   ·show u.2.2+WW kf n2 k0 u.1≤_
    unfold WW
    split
    ·next he=>
     obtain ⟨j,hj⟩:=List.getElem?_of_mem hu2;have hij:i=j:=X6 hkey (x:=n2) (by rw[jZ,hi];rfl) (by rw[jZ,hj,←he];rfl);subst hij;rw[hi] at hj;obtain rfl:=Option.some.inj hj;exact hk1
    ·exact hkf u hu2
   ·show WW kf n2 k0 n=0
    unfold WW
    split
    ·exact hk2 h
    ·exact hk0 h n
  ·have hke:k=d.fs.length:=by omega
   subst hke;refine Q.r ?_;exact ⟨kf,zt,by rw[show (qI d).take d.fs.length=qI d from by rw[←hnl,jI]];exact kZ _,hkf,hk0⟩
 ·intro kf hkf
  refine XK p λmp ts hd=> ?_
  refine Q.r ?_;obtain ⟨hkf1,hkf2⟩:=hkf;have hnm:∀u∈d.fs,u.1∈qI d:=λu hu=>(yu _).mem_iff.2 (jA hu)
  have he:crD d kf={YX d kf (qI d) with left:= -1,down:=false}:=by
   unfold crD YX
   congr 1
   exact List.map_congr_left λu hu=>by unfold Y8;rw[jb (hnm u hu)]
  refine N.n0 RV.nil ?_ ⟨kf,M1,rfl,hl1,hkf1,hkf2,rfl⟩;rw[he];refine qi.trans (M:=dP p mp {YX d kf (qI d) with left:= -1,down:=false}::dM mp ts::wX ts::qo M1::L) eG (vz ⟨hd.fs,hd.key,⟨by show (-1:Int)≤ -1;omega,by show (-1:Int)≤1000000;omega⟩,hd.rm,hd.used,hd.few,hd.firm⟩)
attribute [local irreducible] zc
def QO (bs:List UInt8):List (List UInt8):=if h:bs=[] then [] else bs.take 4096::QO (bs.drop 4096)
termination_by bs.length
decreasing_by
 have:bs.length≠0:=λe=>h (List.length_eq_zero_iff.1 e)
 rw[jE];omega
theorem Kf :QO []=[]:=by rw[QO,dif_pos rfl]
theorem JO {bs:List UInt8}(h:bs≠[]):QO bs=bs.take 4096::QO (bs.drop 4096):=by rw[QO,dif_neg h]
theorem pI (bs:List UInt8):(QO bs).length≤bs.length:=by
 induction bs using QO.induct with
 |case1=>rw[Kf];exact jz _
 |case2 bs h ih=>
  have:bs.length≠0:=λe=>h (List.length_eq_zero_iff.1 e)
  rw[JO h,jC];rw[jE] at ih;omega
abbrev CV (M:OM):={v:YB // wc M v∧v.bs.length≤v.c∧v.bs.length≤4096}
abbrev cvV {M:OM}(v:CV M):Value:=v.1.val
theorem gV (M:OM)(a:OA)(c:Nat)(bs:List UInt8)(b2 b3:Nat)(A:HL)(h:qH M a bs.length 1 (bs.map B))(hc:bs.length≤c)(hl:bs.length≤1048575):
  VT kY 220 [qK b2,qK b3] (cvV (M:=M)) 1048576 (λks=>ks.map (λv=>v.1.bs)=QO bs) (pt b2 (cl [.slice a bs.length c] 34)::pt b3 (cl [.int .i64 4096] 3)::A) A:=by
 intro l J hJ;refine qg Tryz.func220 rfl rfl rfl ?_;refine Q.r ?_;refine ql (σ:=List (CV M)) (λks=> [(0,.func (.yield l) #[] #[]),(1,qK b2),(2,qK b3),(4,.int .i64 (4096*ks.length:Nat))])
  (λks=>J ks::pt b2 (cl [.slice a bs.length c] 34)::pt b3 (cl [.int .i64 4096] 3)::A) (λks=>ks.map (λv=>v.1.bs)++QO (bs.drop (4096*ks.length))=QO bs∧4096*ks.length≤bs.length+4095) (λks=>bs.length+4096 - 4096*ks.length) [] zt (kZ _) ⟨rfl,by simp⟩ ?_
 rintro ks ⟨hks,hkl⟩
 by_cases hlt:4096*ks.length<bs.length
 ·obtain ⟨b,o,rfl⟩:∃b o,a=some ⟨b,o,none⟩:=by
   rcases h.2 with h0|⟨b,o,_,_,_,e,_⟩
   ·omega
   ·exact ⟨b,o,e⟩
  obtain ⟨k,hk⟩:∃k,k=4096*ks.length:=⟨_,rfl⟩;rw[←hk] at hlt hks hkl ⊢;obtain ⟨m,hm⟩:∃m,m=min 4096 (bs.length - k):=⟨_,rfl⟩;refine Q.r ?_;refine Q.dgo [false,true,true] [] [] [0,1,2,3,4,5,6] ?_;refine Q.rd ?_;refine D.yp rfl rfl rfl (Y.slF (l:=k) rfl rfl rfl zo) ?_;refine Q.rd ?_;rw[show (min 4096 ((bs.length - k:Nat):Int):Int)=(m:Int) from by omega];refine N.tn ?_;refine wl ?_;refine zT ?_;refine qy (λ_ h=>by cases h) rfl ?_;refine Q.r ?_;refine qy (λ_ h=>by cases h) rfl ?_;refine Q.r ?_;refine qy (λ_ h=>by cases h) rfl ?_;refine Q.r ?_;refine qy (λ_ h=>by cases h) rfl ?_;refine Q.r ?_;refine qy (λ_ h=>by cases h) rfl ?_;refine Q.r ?_;refine qy (λ_ h=>by cases h) rfl ?_;refine S.y (Y.addN (a:=k) (b:=m) rfl rfl zo) ?_;refine Q.r ?_;refine qy (λ_ h=>by cases h) rfl ?_;refine Q.r ?_;refine qy (λ_ h=>by cases h) rfl ?_;refine Q.r ?_;refine qy (λ_ h=>by cases h) rfl ?_;refine S.y (Y.addN (a:=k) (b:=m) rfl rfl zo) ?_;refine Q.r ?_;refine qy (λ_ h=>by cases h) rfl ?_;refine S.y (Y.sl3 (l:=k) (h:=k+m) (mm:=k+m) rfl rfl rfl rfl rfl rfl rfl zo zo zo) ?_;rw[ja (show ¬k+m=k from by omega),show k+m - k=m from by omega,show Option.map (λz:Addr=>z.add (k*1)) (some ⟨b,o,none⟩)=some ⟨b,o+k*1,none⟩ from by simp[Addr.add]];refine Q.r ?_;have hpl:((bs.drop k).take m).length=m:=by rw[jP,jE];omega
  have hok:wc M ⟨some ⟨b,o+k*1,none⟩,m,(bs.drop k).take m⟩:=by
   have:=wc.cut (k:=m) h hc k zo;rw[ja zo] at this;exact this
  obtain ⟨x,hx⟩:∃x:CV M,x.1=⟨some ⟨b,o+k*1,none⟩,m,(bs.drop k).take m⟩:=⟨⟨⟨some ⟨b,o+k*1,none⟩,m,(bs.drop k).take m⟩,hok,Nat.le_of_eq hpl,by dsimp only;rw[hpl];omega⟩,rfl⟩;have hxv:Value.slice (some ⟨b,o+k*1,none⟩) m m=cvV x:=by show _=YB.val x.1;rw[hx];show _=Value.slice _ (List.length _) _;rw[hpl]
  rw[hxv];refine zy (L':=J ks::pt b2 (cl [.slice (some ⟨b,o,none⟩) bs.length c] 34)::pt b3 (cl [.int .i64 4096] 3)::A) eG ?_;refine J8 rfl rfl ((hJ ks x zo).frame (R:=_)) ?_;refine qy (λ_ h=>by cases h) rfl ?_;refine Q.r ?_;refine wB ?_;dsimp only[List.cons_append,List.nil_append];refine Q.r ?_;have hk2:k+4096=4096*(ks++[x]).length:=by simp;omega
  have hne:bs.drop k≠[]:=λh=>by have:=jj List.length h;rw[jE] at this;simp at this;omega
  have htk:(bs.drop k).take m=(bs.drop k).take 4096:=by
   rw[hm]
   by_cases h4:4096≤bs.length - k
   ·rw[Nat.min_eq_left h4]
   ·rw[Nat.min_eq_right zo,kK (by rw[jE];exact jz _),kK (by rw[jE];omega)]
  refine ⟨ks++[x],⟨rfl,rfl,rfl,jj some (jj (Value.int .i64) (by rw[←hk2];rfl)),trivial⟩,kZ _,⟨?_,by omega⟩,by omega⟩;rw[←hk2,jq,ju,←hks,JO hne,List.drop_drop]
  show _++(x.1.bs::_)=_
  rw[hx];dsimp only;rw[htk];rfl
 ·have e:bs.drop (4096*ks.length)=[]:=List.drop_eq_nil_of_le zo
  rw[e,Kf,jG] at hks;refine Q.r ?_;exact N.n0 RV.nil eG ⟨ks,hks,rfl⟩
end Go.Proofs.YtlnfjhiphlfkjaaGreatDoor
namespace Go.Proofs.YtlnfjhiphlfkjaaGreatDoor
open Go Go.SX
attribute [local irreducible] swp qq qM qL vX qh St qi qk vu qG
def okU (n i m:Nat):Bool:= !decide (m=0)&& !(decide (m<4096)&&decide (i+2<n))
def unL (l:List (List UInt8))(m:Nat):Option (List UInt8):=
 if vD l=m∧l≠[]∧(l.getD (l.length - 1) []).length=0∧∀i,i<l.length - 1→okU l.length i (l.getD i []).length=true then some (l.take (l.length - 1)).flatten else none
theorem bF {l:List (List UInt8)}{m:Nat}(h:¬(vD l=m∧l≠[]∧(l.getD (l.length - 1) []).length=0∧∀i,i<l.length - 1→okU l.length i (l.getD i []).length=true)):unL l m=none:=ja h
def unP (p:List UInt8):Option (List UInt8):=unL (K4 p) p.length
theorem fF {vs:List YB}{k:Nat}{v:YB}(h:vs[k]? =some v):(vs.map YB.bs).getD k []=v.bs:=by
 rw[j8,jZ,h];rfl
def stR (M:OM)(L0:HL)(o:Option (List UInt8))(r:Value)(L':HL):Prop:=∃v M',r=.tuple #[YB.val v,.bool o.isSome]∧v.bs=o.getD []∧wc M' v∧v.bs.length≤v.c∧qU M M'∧L'=qo M'::L0
theorem Jj.rdS {M:OM}{vs:List YB}(h:Jj M vs){v:YB}(hv:v∈vs){L:HL}[wY M L]:n4 L v:=(h v hv).1.rd
set_option maxRecDepth 100000 in
theorem dW (a:OA)(c:Nat)(bs:List UInt8)(M:OM)(L0:HL)(h:qH M a bs.length 1 (bs.map B))(hT:xg M)(hc:bs.length≤c)(hb:bs.length≤100000000000):
  qh kY 74 [.slice a bs.length c] (qo M::L0) (stR M L0 (unP bs)):=by
 refine qg Tryz.func74 rfl rfl rfl ?_;refine Q.r ?_;refine S.cr rfl (ti a c bs M L0 h hT hc hb) ?_;rintro _ _ ⟨a1,c1,rfl,vs,M1,hvs,hok,hl1,rfl⟩;unfold unP;rw[←hvs] at*;have hge:=Xt (vs.map YB.bs);rw[jf] at hge ⊢;refine wA a1 (λM2 hl2 hs hc1=> ?_);have hno:∀M',qU M1 M'→unL (vs.map YB.bs) bs.length=none→stR M L0 (unL (vs.map YB.bs) bs.length) (.tuple #[.slice none 0 0,.bool false]) (qo M'::L0):=λM' hl hq=>
  ⟨⟨none,0,[]⟩,M',by rw[hq];rfl,by rw[hq];rfl,qH.nil,jz _,hl1.trans hl,rfl⟩
 by_cases k1:vD (vs.map YB.bs)=bs.length
 ·by_cases k2:vs.length=0
  ·have e0:vs=[]:=jO k2
   refine Q.r ?_;exact N.u rfl rfl (kZ _) (hno M2 hl2 (bF (by rintro ⟨_,h,_⟩;exact h (by rw[e0];rfl))))
  ·obtain ⟨z,hz⟩:=qw (show vs.length - 1<vs.length by omega)
   have hgz:=fF hz;obtain ⟨b,o,rfl,hr⟩:=qW.elem (g:=YB.cells) (L:=qo M2::L0) (λ_=>rfl) hs.rd hz rfl;refine Q.r ?_;refine S.y (Y.ia (k:=vs.length - 1) rfl rfl zo zo) ?_;refine Q.r ?_
   by_cases k3:z.bs.length=0
   ·refine Q.r ?_
    refine S.y (Y.slT (h:=vs.length - 1) rfl rfl zo zo) ?_;refine Q.r ?_;have hok2:=(hok.mono hl2);have hcl:∀k,(qV (vs.take k)).length≤bs.length:=λk=>by
     have e1:∀l:List YB,(qV l).length≤vD (l.map YB.bs):=λl=>by
      induction l with
      |nil=>exact jz _
      |cons x l ih=>
       show (x.bs++qV l).length≤6+x.bs.length+vD (l.map YB.bs)
       rw[jc];omega
     have e2:=e1 vs;have e3:(qV (vs.take k)).length≤(qV vs).length:=by
      conv=>rhs;rw[←kJ k vs]
      unfold qV;rw[kS,jc];omega
     omega
    refine qx (σ:=OA×Nat) (λs=> [(6,.slice s.1 (qV (vs.take (vs.length - 1))).length s.2)]) (λs=>slO 5 1 s.1 (qV (vs.take (vs.length - 1))).length s.2 ((qV (vs.take (vs.length - 1))).map B)::qo M2::L0)
     (λ_=>∀i,i<vs.length - 1→okU vs.length i ((vs.map YB.bs).getD i []).length=true) ?_ ?_
    ·refine ql (σ:=Nat×OA×Nat) (λs=> [(4,.slice (some ⟨b,o,none⟩) vs.length c1),(37,.slice (some ⟨b,o,none⟩) (vs.length - 1) c1),(38,.int .i64 ((vs.length - 1:Nat):Int)),(6,.slice s.2.1 (qV (vs.take s.1)).length s.2.2),(39,.int .i64 s.1)])
      (λs=>slO 5 1 s.2.1 (qV (vs.take s.1)).length s.2.2 ((qV (vs.take s.1)).map B)::qo M2::L0)
      (λs=>s.1≤vs.length - 1∧∀i,i<s.1→okU vs.length i ((vs.map YB.bs).getD i []).length=true) (λs=>vs.length - 1 - s.1) (0,none,0) zt vh ⟨jw _,λi hi=>by omega⟩ ?_
     rintro ⟨k,a6,c6⟩ ⟨hk,hall⟩;dsimp only at hk hall ⊢;have hck:=hcl k
     by_cases hlt:k<vs.length - 1
     ·obtain ⟨v,hv⟩:=qw (show k<vs.length by omega)
      have hgv:=fF hv;have hmv:=jn hv;have hck1:=hcl (k+1);have hcs:qV (vs.take (k+1))=qV (vs.take k)++v.bs:=by rw[qz hv];unfold qV;rw[kS];simp
      rw[hcs,jc] at hck1;obtain ⟨b',o',he,hr2⟩:=qW.elem (g:=YB.cells) (L:=slO 5 1 a6 (qV (vs.take k)).length c6 ((qV (vs.take k)).map B)::qo M2::L0) (λ_=>rfl) hs.rd hv rfl
      cases he
      have hbad:okU vs.length k v.bs.length=false→unL (vs.map YB.bs) bs.length=none:=λhq=>bF λh=>by
       have:=h.2.2.2 k (by rw[jf];exact hlt);rw[jf,hgv,hq] at this
       cases this
      by_cases q1:v.bs.length=0
      ·refine Q.r ?_
       exact N.u rfl rfl (qi.drop (kZ _)) (hno M2 hl2 (hbad (by unfold okU;rw[jo q1];rfl)))
      by_cases q2:v.bs.length<4096
      ·by_cases q3:k+2<vs.length
       ·refine Q.r ?_
        exact N.u rfl rfl (qi.drop (kZ _)) (hno M2 hl2 (hbad (by unfold okU;rw[jo q2,jo q3];simp)))
       ·refine Q.r ?_
        refine S.app rfl rfl (vA.rd ((Jj.rdS hok2 hmv)) (zM _)) zr zo zo (λa7 c7=> ?_);refine Q.r ?_;refine ⟨(k+1,a7,c7),⟨rfl,rfl,rfl,by rw[hcs];exact jj some (by simp),rfl,trivial⟩,by dsimp only;rw[hcs,jc,jq];exact kZ _,⟨by dsimp only;omega,λi hi=> ?_⟩,by dsimp only;omega⟩
        by_cases hik:i=k
        ·subst hik
         rw[hgv];unfold okU;rw[jv q1,jv q3];simp
        ·exact hall i (by dsimp only at hi;omega)
      ·refine Q.r ?_
       refine S.app rfl rfl (vA.rd ((Jj.rdS hok2 hmv)) (zM _)) zr zo zo (λa7 c7=> ?_);refine Q.r ?_;refine ⟨(k+1,a7,c7),⟨rfl,rfl,rfl,by rw[hcs];exact jj some (by simp),rfl,trivial⟩,by dsimp only;rw[hcs,jc,jq];exact kZ _,⟨by dsimp only;omega,λi hi=> ?_⟩,by dsimp only;omega⟩
       by_cases hik:i=k
       ·subst hik
        rw[hgv];unfold okU;rw[jv q1,jv q2];simp
       ·exact hall i (by dsimp only at hi;omega)
     ·have hke:k=vs.length - 1:=by omega
      subst hke;refine Q.r ?_;exact ⟨(a6,c6),zt,kZ _,hall⟩
    ·rintro ⟨a6,c6⟩ hall
     dsimp only at hall ⊢;refine vf Xk (KB λhc6=> ?_);refine wm a6 (λM3 hl3 hs3=> ?_);refine Q.r ?_;have hq:unL (vs.map YB.bs) bs.length=some (qV (vs.take (vs.length - 1))):=by
      unfold unL;rw[jb ⟨k1,by intro h;exact k2 (by rw[←jf (f:=YB.bs),h];rfl),by rw[jf,hgz];exact k3,by rw[jf];exact hall⟩,jf,←List.map_take,←List.flatMap_def]
     exact N.u rfl rfl (kZ _) ⟨⟨a6,c6,qV (vs.take (vs.length - 1))⟩,M3,by rw[hq];rfl,by rw[hq];rfl,hs3,hc6,hl1.trans (hl2.trans hl3),rfl⟩
   ·refine Q.r ?_
    exact N.u rfl rfl (kZ _) (hno M2 hl2 (bF λh=>k3 (by have:=h.2.2.1;rwa [jf,hgz] at this)))
 ·refine Q.r ?_
  exact N.u rfl rfl (kZ _) (hno M2 hl2 (bF λh=>k1 h.1))
attribute [local irreducible] zc
theorem nD (a:OA)(c m:Nat)(L:HL):qh kY 182 [.slice a m c,.int .i64 4096] L
  (λv L'=>∃b2 b3,v=.func (.func 220) #[] [qK b2,qK b3].toArray∧L'=pt b2 (cl [.slice a m c] 34)::pt b3 (cl [.int .i64 4096] 3)::L):=by
 refine qg Tryz.func182 rfl rfl rfl ?_;refine Q.r ?_;(repeat (intro b1;refine Q.r ?_));refine S.y (Y.mf rfl rfl) ?_;refine Q.r ?_;rename_i b2;exact N.t rfl eG ⟨b2,b1,rfl,rfl⟩
def KH (bs:List UInt8):List (List UInt8):=(QO bs).map frB++[frB []]
structure PX where
 vs:List YB
 a:OA
 c:Nat
 M:OM
abbrev pkL (rec:Loop)(l D t3:Nat)(x:PX):HL:=[pt l (.loop rec),pt D (.deferred (some [])),pt t3 (cl [.slice x.a x.vs.length x.c] 73),slO 34 1 x.a x.vs.length x.c (x.vs.flatMap YB.cells),qo x.M]
def rN {M:OM}(pre:List (CV M))(x:PX):Prop:=x.vs.map YB.bs=pre.map (λv=>frB v.1.bs)∧Jj x.M x.vs∧qU M x.M
def pkJ {M:OM}(rec:Loop)(l D t3:Nat)(pre:List (CV M)):HP:=cQ λx:PX=>xO (wv (rN pre x)::pkL rec l D t3 x)
theorem fq {M:OM}{rec:Loop}{l D t3:Nat}{pre:List (CV M)}{x:PX}(h:rN pre x){L:HL}:qi (pkL rec l D t3 x++L) (pkJ rec l D t3 pre::L):=
 qi.trans (qi.shut_pure h) (qi.trans (qi.shut_all (L:=_::pkL rec l D t3 x)) (qi.shut_ex (P:=λx:PX=>xO (wv (rN pre x)::pkL rec l D t3 x)) x))
theorem ft {M:OM}{rec:Loop}{l D t3:Nat}{pre:List (CV M)}{w:World}{L:HL}(H:St w (pkJ rec l D t3 pre::L)):∃x,rN pre x∧St w (pkL rec l D t3 x++L):=by
 obtain ⟨x,H⟩:=St.open_ex H;have H2:=St.ent (qi.open_all (L:=_::pkL rec l D t3 x)) H;obtain ⟨h,H3⟩:=St.open_pure H2;exact ⟨x,h,H3⟩
structure jCs (M:OM)(l t3:Nat)(l1 l2:List Oper):Prop where
 ok1:wj 30 l1=true
 ok2:wj 30 l2=true
 b1:∀(v:CV M) (M1:OM),qU M M1→zc kY 30 (some l) l1 l1 (qM (λf L=>∃(u:YB) (M2:OM),f 3=some (qK t3)∧f 5=some u.val∧u.bs=frB v.1.bs∧wc M2 u∧u.bs.length≤u.c∧qU M1 M2∧L=[qo M2]) (λ_ _ _=>False)) (vR [(3,qK t3),(4,cvV v)]) [qo M1]
 b2:∀(u:YB) (a:OA) (c k:Nat) (cs:List Value),k<1048576→zc kY 30 (some l) l2 l2 (qM (λf L=>∃a' c',L=[pt t3 (cl [.slice a' (k+1) c'] 73),slO 34 1 a' (k+1) c' (cs++u.cells)]) (λ_ _ _=>False)) (vR [(3,qK t3),(5,u.val)]) [pt t3 (cl [.slice a k c] 73),slO 34 1 a k c cs]
theorem St.rot4 {w:World}{A B C D E:HP}{F:HL}(H:St w (A::B::C::D::E::F)):St w ([E]++(A::B::C::D::F)):=St.perm (by simpa using (List.perm_append_comm (l₁:=[A,B,C,D]) (l₂:=[E])).append_right F) H
theorem St.rot5 {w:World}{A B C D E:HP}{F:HL}(H:St w ([E]++(A::B::C::D::F))):St w ([C,D]++(A::B::E::F)):=St.perm (by
 have h1:List.Perm ([E,A,B]++[C,D]) ([C,D]++[E,A,B]):=List.perm_append_comm;have h2:List.Perm ([C,D]++[E,A,B]) ([C,D]++[A,B,E]):=(List.perm_append_comm (l₁:=[E]) (l₂:=[A,B])).append_left [C,D]
 simpa using (h1.trans h2).append_right F) H
theorem jCZ {M:OM}{fn:FuncId}{tm:Array Value}{l D t3:Nat}{pre:List (CV M)}{x:CV M}{assign body:Code}(htm:tm.size=30)(h3:tm[3]? =some (qK t3))(hN:pre.length<1048576)
  (ha:assign=.region 3 ([⟨some 4,.assign (.tmp 11),34, "journal.go:46",#[],none⟩]:List Oper).toArray false)
  (hb:∃l1 l2 id1 id2,body=.block 1 (.seq (.region id1 (l1:List Oper).toArray false) (.region id2 (l2:List Oper).toArray false))∧jCs M l t3 l1 l2):
  K5 kY l (cvV x) [pkJ (vy fn tm #[11] assign body D .ready none) l D t3 pre] [pkJ (vy fn tm #[11] assign body D .ready none) l D t3 (pre++[x])]:=by
 intro F w t;obtain ⟨y,⟨hy1,hy2,hy3⟩,t⟩:=ft (L:=F) (by simpa using t);have hl:=St.pt_read t;obtain ⟨l1,l2,id1,id2,hbd,hB⟩:=hb;have hyl:y.vs.length<1048576:=by
  have:=jj List.length hy1;rw[jf,jf] at this;omega
 refine ⟨fn,tm.setIfInBounds 11 (cvV x),_,_,by simpa[vy] using run_yield (P:=kY) (args:= #[cvV x]) hl rfl,roundIn_of_wpIn trivial ?_⟩;have s0:Ki 30 {tmps:=tm.setIfInBounds 11 (cvV x),defers:=[]} (vR [(3,qK t3),(11,cvV x)]):=by
  refine ⟨rfl,by simp[htm],λi v e=> ?_⟩;simp only[vR,upd,e0] at e
  by_cases h2:i=3
  ·subst h2
   cases e
   rw[Array.getD_eq_getD_getElem?,Array.getElem?_setIfInBounds_ne zo,h3];rfl
  ·by_cases h7:i=11
   ·subst h7
    cases e
    simp[htm]
   ·rw[Wj h2,Wj h7] at e;cases e
 have hwa:∀Q a w,(Code.region 3 ([⟨some 4,.assign (.tmp 11),34, "journal.go:46",#[],none⟩]:List Oper).toArray false).wpIn (Go.SX.WF (some l)) 0 kY Q a w→assign.wpIn (Go.SX.WF (some l)) 0 kY Q a w:=λQ a w h=>by rw[ha];exact h
 refine hwa _ _ _ (xI (r:=some l) (n:=30) (L:=pkL (vy fn tm #[11] assign body D .ready none) l D t3 y) (F:=F) (K:=λf L=>f 3=some (qK t3)∧f 4=some (cvV x)∧L=pkL (vy fn tm #[11] assign body D .ready none) l D t3 y) ?_ rfl s0 t ?_)
 ·refine qy (λ_ h=>by cases h) rfl ?_
  repeat (first|(refine GQ.y ?_;refine Q.y ?_)|refine Q.go ?_|(refine GQ.g ?_;refine Q.gq ?_)|(refine GQ.s ?_;refine Q.st ?_))
  exact wB (N.tn ⟨rfl,rfl,rfl⟩)
 rintro f L a1 w1 ⟨h2,h5,rfl⟩ s1 t1;refine ⟨_,run_beginRound (St.pt_read t1) rfl,?_⟩;have t2:=St.obj (o':=.loop {(vy fn tm #[11] assign body D .ready none) with state:=.busy}) (L:=[pt D (.deferred (some [])),pt t3 (cl [.slice y.a y.vs.length y.c] 73),slO 34 1 y.a y.vs.length y.c (y.vs.flatMap YB.cells),qo y.M]++F) t1;have t3':=St.rot4 t2;have hwp:∀Q a w,(Code.block 1 (.seq (.region id1 l1.toArray false) (.region id2 l2.toArray false))).wpIn (Go.SX.WF (some l)) 0 kY Q a w→body.wpIn (Go.SX.WF (some l)) 0 kY Q a w:=λQ a w h=>by rw[hbd];exact h
 refine hwp _ _ _ (wpIn_block (wpIn_seq (xI (r:=some l) (n:=30) (F:=_) (hB.b1 x y.M hy3) hB.ok1 (s1.weaken (we ⟨h2,h5,trivial⟩)) t3' ?_)));rintro f L a2 w2 ⟨u,M2,hu3,hu5,hub,huo,huc,hle,rfl⟩ s2 t4;simp only[Exit.then];have t5:=St.rot5 t4;refine xI (r:=some l) (n:=30) (F:=_) (hB.b2 u y.a y.c y.vs.length (y.vs.flatMap YB.cells) hyl) hB.ok2 (s2.weaken (we ⟨hu3,hu5,trivial⟩)) t5 ?_;rintro f L a3 w3 ⟨a',c',rfl⟩ s3 t6;have t7:=St.rot2 t6;refine ⟨_,_,run_endRound none (St.pt_read t7),rfl,?_⟩;have t8:=St.obj (o':=.loop (vy fn tm #[11] assign body D .ready none)) t7;have e1:y.vs.length+1=(y.vs++[u]).length:=by simp
 have e2:y.vs.flatMap YB.cells++u.cells=(y.vs++[u]).flatMap YB.cells:=by simp
 rw[e1,e2] at t8;have hok:rN (pre++[x]) (⟨y.vs++[u],a',c',M2⟩:PX):=by
  refine ⟨?_,?_,hy3.trans hle⟩
  ·show (y.vs++[u]).map YB.bs=_
   rw[jq,jq,hy1]
   show _++[u.bs]=_++[frB x.1.bs]
   rw[hub]
  ·intro v hv
   rcases jy.1 hv with hv|hv
   ·exact (hy2.mono hle) v hv
   ·rw[ji.1 hv];exact ⟨huo,huc⟩
 have t9:=St.ent (fq (rec:=vy fn tm #[11] assign body D .ready none) (l:=l) (D:=D) (t3:=t3) (L:=F) hok) t8
 simpa[vy] using t9
theorem rQ (a:OA)(c:Nat)(bs:List UInt8)(M:OM)(L0:HL)(h:qH M a bs.length 1 (bs.map B))(hT:xg M)(hc:bs.length≤c)(hl:bs.length≤1048575):
  qh kY 127 [.slice a bs.length c] (qo M::L0) (λr L'=>∃a' c',r=.slice a' (KH bs).length c'∧jAP M L0 (KH bs) a' c' L'):=by
 refine qh.mk' λF w t=> ?_
 refine (callsIn_wide (n:=1)).1 (callsIn_of_wp_marks Tryz.func127 rfl trivial ?_);have s0:Ki 30 {tmps:= #[.slice a bs.length c]++Array.replicate 29 undef,defers:=[]} (K3 [.slice a bs.length c] 0):=by
  refine ⟨rfl,by simp,λi v e=> ?_⟩;obtain ⟨_,h2⟩:=JR _ 0 i v e;simp only[Nat.sub_zero] at h2;have hi:i<1:=(jm.1 h2).1
  match i,hi,h2 with
  |0,_,h2=>simpa using h2
 refine xh (n:=30) (F:=F) (K:=λf L=>f 0=some (.slice a bs.length c)∧L=qo M::L0) ?_ rfl s0 t ?_
 ·refine Q.r ?_
  exact ⟨rfl,rfl⟩
 rintro f L a0 w0 ⟨h0,rfl⟩ s0' t0;refine xh (n:=30) (F:=F) (K:=λf L=>∃t3,f 0=some (.slice a bs.length c)∧f 3=some (qK t3)∧L=pt t3 (cl [.slice none 0 0] 73)::qo M::L0) (f:=vR [(0,.slice a bs.length c)]) ?_ rfl (s0'.weaken (we ⟨h0,trivial⟩)) t0 ?_
 ·refine Q.r ?_;(repeat (intro b1;refine Q.r ?_))
  exact ⟨_,rfl,rfl,rfl⟩
 rintro f L a1 w1 ⟨t3,h1,h3,rfl⟩ s1 t1;refine wpIn_seq ?_;refine xh (n:=30) (F:=F) (K:=λf L=>∃b2 b3,f 3=some (qK t3)∧f 10=some (.func (.func 220) #[] [qK b2,qK b3].toArray)∧L=pt b2 (cl [.slice a bs.length c] 34)::pt b3 (cl [.int .i64 4096] 3)::pt t3 (cl [.slice none 0 0] 73)::qo M::L0) (f:=vR [(0,.slice a bs.length c),(3,qK t3)]) ?_ rfl (s1.weaken (we ⟨h1,h3,trivial⟩)) t1 ?_
 ·refine Q.r ?_
  refine S.cr rfl (nD a c bs.length _) ?_;rintro _ _ ⟨b2,b3,rfl,rfl⟩;refine Q.r ?_;exact ⟨b2,b3,rfl,rfl,rfl⟩
 rintro f L a2 w2 ⟨b2,b3,h3,h10,rfl⟩ s2 t2;obtain ⟨tm,htm⟩:∃tm,tm=a2.tmps:=⟨_,rfl⟩;have hsz:tm.size=30:=by rw[htm];exact s2.size
 have h3':tm[3]? =some (qK t3):=by
  have:=s2.at_ 3 _ h3;rw[←htm,Array.getD_eq_getD_getElem?] at this;have hlt:3<tm.size:=by omega
  rw[Array.getElem?_eq_getElem hlt] at this ⊢
  simpa using this
 have hev:a2.eval (.tmp 10)=.func (.func 220) #[] [qK b2,qK b3].toArray:=s2.eval (x:=.tmp 10) h10;refine wpIn_block (Ky hev λfn=> ?_);have t3a:=St.pt_new (w':=w2.alloc (.deferred (some []))) t2 rfl rfl;generalize hr0:({state:=.ready,pending:=none,fn,tmps:=a2.tmps,params:= #[11],assign:=_,body:=_,defers:=w2.heap.size}:Loop)=rec;have t4:=St.pt_new (w':=(w2.alloc (.deferred (some []))).alloc (.loop rec)) t3a rfl rfl;obtain ⟨As,hA⟩:∃A,A=rec.assign:=⟨_,rfl⟩;obtain ⟨Bs,hB⟩:∃B,B=rec.body:=⟨_,rfl⟩;have hrec:rec=vy fn tm #[11] As Bs w2.heap.size .ready none:=by rw[hA,hB,htm,←hr0];rfl
 have hA':As=.region 3 ([⟨some 4,.assign (.tmp 11),34, "journal.go:46",#[],none⟩]:List Oper).toArray false:=by rw[hA,←hr0]
 have hB':∃l1 l2 id1 id2,Bs=.block 1 (.seq (.region id1 (l1:List Oper).toArray false) (.region id2 (l2:List Oper).toArray false))∧jCs M (w2.heap.size+1) t3 l1 l2:=by
  refine ⟨_,_,4,5,by rw[hB,←hr0],rfl,rfl,λv M1 hle=> ?_,λu a c k cs hk=> ?_⟩
  ·refine qy (λ_ h=>by cases h) rfl ?_
   refine Q.r ?_;refine qy (λ_ h=>by cases h) rfl ?_;refine Q.r ?_;(repeat (intro b1;refine Q.r ?_));refine qy (λ_ h=>by cases h) rfl ?_;refine S.cr rfl (zL (some ⟨b1,0,none⟩) 1 [v.1] M1 _ _ (qW.row1y rfl) (λu hu=>by rw[ji.1 hu];exact (v.2.1.mono hle).rd) (hT.mono hle) (jz _) (by simp) (by simp;have:=v.2.2.2;omega)) ?_;rintro _ _ ⟨u,M2,rfl,hub,huo,huc,hl2,rfl⟩;have hcv:qV [v.1]=v.1.bs:=by simp
   rw[hcv,ja (by have:=v.2.2.2;omega)] at hub;refine Q.r ?_;refine qy (λ_ h=>by cases h) rfl ?_;refine Q.r ?_;refine qy (λ_ h=>by cases h) rfl ?_;refine Q.r ?_;refine qy (λ_ h=>by cases h) rfl ?_;refine Q.r ?_;refine qy (λ_ h=>by cases h) rfl ?_;refine Q.r ?_;refine qy (λ_ h=>by cases h) rfl ?_;refine Q.r ?_;exact zy (L':=[qo M2]) eG (wB (N.tn ⟨u,M2,rfl,rfl,hub,huo,huc,hl2,rfl⟩))
  ·refine qy (λ_ h=>by cases h) rfl ?_
   refine Q.r ?_;refine qy (λ_ h=>by cases h) rfl ?_;refine Q.r ?_;refine qy (λ_ h=>by cases h) rfl ?_;refine Q.r ?_;(repeat (intro b1;refine Q.r ?_));refine qy (λ_ h=>by cases h) rfl ?_;refine S.app rfl rfl (vA.sl vg.row zr zr) zr zo zo (λa' c'=> ?_);refine Q.r ?_;refine qy (λ_ h=>by cases h) rfl ?_;refine Q.r ?_;exact zy (qi.drop (kZ _)) (wB (N.tn ⟨a',c',rfl⟩))
 clear hA hB;subst hrec;clear hr0;have hcall:=gV M a c bs b2 b3 L0 h hc hl (w2.heap.size+1) (pkJ (vy fn tm #[11] As Bs w2.heap.size .ready none) (w2.heap.size+1) w2.heap.size t3) (λpre x hp=>jCZ hsz h3' hp hA' hB');have hsz1:(w2.alloc (.deferred (some []))).heap.size=w2.heap.size+1:=by simp
 rw[hsz1] at t4;have t5:St ((w2.alloc (.deferred (some []))).alloc (.loop (vy fn tm #[11] As Bs w2.heap.size .ready none))) (pkL (vy fn tm #[11] As Bs w2.heap.size .ready none) (w2.heap.size+1) w2.heap.size t3 ⟨[],none,0,M⟩++(pt b2 (cl [.slice a bs.length c] 34)::pt b3 (cl [.int .i64 4096] 3)::L0++F)):=by
  have t4':=St.ent (qi.cons (qi.cons (vh (t:=34) (sz:=1)))) t4;simp only[List.cons_append,kO] at t4' ⊢;generalize L0++F=G at t4' ⊢;refine St.ent ?_ t4'
  show qi _ (pt (w2.heap.size+1) (.loop (vy fn tm #[11] As Bs w2.heap.size .ready none))::pt w2.heap.size (.deferred (some []))::pt t3 (cl [.slice none 0 0] 73)::slO 34 1 none 0 0 []::qo M::pt b2 (cl [.slice a bs.length c] 34)::pt b3 (cl [.int .i64 4096] 3)::G)
  exact eG
 have hok0:rN ([]:List (CV M)) (⟨[],none,0,M⟩:PX):=⟨rfl,λv hv=>by simp at hv,qU.refl M⟩;have t6:=St.ent (fq hok0) t5;refine (qh.run hcall t6).mono ?_;rintro e w3 ⟨v,L',rfl,t7,ks,hks,rfl⟩;obtain ⟨x,⟨hx1,hx2,hx3⟩,t8⟩:=ft t7;refine ⟨v,_,rfl,run_endLoop (St.pt_read t8) (by simp[vy]),?_⟩;have t9:=(St.obj (o':=.loop {vy fn tm #[11] As Bs w2.heap.size .ready none with state:=.exhausted}) t8).tail;generalize w3.putObj (w2.heap.size+1) (.loop {vy fn tm #[11] As Bs w2.heap.size .ready none with state:=.exhausted})=w4 at t9;simp only[Exit.inBlock,Exit.then];have hd2:a2.defers=[]:=s2.defers;rw[hd2,jG];have hxl:x.vs.length=(QO bs).length:=by
  have h1:=jj List.length hx1;have h2:=jj List.length hks;rw[jf,jf] at h1;rw[jf] at h2;omega
 have hxl2:=pI bs;have hpk:(x.vs.map YB.bs)=(QO bs).map frB:=by rw[hx1,←hks,kE];rfl
 refine Zl (n:=30) (L:=pt t3 (cl [.slice x.a x.vs.length x.c] 73)::slO 34 1 x.a x.vs.length x.c (x.vs.flatMap YB.cells)::qo x.M::L0) (F:=pt w2.heap.size (.deferred (some []))::F)
  (K:=λf L=>∃(u:YB) (M2:OM),f 3=some (qK t3)∧f 7=some u.val∧u.bs=frB []∧wc M2 u∧u.bs.length≤u.c∧qU x.M M2∧L=pt t3 (cl [.slice x.a x.vs.length x.c] 73)::slO 34 1 x.a x.vs.length x.c (x.vs.flatMap YB.cells)::qo M2::L0) (f:=vR [(3,qK t3)]) _ ?_ rfl (s2.weaken (we ⟨h3,trivial⟩)) ?_ ?_
 ·refine qy (λ_ h=>by cases h) rfl ?_
  refine S.cr rfl (zL none 0 [] x.M _ _ ⟨rfl,.inl rfl⟩ (λu hu=>by simp at hu) (hT.mono hx3) (jz _) (by simp) (by simp)) ?_;rintro _ _ ⟨u,M2,rfl,hub,huo,huc,hl2,rfl⟩;have hub':u.bs=frB []:=by rw[hub];rfl
  refine Q.r ?_;refine qy (λ_ h=>by cases h) rfl ?_;refine Q.r ?_;refine qy (λ_ h=>by cases h) rfl ?_;refine Q.r ?_;refine qy (λ_ h=>by cases h) rfl ?_;refine Q.r ?_;refine qy (λ_ h=>by cases h) rfl ?_;refine Q.r ?_;refine qy (λ_ h=>by cases h) rfl ?_;refine Q.r ?_;exact zy (L':=pt t3 (cl [.slice x.a x.vs.length x.c] 73)::slO 34 1 x.a x.vs.length x.c (x.vs.flatMap YB.cells)::qo M2::L0) eG (wB (N.tn ⟨u,M2,rfl,rfl,hub',huo,huc,hl2,rfl⟩))
 ·have hp:=(List.perm_middle (a:=pt w2.heap.size (.deferred (some []))) (l₁:=pt t3 (cl [.slice x.a x.vs.length x.c] 73)::slO 34 1 x.a x.vs.length x.c (x.vs.flatMap YB.cells)::qo x.M::L0) (l₂:=F)).symm
  exact St.perm (by simpa using hp) t9
 rintro f L a3 w5 ⟨u,M2,h3,h7,hub,huo,huc,hl2,rfl⟩ s3 t10;refine Zl (n:=30) (F:=pt w2.heap.size (.deferred (some []))::F)
  (K:=λf L=>∃a' c',f 2=some (.slice a' (x.vs.length+1) c')∧L=slO 34 1 a' (x.vs.length+1) c' (x.vs.flatMap YB.cells++u.cells)::qo M2::L0) (f:=vR [(3,qK t3),(7,u.val)]) _ ?_ rfl (s3.weaken (we ⟨h3,h7,trivial⟩)) t10 ?_
 ·refine qy (λ_ h=>by cases h) rfl ?_
  refine Q.r ?_;refine qy (λ_ h=>by cases h) rfl ?_;refine Q.r ?_;refine qy (λ_ h=>by cases h) rfl ?_;refine Q.r ?_;(repeat (intro b1;refine Q.r ?_));refine qy (λ_ h=>by cases h) rfl ?_;refine S.app rfl rfl (vA.sl vg.row zr zr) zr zo zo (λa' c'=> ?_);refine Q.r ?_;refine qy (λ_ h=>by cases h) rfl ?_;refine Q.r ?_;exact zy (L':=slO 34 1 a' (x.vs.length+1) c' (x.vs.flatMap YB.cells++u.cells)::qo M2::L0) eG (wB (N.tn ⟨a',c',rfl,rfl⟩))
 rintro f L a4 w6 ⟨a',c',h2,rfl⟩ s4 t11;have t12:St w6 (pt w2.heap.size (.deferred (some []))::slO 34 1 a' (x.vs.length+1) c' (x.vs.flatMap YB.cells++u.cells)::qo M2::L0++F):=by
  have hp:=(List.perm_middle (a:=pt w2.heap.size (.deferred (some []))) (l₁:=slO 34 1 a' (x.vs.length+1) c' (x.vs.flatMap YB.cells++u.cells)::qo M2::L0) (l₂:=F));exact St.perm (by simpa using hp) t11
 have hD:=St.pt_read t12;have e1:x.vs.length+1=(x.vs++[u]).length:=by simp
 have e2:x.vs.flatMap YB.cells++u.cells=(x.vs++[u]).flatMap YB.cells:=by simp
 have e3:(x.vs++[u]).map YB.bs=KH bs:=by
  rw[jq,hpk]
  show _++[u.bs]=_
  rw[hub];rfl
 have e4:(x.vs++[u]).length=(KH bs).length:=by rw[←e3,jf]
 have t13:=(St.obj (o':=.deferred none) t12).tail;rw[e1,e2] at t13;rw[e1] at h2;have hg2:a4.tmps.getD 2 undef=.slice a' (KH bs).length c':=by rw[←e4];exact s4.at_ 2 _ h2
 refine wpIn_ret ?_;refine ⟨by simp,.inl ⟨_,_,rfl,run_takeDeferred hD,?_⟩⟩;refine ⟨_,results_tmp rfl _ _ _,.slice a' (KH bs).length c',slO 34 1 a' (x.vs++[u]).length c' ((x.vs++[u]).flatMap YB.cells)::qo M2::L0,?_,t13,a',c',rfl,x.vs++[u],M2,e3,?_,hx3.trans hl2,rfl⟩
 ·rw[hg2]
 ·intro v hv
  rcases jy.1 hv with hv|hv
  ·exact (hx2.mono hl2) v hv
  ·rw[ji.1 hv];exact ⟨huo,huc⟩
end Go.Proofs.YtlnfjhiphlfkjaaGreatDoor
namespace Go.Proofs.YtlnfjhiphlfkjaaGreatDoor
open Go Go.SX
attribute [local irreducible] swp qq qM qL vX qh St qi qk vu qG
abbrev tN :List UInt8:=[116]
def wE (bs:List UInt8):List UInt8:=(KH bs).flatten
theorem ga (bs:List UInt8):(QO bs).flatten=bs:=by
 induction bs using QO.induct with
 |case1=>rw[Kf];rfl
 |case2 bs h ih=>rw[JO h,List.flatten_cons,ih,kJ]
theorem jB5 (bs:List UInt8):4096*(QO bs).length≤bs.length+4095:=by
 induction bs using QO.induct with
 |case1=>rw[Kf];simp
 |case2 bs h ih=>
  have:bs.length≠0:=λe=>h (List.length_eq_zero_iff.1 e)
  rw[JO h,jC];rw[jE] at ih;omega
theorem Vt (bs:List UInt8):(wE bs).length≤7*bs.length+6:=by
 have h1:=pI bs;have h2:=jj List.length (ga bs);have h3:∀l:List (List UInt8),(l.map frB).flatten.length=6*l.length+l.flatten.length:=λl=>by
  induction l with
  |nil=>rfl
  |cons x l ih=>rw[jL,List.flatten_cons,jc,ih,yf,List.flatten_cons,jc,jC];omega
 unfold wE KH;rw[List.flatten_append,jc,h3];have h4:([frB []]:List (List UInt8)).flatten.length=6:=by simp[yf]
 omega
theorem gb (vs:List YB):qV vs=(vs.map YB.bs).flatten:=by
 induction vs with
 |nil=>rfl
 |cons x vs ih=>rw[jL,List.flatten_cons,←ih];rfl
def KO (d:DK)(bs:List UInt8):Int:=
 if Ws d (wE bs)≠0 then Ws d (wE bs) else if Xu (zQ d tN (wE bs)) tN≠0 then Xu (zQ d tN (wE bs)) tN else swE (Va (zQ d tN (wE bs)) tN)
def zC (d:DK)(bs:List UInt8)(n:Nat):DK:=
 if Ws d (wE bs)≠0 then zQ d tN (wE bs) else if Xu (zQ d tN (wE bs)) tN≠0 then Va (zQ d tN (wE bs)) tN else swS (Va (zQ d tN (wE bs)) tN) tN (nm 99 n)
theorem fD {x:UInt8}{n:Nat}(hx:97≤x.toNat∧x.toNat≤122)(hn:n<100):V4 (nm x n):=by
 have h:=JL hn;refine ⟨by show 1≤(KZ n).length+1;omega,by show (KZ n).length+1≤8;omega,λb hb=> ?_⟩
 rcases j9.1 hb with rfl|hb
 ·exact .inl hx
 ·refine .inr ?_
  by_cases h10:n<10
  ·rw[Xx h10] at hb
   rw[ji.1 hb,UInt8.toNat_ofNat'];omega
  ·rw[cW zo hn] at hb
   rcases j9.1 hb with rfl|hb
   ·rw[UInt8.toNat_ofNat'];omega
   ·rw[ji.1 hb,UInt8.toNat_ofNat'];omega
theorem Jd {d:DK}{fs:List FE}{n m:List UInt8}{v:List UInt8×Nat}(hk:qn fs):qJ (qZ fs n v) m≠none↔m=n∨qJ fs m≠none:=by
 rw[Ka hk]
 split
 ·next h=>simp[h]
 ·next h=>simp[h]
theorem jDl {d:DK}{bs:List UInt8}(hk:qn d.fs)(h1:Ws d (wE bs)=0):vV (Va (zQ d tN (wE bs)) tN) tN:=by
 have e1:zQ d tN (wE bs)=wrD (qY d) tN (wE bs):=by unfold zQ;rw[jb h1]
 have h2:vV (zQ d tN (wE bs)) tN:=by
  rw[e1];exact (Jd (d:=d) (by rw[qS];exact hk)).2 (.inl rfl)
 unfold Va
 split
 ·show qJ (qZ _ _ _) _≠none
  exact (Jd (d:=d) (by rw[qS,e1];exact vL (by rw[qS];exact hk) _ _)).2 (.inl rfl)
 ·rw[v6];exact h2
theorem jE3 {d:DK}{bs:List UInt8}{m:List UInt8}(hk:qn d.fs)(hm:m≠tN)(h:¬vV d m):¬vV (Va (zQ d tN (wE bs)) tN) m:=by
 have h1:¬vV (zQ d tN (wE bs)) m:=by
  unfold zQ
  split
  ·intro h2
   rcases (Jd (d:=d) (by rw[qS];exact hk)).1 h2 with h3|h3
   ·exact hm h3
   ·rw[qS] at h3;exact h h3
  ·rw[v6];exact h
 have hk1:qn (zQ d tN (wE bs)).fs:=by
  unfold zQ
  split
  ·exact vL (by rw[qS];exact hk) _ _
  ·rw[qS];exact hk
 unfold Va
 split
 ·intro h2
  rcases (Jd (d:=d) (by rw[qS];exact hk1)).1 h2 with h3|h3
  ·exact hm h3
  ·rw[qS] at h3;exact h1 h3
 ·rw[v6];exact h1
theorem fM (p:Nat)(d:DK)(a:OA)(c n:Nat)(bs:List UInt8)(M:OM)(L:HL)(h:qH M a bs.length 1 (bs.map B))(hT:xg M)(hc:bs.length≤c)(hl:bs.length≤1048575)
  (hk:qn d.fs) (hfew:d.fs.length≤15) (hn:n<100) (hno:¬vV d (nm 99 n)):
  qh kY 64 [qK p,.slice a bs.length c,.int .i64 n] (qr p d::qo M::L) (λr L'=>r=.int .i64 (KO d bs)∧∃M',qU M M'∧L'=qr p (zC d bs n)::qo M'::L):=by
 refine qg Tryz.func64 rfl rfl rfl ?_;refine Q.r ?_;refine qm (L':=qo M::qr p d::L) eG ?_;refine S.cr rfl (rQ a c bs M _ h hT hc hl) ?_;rintro _ _ ⟨a1,c1,rfl,vs,M1,hvs,hok,hl1,rfl⟩;have hcat:qV vs=wE bs:=by rw[gb,hvs];rfl
 have hvl:(KH bs).length=vs.length:=by rw[←hvs,jf]
 rw[hvl];refine wA a1 (λM2 hl2 hs hc1=> ?_);have hcl:(qV vs).length≤1000000000:=by rw[hcat];have:=Vt bs;omega
 have hvs2:vs.length≤1000000:=by
  rw[←hvl];unfold KH;rw[jc,jf];have h4:=jB5 bs
  show _+1≤1000000
  omega
 refine S.ckm p rfl (Vi p d tN a1 c1 vs M2 L ⟨by decide,by decide,by decide⟩ hfew hs (λv hv=>(hok v hv).1.mono hl2) hc1 hvs2 hcl) ?_;rintro _ _ ⟨rfl,M3,hl3,rfl⟩;rw[hcat]
 by_cases e1:Ws d (wE bs)=0
 ·rw[e1]
  refine Q.r ?_;(repeat (intro b1;refine Q.r ?_));refine qm (L':=pt b1 (cl [str tN] 9)::qr p (zQ d tN (wE bs))::qo M3::L) (kZ _) ?_;refine yx b1 (t:=9) (l:=[str tN]) (m:=1) (cs:=[str tN]) (jz _) rfl (λM4 hl4 hs4=> ?_);refine S.ckm p rfl (Qu p _ tN (some ⟨b1,0,none⟩) 1 M4 L hs4) ?_;rintro _ _ ⟨rfl,rfl⟩
  by_cases e2:Xu (zQ d tN (wE bs)) tN=0
  ·rw[e2]
   refine Q.r ?_;refine S.cr rfl (yz 99 n hn _) ?_;rintro _ _ ⟨rfl,rfl⟩;refine Q.r ?_;refine S.ck p rfl (tf p _ tN (nm 99 n) _ (jDl hk e1) (jE3 hk (by simp[nm]) hno) (fD zd hn)) ?_;rintro _ _ ⟨rfl,rfl⟩;refine Q.r ?_;refine N.t rfl (kZ _) ⟨?_,M4,hl1.trans (hl2.trans (hl3.trans hl4)),?_⟩
   ·unfold KO;rw[ja (λh=>h e1),ja (λh=>h e2)]
   ·unfold zC;rw[ja (λh=>h e1),ja (λh=>h e2)]
  ·refine Q.r ?_
   refine N.t rfl (kZ _) ⟨?_,M4,hl1.trans (hl2.trans (hl3.trans hl4)),?_⟩
   ·unfold KO;rw[ja (λh=>h e1),jb e2]
   ·unfold zC;rw[ja (λh=>h e1),jb e2]
 ·refine Q.r ?_
  refine N.t rfl (kZ _) ⟨?_,M3,hl1.trans (hl2.trans hl3),?_⟩
  ·unfold KO;rw[jb e1]
  ·unfold zC;rw[jb e1]
abbrev wD :Value:=.pointer none
abbrev yH (q p n k:Nat)(br:Bool):HP:=pt q (cl [qK p,.int .i64 n,.int .i64 k,.bool br] 159)
def foE (d:DK)(bs:List UInt8):Int:=if d.fs.length=0 then KO d bs else 7
def foS (d:DK)(bs:List UInt8):DK:=if d.fs.length=0 then zC d bs 0 else d
theorem gR (p:Nat)(d:DK)(a:OA)(c:Nat)(bs:List UInt8)(M:OM)(L:HL)(h:qH M a bs.length 1 (bs.map B))(hT:xg M)(hc:bs.length≤c)(hl:bs.length≤1048575):
  qh kY 25 [qK p,.slice a bs.length c] (qr p d::qo M::L) (λr L'=>r=.int .i64 (foE d bs)∧∃M',qU M M'∧L'=qr p (foS d bs)::qo M'::L):=by
 refine qg Tryz.func25 rfl rfl rfl ?_;refine Q.r ?_;refine S.ckm p rfl (zJ p d M _) ?_;rintro _ _ ⟨a1,c1,M1,rfl,hs,hc1,hl1,rfl⟩
 by_cases h0:d.fs.length=0
 ·have hnil:d.fs=[]:=jO h0
  refine Q.r ?_;refine S.ckm p rfl (fM p d a c 0 bs M1 L (h.mono hl1) (hT.mono hl1) hc hl (by rw[hnil];exact List.nodup_nil) zo zo (by unfold vV;rw[hnil];exact λh=>h rfl)) ?_;rintro _ _ ⟨rfl,M2,hl2,rfl⟩;refine Q.r ?_;exact N.t rfl (kZ _) ⟨by unfold foE;rw[jb h0],M2,hl1.trans hl2,by unfold foS;rw[jb h0]⟩
 ·have h1:(0:Int)<d.fs.length:=by omega
  refine Q.r ?_;exact N.t rfl (kZ _) ⟨by unfold foE;rw[ja h0],M1,hl1,by unfold foS;rw[ja h0]⟩
theorem K0 (q p n k:Nat)(br:Bool)(L:HL):qh kY 157 [qK q] (yH q p n k br::L) (λr L'=>r=.int .i64 (if br then 10 else 0)∧L'=yH q p n k br::L):=by
 refine qg Tryz.func157 rfl rfl rfl ?_
 cases br
 ·refine Q.r ?_
  exact N.t rfl (kZ _) ⟨rfl,rfl⟩
 ·refine Q.r ?_
  exact N.t rfl (kZ _) ⟨rfl,rfl⟩
theorem zl (q p n k:Nat)(br:Bool)(e:Int)(L:HL):qh kY 158 [qK q,.int .i64 e] (yH q p n k br::L) (λr L'=>r=.int .i64 e∧L'=yH q p n k (br||decide (e=9))::L):=by
 refine qg Tryz.func158 rfl rfl rfl ?_
 cases br
 ·by_cases h:e=9
  ·subst h
   refine Q.r ?_;exact N.t rfl (kZ _) ⟨rfl,rfl⟩
  ·have h2:decide (e=9)=false:=jv h
   refine Q.r ?_;exact N.t rfl (kZ _) ⟨rfl,by rw[h2];rfl⟩
 ·refine Q.r ?_
  exact N.t rfl (kZ _) ⟨rfl,rfl⟩
theorem YP (q p n k:Nat)(br:Bool)(L:HL):qh kY 98 [qK q] (yH q p n k br::L) (λr L'=>r=.int .i64 k∧L'=yH q p n k br::L):=by
 refine qg Tryz.func98 rfl rfl rfl ?_;refine Q.r ?_;exact N.t rfl (kZ _) ⟨rfl,rfl⟩
theorem yV (q p n k:Nat)(br:Bool)(L:HL):qh kY 82 [qK q] (yH q p n k br::L) (λr L'=>r=.bool br∧L'=yH q p n k br::L):=by
 refine qg Tryz.func82 rfl rfl rfl ?_;refine Q.r ?_;exact N.t rfl (kZ _) ⟨rfl,rfl⟩
structure JZ where
 d:DK
 n:Nat
 k:Nat
 br:Bool
abbrev yW (p q:Nat)(s:JZ)(M:OM)(L:HL):HL:=yH q p s.n s.k s.br::qr p s.d::qo M::L
def ZT (s:JZ):Int:=if s.br then 10 else if s.k=0 then 0 else Xu s.d (nm 108 s.n)
def ZS (s:JZ):JZ:=if s.br then s else if s.k=0 then s else {s with d:=Va s.d (nm 108 s.n),br:=s.br||decide (Xu s.d (nm 108 s.n)=9)}
theorem nt (p q:Nat)(s:JZ)(M:OM)(L:HL)(hn:s.n<100):
  qh kY 156 [qK q] (yW p q s M L) (λr L'=>r=.int .i64 (ZT s)∧∃M',qU M M'∧L'=yW p q (ZS s) M' L):=by
 refine qg Tryz.func156 rfl rfl rfl ?_;refine Q.r ?_;refine S.cr rfl (K0 q p s.n s.k s.br _) ?_;rintro _ _ ⟨rfl,rfl⟩;obtain ⟨d,n,k,br⟩:=s;dsimp only at hn ⊢
 cases br
 ·by_cases hk:k=0
  ·have hk':(k:Int)=0:=by omega
   refine Q.r ?_;exact N.t rfl (kZ _) ⟨by unfold ZT;dsimp only;rw[ja zd,jb hk],M,qU.refl M,by unfold ZS;dsimp only;rw[ja zd,jb hk]⟩
  ·have hk':¬(k:Int)=0:=by omega
   refine Q.r ?_;refine Q.dgo [true,false,false] [9,10,11,12] [12] [0,1,2,3,4,5,6,7,8,9,10,11,12,13] ?_;refine Q.rd2 ?_;refine D.e rfl rfl rfl ?_;refine S.cr rfl (yz 108 n hn _) ?_;rintro _ _ ⟨rfl,rfl⟩;refine Q.r ?_;refine Q.rd2 ?_;refine D.e rfl rfl rfl ?_;refine Q.r ?_;(repeat (intro b1;refine Q.r ?_));refine Q.rd2 ?_;refine D.e rfl rfl rfl ?_;refine yx b1 (t:=9) (l:=[str (nm 108 n)]) (m:=1) (cs:=[str (nm 108 n)]) (jz _) rfl (λM1 hl1 hs1=> ?_);refine S.ckm p rfl (Qu p d (nm 108 n) (some ⟨b1,0,none⟩) 1 M1 _ hs1) ?_;rintro _ _ ⟨rfl,rfl⟩;refine Q.r ?_;refine Q.rd2 ?_;refine Q.dc rfl rfl rfl rfl ?_;refine qm (L':=yH q p n k false::qr p (Va d (nm 108 n))::qo M1::L) eG ?_;refine S.cr rfl (zl q p n k false _ _) ?_;rintro _ _ ⟨rfl,rfl⟩;refine Q.r ?_;refine Q.rd2 ?_;refine Q.r ?_;exact N.t rfl (kZ _) ⟨by unfold ZT;dsimp only;rw[ja zd,ja hk],M1,hl1,by unfold ZS;dsimp only;rw[ja zd,ja hk]⟩
 ·refine Q.r ?_
  exact N.t rfl (kZ _) ⟨rfl,M,qU.refl M,rfl⟩
def sN (rs:List (List UInt8)):Int:=if ∃r∈rs,4096<r.length then 3 else 0
theorem jDL :sN []=0:=ja (by simp)
theorem jCc (rs:List (List UInt8))(r:List UInt8):sN (rs++[r])=if 4096<r.length then 3 else sN rs:=by
 unfold sN
 by_cases h:4096<r.length
 ·rw[jb h,jb ⟨r,by simp,h⟩]
 ·rw[ja h]
  by_cases h2:∃r∈rs,4096<r.length
  ·obtain ⟨x,hx,hx2⟩:=h2
   rw[jb ⟨x,by simp[hx],hx2⟩,jb ⟨x,hx,hx2⟩]
  ·rw[ja h2,ja]
   rintro ⟨x,hx,hx2⟩
   rcases jy.1 hx with hx|hx
   ·exact h2 ⟨x,hx,hx2⟩
   ·rw[ji.1 hx] at hx2;exact h hx2
def n3 (rs:List (List UInt8)):Int:=if ∃r∈rs,r.length=0 then 2 else sN rs
def wO (rs:List (List UInt8)):List UInt8:=(rs.map frB).flatten
def gZ (s:JZ)(rs:List (List UInt8)):Int:=if s.br then 10 else if n3 rs≠0 then n3 rs else if rs=[] then 0 else Ws s.d (wO rs)
def fj (s:JZ)(rs:List (List UInt8)):JZ:=
 if s.br then s else if n3 rs≠0 then s else if rs=[] then s else {s with d:=zQ s.d (nm 108 s.n) (wO rs),k:=if Ws s.d (wO rs)=0 then s.k+rs.length else s.k,br:=s.br||decide (Ws s.d (wO rs)=9)}
def frC (b:List UInt8):List UInt8:=if 4096<b.length then [] else frB b
theorem pK {K:Nat}:∀us:List YB,(∀v∈us,v.bs.length≤K)→(qV us).length≤us.length*K
 | [],_=>by simp
 |u::us,h=>by
  have h1:=pK us (λv hv=>h v (by simp[hv]));have h2:=h u (by simp)
  show (u.bs++qV us).length≤(us.length+1)*K
  rw[jc,Nat.succ_mul];omega
structure PS where
 k:Nat
 us:List YB
 a:OA
 c:Nat
 M:OM
theorem tC (p q:Nat)(s:JZ)(a:OA)(c:Nat)(vs:List YB)(M:OM)(L:HL)(hn:s.n<100)(hk:s.k≤1000000)(hfew:s.d.fs.length≤15)(h:qH M a vs.length 1 (vs.flatMap YB.cells))(hok:Jj M vs)(hT:xg M)(hvl:vs.length≤1000)(hb:∀v∈vs,v.bs.length≤100000):
  qh kY 155 [qK q,.slice a vs.length c] (yW p q s M L) (λr L'=>r=.int .i64 (gZ s (vs.map YB.bs))∧∃M',qU M M'∧L'=yW p q (fj s (vs.map YB.bs)) M' L):=by
 refine qg Tryz.func155 rfl rfl rfl ?_;refine Q.r ?_;refine S.cr rfl (K0 q p s.n s.k s.br _) ?_;rintro _ _ ⟨rfl,rfl⟩;obtain ⟨d,n,kk,br⟩:=s;dsimp only at hn hk hfew ⊢
 cases br
 ·refine Q.r ?_
  refine qx (σ:=PS) (λs=> [(0,qK q),(1,.slice a vs.length c),(6,.int .i64 (sN (vs.map YB.bs))),(7,.slice s.a s.us.length s.c)])
   (λs=>slO 34 1 s.a s.us.length s.c (s.us.flatMap YB.cells)::yH q p n kk false::qr p d::qo s.M::L) (λs=>(∀v∈vs,v.bs.length≠0)∧s.us.map YB.bs=vs.map (λv=>frC v.bs)∧Jj s.M s.us∧qU M s.M) ?_ ?_
  ·refine ql (σ:=PS) (λs=> [(0,qK q),(1,.slice a vs.length c),(18,.slice a vs.length c),(19,.int .i64 vs.length),(20,.int .i64 s.k),(6,.int .i64 (sN ((vs.take s.k).map YB.bs))),(7,.slice s.a s.us.length s.c)])
    (λs=>slO 34 1 s.a s.us.length s.c (s.us.flatMap YB.cells)::yH q p n kk false::qr p d::qo s.M::L) (λs=>s.k≤vs.length∧(∀v∈vs.take s.k,v.bs.length≠0)∧s.us.map YB.bs=(vs.take s.k).map (λv=>frC v.bs)∧Jj s.M s.us∧qU M s.M) (λs=>vs.length - s.k) ⟨0,[],none,0,M⟩ ⟨rfl,rfl,rfl,rfl,rfl,by rw[kB,kC,jDL];rfl,rfl,trivial⟩ vh ⟨by show 0≤_;omega,by simp,by simp,λv hv=>by simp at hv,qU.refl M⟩ ?_
   rintro ⟨k,us,a1,c1,M1⟩ ⟨hkl,hall,hus,huo,hl1⟩;dsimp only at hkl hall hus huo hl1 ⊢
   by_cases hlt:k<vs.length
   ·obtain ⟨v,hv⟩:=qw hlt
    obtain ⟨b,o,rfl,hr⟩:=qH.cm (g:=YB.cells) (λ_=>rfl) (h.mono hl1) hv rfl;refine Q.r ?_;(repeat (intro b1;refine Q.r ?_));have hvm:=jn hv;have hvo:=((hok v hvm).1.mono hl1);have hvb:=hb v hvm;have hcv:qV [v]=v.bs:=by simp
    refine S.cr rfl (zL (some ⟨b1,0,none⟩) 1 [v] M1 _ _ (qW.row1y rfl) (λu hu=>by rw[ji.1 hu];exact hvo.rd) (hT.mono hl1) (jz _) (by simp) (by rw[hcv];omega)) ?_;rintro _ _ ⟨u,M2,rfl,hub,huo2,huc,hl2,rfl⟩;rw[hcv] at hub ⊢
    by_cases hv0:v.bs.length=0
    ·refine Q.r ?_
     have hptC:n3 (vs.map YB.bs)=2:=by unfold n3;rw[jb ⟨v.bs,jA hvm,hv0⟩]
     refine N.t rfl (L':=yW p q ⟨d,n,kk,false⟩ M2 L) eG ⟨?_,M2,hl1.trans hl2,?_⟩
     ·unfold gZ;dsimp only;rw[ja zd,hptC];rfl
     ·unfold fj;dsimp only;rw[ja zd,hptC];rfl
    ·have hcs:sN ((vs.take (k+1)).map YB.bs)=if 4096<v.bs.length then 3 else sN ((vs.take k).map YB.bs):=by
      rw[qz hv,jq];exact jCc _ _
     have hall2:∀w∈vs.take (k+1),w.bs.length≠0:=λw hw=>by
      rw[qz hv] at hw
      rcases jy.1 hw with hw|hw
      ·exact hall w hw
      ·rw[ji.1 hw];exact hv0
     have hus2:(us++[u]).map YB.bs=(vs.take (k+1)).map (λv=>frC v.bs):=by
      rw[qz hv,jq,jq,hus]
      show _++[u.bs]=_
      rw[hub];rfl
     have huo3:Jj M2 (us++[u]):=λw hw=>by
      rcases jy.1 hw with hw|hw
      ·exact (huo.mono hl2) w hw
      ·rw[ji.1 hw];exact ⟨huo2,huc⟩
     have husl:us.length=k:=by
      have:=jj List.length hus;rw[jf,jf,jP] at this;omega
     by_cases hvl4:4096<v.bs.length
     ·rw[jb hvl4] at hcs ⊢
      refine Q.r ?_;(repeat (intro b1;refine Q.r ?_));refine S.app rfl rfl (vA.sl vg.row zr zr) zr zo zo (λa7 c7=> ?_);refine Q.r ?_;refine ⟨⟨k+1,us++[u],a7,c7,M2⟩,⟨rfl,rfl,rfl,rfl,rfl,jj some (jj (Value.int .i64) hcs.symm),jj some (by simp),trivial⟩,?_,⟨by show k+1≤vs.length;omega,?_,?_,?_,hl1.trans hl2⟩,by show vs.length - (k+1)<vs.length - k;omega⟩
      ·dsimp only
       rw[qF,vE];exact eG
      ·exact hall2
      ·exact hus2
      ·exact huo3
     ·rw[ja hvl4] at hcs ⊢
      refine Q.r ?_;(repeat (intro b1;refine Q.r ?_));refine S.app rfl rfl (vA.sl vg.row zr zr) zr zo zo (λa7 c7=> ?_);refine Q.r ?_;refine ⟨⟨k+1,us++[u],a7,c7,M2⟩,⟨rfl,rfl,rfl,rfl,rfl,jj some (jj (Value.int .i64) hcs.symm),jj some (by simp),trivial⟩,?_,⟨by show k+1≤vs.length;omega,?_,?_,?_,hl1.trans hl2⟩,by show vs.length - (k+1)<vs.length - k;omega⟩
      ·dsimp only
       rw[qF,vE];exact eG
      ·exact hall2
      ·exact hus2
      ·exact huo3
   ·have hke:k=vs.length:=by omega
    subst hke;rw[jI] at*;refine Q.r ?_;exact ⟨⟨vs.length,us,a1,c1,M1⟩,zt,kZ _,hall,hus,huo,hl1⟩
  ·rintro ⟨k,us,a1,c1,M1⟩ ⟨hall,hus,huo,hl1⟩
   dsimp only at hall hus huo hl1 ⊢;have hptC:n3 (vs.map YB.bs)=sN (vs.map YB.bs):=by
    unfold n3;rw[ja];rintro ⟨r,hr,h0⟩;obtain ⟨v,hv,rfl⟩:=jM.1 hr;exact hall v hv h0
   by_cases hcd:sN (vs.map YB.bs)=0
   ·rw[hcd]
    by_cases hv0:vs.length=0
    ·have hnil:vs=[]:=jO hv0
     have hv0':(vs.length:Int)=0:=by omega
     refine Q.r ?_;refine N.t rfl (L':=yW p q ⟨d,n,kk,false⟩ M1 L) eG ⟨?_,M1,hl1,?_⟩
     ·unfold gZ;dsimp only;rw[ja zd,hptC,hcd,ja zd,jb (by rw[hnil];rfl)]
     ·unfold fj;dsimp only;rw[ja zd,hptC,hcd,ja zd,jb (by rw[hnil];rfl)]
    ·have hv0':¬(vs.length:Int)=0:=by omega
     have hnn:¬vs.map YB.bs=[]:=λh=>hv0 (by rw[←jf (f:=YB.bs),h];rfl)
     refine Q.r ?_;refine bM a1 (λ_ _ hcap=> ?_);refine wm a1 (λM2 hl2 hs2=> ?_);refine vf (L':=yH q p n kk false::qr p d::qo M2::L) eG ?_;refine Q.dgo [true,false,false] [8,10] [] [0,1,2,3,4,5,6,7,9,8,10,11] ?_;refine Q.rd2 ?_;refine D.e rfl rfl rfl ?_;refine S.cr rfl (yz 108 n hn _) ?_;rintro _ _ ⟨rfl,rfl⟩;refine Q.r ?_;refine Q.rd2 ?_;refine D.e rfl rfl rfl ?_;have hcat:qV us=wO (vs.map YB.bs):=by
      rw[gb,hus];unfold wO;rw[kE];refine jj List.flatten (List.map_congr_left λv hv=> ?_)
      show frC v.bs=frB v.bs
      unfold frC;refine ja λh=> ?_
      unfold sN at hcd;rw[jb ⟨v.bs,jA hv,h⟩] at hcd
      cases hcd
     have husl:us.length=vs.length:=by
      have:=jj List.length hus
      rwa [jf,jf] at this
     have hub:(qV us).length≤us.length*100006:=pK us λu hu=>by
      have h1:u.bs∈us.map YB.bs:=jA hu;rw[hus] at h1;obtain ⟨v,hv,he⟩:=jM.1 h1;have h2:=hb v hv;rw[←he];unfold frC
      split
      ·simp
      ·rw[yf];omega
     refine S.ckm p rfl (Vi p d (nm 108 n) a1 c1 us M2 L (fD zd hn) hfew hs2 (λu hu=>(huo u hu).1.mono hl2) hcap zo zo) ?_;rintro _ _ ⟨rfl,M3,hl3,rfl⟩;rw[hcat];refine Q.r ?_;refine Q.rd2 ?_
     by_cases he:Ws d (wO (vs.map YB.bs))=0
     ·rw[he]
      refine Q.r ?_;rw[show ((kk:Int)+(vs.length:Int))=((kk+vs.length:Nat):Int) from rfl];refine qm (L':=yH q p n (kk+vs.length) false::qr p (zQ d (nm 108 n) (wO (vs.map YB.bs)))::qo M3::L) eG ?_;refine S.cr rfl (zl q p n _ false _ _) ?_;rintro _ _ ⟨rfl,rfl⟩;refine Q.r ?_;refine N.t rfl (kZ _) ⟨?_,M3,hl1.trans (hl2.trans hl3),?_⟩
      ·unfold gZ;dsimp only;rw[ja zd,hptC,hcd,ja zd,ja hnn,he]
      ·unfold fj;dsimp only;rw[ja zd,hptC,hcd,ja zd,ja hnn,he,jb rfl,jf]
     ·refine Q.r ?_
      refine qm (L':=yH q p n kk false::qr p (zQ d (nm 108 n) (wO (vs.map YB.bs)))::qo M3::L) eG ?_;refine S.cr rfl (zl q p n _ false _ _) ?_;rintro _ _ ⟨rfl,rfl⟩;refine Q.r ?_;refine N.t rfl (kZ _) ⟨?_,M3,hl1.trans (hl2.trans hl3),?_⟩
      ·unfold gZ;dsimp only;rw[ja zd,hptC,hcd,ja zd,ja hnn]
      ·unfold fj;dsimp only;rw[ja zd,hptC,hcd,ja zd,ja hnn,ja he]
   ·have hne:¬n3 (vs.map YB.bs)=0:=by rw[hptC];exact hcd
    refine Q.r ?_;refine N.t rfl (L':=yW p q ⟨d,n,kk,false⟩ M1 L) eG ⟨?_,M1,hl1,?_⟩
    ·unfold gZ;dsimp only;rw[ja zd,jb hne,hptC]
    ·unfold fj;dsimp only;rw[ja zd,jb hne]
 ·refine Q.r ?_
  exact N.t rfl (kZ _) ⟨rfl,M,qU.refl M,rfl⟩
def Q4 (s:JZ):List (List UInt8):=nm 99 s.n::if 0<s.k then [nm 108 s.n] else []
def Jr (s:JZ)(bs:List UInt8):Int:=if s.br then 10 else if KO s.d bs≠0 then KO s.d bs else drE (zC s.d bs (s.n+1)) (Q4 s)
def yv (s:JZ)(bs:List UInt8):JZ:=
 if s.br then s else if KO s.d bs≠0 then {s with d:=zC s.d bs (s.n+1),br:=s.br||decide (KO s.d bs=9)}
 else {d:=sB (zC s.d bs (s.n+1)) (Q4 s),n:=s.n+1,k:=0,br:=s.br||decide (drE (zC s.d bs (s.n+1)) (Q4 s)=9)}
theorem jBt {d:DK}{bs:List UInt8}{n:Nat}{m:List UInt8}(hk:qn d.fs)(hm:m≠tN)(hn:m≠nm 99 n)(h:vV d m):vV (zC d bs n) m:=by
 have h1:vV (zQ d tN (wE bs)) m:=by
  unfold zQ
  split
  ·exact (Jd (d:=d) (by rw[qS];exact hk)).2 (.inr (by rw[qS];exact h))
  ·rw[v6];exact h
 have hk1:qn (zQ d tN (wE bs)).fs:=by
  unfold zQ
  split
  ·exact vL (by rw[qS];exact hk) _ _
  ·rw[qS];exact hk
 have h2:vV (Va (zQ d tN (wE bs)) tN) m:=by
  unfold Va
  split
  ·exact (Jd (d:=d) (by rw[qS];exact hk1)).2 (.inr (by rw[qS];exact h1))
  ·rw[v6];exact h1
 unfold zC
 split
 ·exact h1
 ·split
  ·exact h2
  ·unfold swS
   split
   ·rw[v6];exact h2
   ·show qJ (qT (qY _).fs tN++_) m≠none
    rw[qS];have h3:qJ (qT (Va (zQ d tN (wE bs)) tN).fs tN) m≠none:=by
     rw[KN,ja hm];exact h2
    intro h4;apply h3;unfold qJ at h4 ⊢;rw[List.find?_append] at h4
    cases hf:List.find? (λu=>decide (u.1=m)) (qT (Va (zQ d tN (wE bs)) tN).fs tN) with
    |none=>rfl
    |some u=>rw[hf] at h4;cases h4
theorem Wn (p q:Nat)(s:JZ)(a:OA)(c:Nat)(bs:List UInt8)(M:OM)(L:HL)(hn:s.n+1<100)(hk:qn s.d.fs)(hfew:s.d.fs.length≤15)(h:qH M a bs.length 1 (bs.map B))(hT:xg M)(hc:bs.length≤c)(hl:bs.length≤1048575)
  (hno:¬vV s.d (nm 99 (s.n+1))) (hold:∀m∈Q4 s,vV s.d m):
  qh kY 81 [qK q,.slice a bs.length c] (yW p q s M L) (λr L'=>r=.int .i64 (Jr s bs)∧∃M',qU M M'∧L'=yW p q (yv s bs) M' L):=by
 refine qg Tryz.func81 rfl rfl rfl ?_;refine Q.r ?_;refine S.cr rfl (K0 q p s.n s.k s.br _) ?_;rintro _ _ ⟨rfl,rfl⟩;obtain ⟨d,n,k,br⟩:=s;have hold2:∀m∈Q4 ⟨d,n,k,br⟩,vV (zC d bs (n+1)) m:=λm hm=>by
  refine jBt hk ?_ ?_ (hold m hm)
  ·intro h
   unfold Q4 at hm;dsimp only at hm
   rcases j9.1 hm with rfl|hm
   ·simp[nm] at h
   ·split at hm
    ·rw[ji.1 hm] at h;simp[nm] at h
    ·cases hm
  ·intro h
   exact hno (by rw[←h];exact hold m hm)
 dsimp only at hn hk hfew hno hold ⊢
 cases br
 ·refine Q.r ?_
  refine Q.dgo [true,false,false] [10] [] [0,1,2,3,4,5,6,7,8,9,10,11] ?_;refine Q.rd2 ?_;refine D.e rfl rfl rfl ?_;refine S.ckm p rfl (fM p d a c (n+1) bs M _ h hT hc hl hk hfew hn hno) ?_;rintro _ _ ⟨rfl,M1,hl1,rfl⟩;refine Q.r ?_;refine Q.rd2 ?_
  by_cases he:KO d bs=0
  ·rw[he]
   refine Q.r ?_;refine S.cr rfl (yz 99 n zo _) ?_;rintro _ _ ⟨rfl,rfl⟩
   by_cases hk0:0<k
   ·have hk1:(0:Int)<k:=by omega
    have ho:Q4 ⟨d,n,k,false⟩=[nm 99 n,nm 108 n]:=by unfold Q4;dsimp only;rw[jb hk0]
    refine Q.r ?_;(repeat (intro b1;refine Q.r ?_));refine S.cr rfl (yz 108 n zo _) ?_;rintro _ _ ⟨rfl,rfl⟩;refine Q.r ?_;(repeat (intro b1;refine Q.r ?_));rename_i bo;refine qm (qi.trans (qi.perm (.swap _ _ _)) (ve (t:=9) (sz:=1) (m:=1) rfl)) ?_;refine S.app rfl rfl (vA.sl vg.row zr zr) zr zo zo (λa7 c7=> ?_);refine Q.r ?_;refine qQ a7 (λM2 hl2 hs2=> ?_);refine S.ck p rfl (Wp p (zC d bs (n+1)) a7 c7 [nm 99 n,nm 108 n] _ (λX=>qH.rd hs2 (hm:=KS X inferInstance)) (by simp) (by rw[←ho];exact hold2)) ?_;rintro _ _ ⟨rfl,rfl⟩;refine Q.r ?_;refine qm (L':=pt q (cl [qK p,.int .i64 ((n:Int)+1),.int .i64 0,.bool false] 159)::qr p (sB (zC d bs (n+1)) [nm 99 n,nm 108 n])::qo M2::L) eG ?_;refine S.cr rfl (zl q p (n+1) 0 false _ _) ?_;rintro _ _ ⟨rfl,rfl⟩;refine Q.r ?_;refine N.t rfl (kZ _) ⟨?_,M2,hl1.trans hl2,?_⟩
    ·unfold Jr;dsimp only;rw[ja zd,ja (λh=>h he),ho]
    ·unfold yv;dsimp only;rw[ja zd,ja (λh=>h he),ho]
   ·have hk1:¬(0:Int)<k:=by omega
    have ho:Q4 ⟨d,n,k,false⟩=[nm 99 n]:=by unfold Q4;dsimp only;rw[ja hk0]
    refine Q.r ?_;(repeat (intro b1;refine Q.r ?_));refine yx b1 (t:=9) (l:=[str (nm 99 n)]) (m:=1) (cs:=[str (nm 99 n)]) (jz _) rfl (λM2 hl2 hs2=> ?_);refine S.ck p rfl (Wp p (zC d bs (n+1)) (some ⟨b1,0,none⟩) 1 [nm 99 n] _ (λX=>qH.rd hs2 (hm:=KS X inferInstance)) (by simp) (by rw[←ho];exact hold2)) ?_;rintro _ _ ⟨rfl,rfl⟩;refine Q.r ?_;refine qm (L':=pt q (cl [qK p,.int .i64 ((n:Int)+1),.int .i64 0,.bool false] 159)::qr p (sB (zC d bs (n+1)) [nm 99 n])::qo M2::L) eG ?_;refine S.cr rfl (zl q p (n+1) 0 false _ _) ?_;rintro _ _ ⟨rfl,rfl⟩;refine Q.r ?_;refine N.t rfl (kZ _) ⟨?_,M2,hl1.trans hl2,?_⟩
    ·unfold Jr;dsimp only;rw[ja zd,ja (λh=>h he),ho]
    ·unfold yv;dsimp only;rw[ja zd,ja (λh=>h he),ho]
  ·refine Q.r ?_
   refine qm (L':=yH q p n k false::qr p (zC d bs (n+1))::qo M1::L) eG ?_;refine S.cr rfl (zl q p n _ false _ _) ?_;rintro _ _ ⟨rfl,rfl⟩;refine Q.r ?_;refine N.t rfl (kZ _) ⟨?_,M1,hl1,?_⟩
   ·unfold Jr;dsimp only;rw[ja zd,jb he]
   ·unfold yv;dsimp only;rw[ja zd,jb he]
 ·refine Q.r ?_
  exact N.t rfl (kZ _) ⟨rfl,M,qU.refl M,rfl⟩
def fR (n:List UInt8):Prop:=(∃k,k<100∧n=nm 99 k)∨(∃k,k<100∧n=nm 108 k)∨n=[116]∨n=[97]
def wq (x:UInt8)(n:List UInt8):Option Nat:=(List.range 100).find? (λk=>decide (nm x k=n))
theorem l7 {x y:UInt8}{a b:Nat}(ha:a<100)(hb:b<100)(h:nm x a=nm y b):x=y∧a=b:=by
 unfold nm at h;exact ⟨(List.cons.inj h).1,jDC ha hb (List.cons.inj h).2⟩
theorem Jz {x:UInt8}{k:Nat}(h:k<100):wq x (nm x k)=some k:=by
 unfold wq;rw[List.find?_range_eq_some];refine ⟨by simp,by simpa using h,λj hj=> ?_⟩;simp only[kL,j5];intro he;have:=(l7 zo h he).2;omega
theorem xk {x b:UInt8}{bs:List UInt8}(h:b≠x):wq x (b::bs)=none:=by
 unfold wq;rw[List.find?_eq_none];intro k hk he;have:=kV he;unfold nm at this;exact h (List.cons.inj this).1.symm
theorem KK (x:UInt8)(n:List UInt8)(hx:x=99∨x=108)(hn:fR n)(M:OM)(L:HL)[hP:wY M L](hE:Vm M):
  qh kY 137 [str [x],str n] L (λr L'=>r=.tuple #[.int .i64 ((wq x n).getD 0:Nat),.bool (wq x n).isSome]∧L'=L):=by
 have hmiss:∀(b:UInt8) (bs:List UInt8),n=b::bs→97≤b.toNat→b≠x→bs.length≤20→qh kY 137 [str [x],str n] L (λr L'=>r=.tuple #[.int .i64 ((wq x n).getD 0:Nat),.bool (wq x n).isSome]∧L'=L):=by
  intro b bs hb h97 hne hl;subst hb;rw[xk hne];exact fA x b bs h97 hne hl M L hE
 have hhit:∀k,k<100→n=nm x k→qh kY 137 [str [x],str n] L (λr L'=>r=.tuple #[.int .i64 ((wq x n).getD 0:Nat),.bool (wq x n).isSome]∧L'=L):=by
  intro k hk hnk;subst hnk;rw[Jz hk];exact lZ x k hk L
 rcases hn with ⟨k,hk,rfl⟩|⟨k,hk,rfl⟩|rfl|rfl
 ·rcases hx with rfl|rfl
  ·exact hhit k hk rfl
  ·exact hmiss 99 (KZ k) rfl zd zd (by have:=JL hk;omega)
 ·rcases hx with rfl|rfl
  ·exact hmiss 108 (KZ k) rfl zd zd (by have:=JL hk;omega)
  ·exact hhit k hk rfl
 ·exact hmiss 116 [] rfl zd (by rcases hx with rfl|rfl<;>decide) zd
 ·exact hmiss 97 [] rfl zd (by rcases hx with rfl|rfl<;>decide) zd
def VH (m:Int)(n:List UInt8):Int:=match wq 99 n with|some k=>max m k|none=>m
def vO (ns:List (List UInt8)):Int:=ns.foldl VH (-1)
def yo (m:Int)(n:List UInt8):Bool:=decide (n=[116])||((wq 99 n).isSome&& !decide (((wq 99 n).getD 0:Nat)=m))||((wq 108 n).isSome&& !decide (((wq 108 n).getD 0:Nat)=m))
def xp (m:Int)(ns:List (List UInt8)):List (List UInt8):=ns.filter (yo m)
theorem fN (p:Nat)(d:DK)(M:OM)(L:HL)(hE:Vm M)(hg:∀n∈qI d,fR n)(hfew:d.fs.length≤16):
  qh kY 71 [qK p] (qr p d :: qo M :: L) (fun r L' => ∃ a c M',r = .tuple #[.int .i64 (vO (qI d)),.slice a (xp (vO (qI d)) (qI d)).length c] ∧ qU M M' ∧
   L'=slO 9 1 a (xp (vO (qI d)) (qI d)).length c ((xp (vO (qI d)) (qI d)).map str)::qr p d::qo M'::L):=by
 refine qg Tryz.func71 rfl rfl rfl ?_;refine Q.r ?_;refine S.ckm p rfl (zJ p d M _) ?_;rintro _ _ ⟨a,c,M1,rfl,hs,hc,hl1,rfl⟩;refine Q.r ?_;have hnl:(qI d).length=d.fs.length:=by unfold qI;rw[Jo,jf]
 obtain ⟨ns,hnse⟩:∃ns,ns=qI d:=⟨_,rfl⟩;rw[←hnse] at hs hg hnl ⊢;rw[←hnl] at hs hc ⊢;have hs1:qH M1 a ns.length 1 (ns.flatMap sC):=by rw[VM];exact hs
 refine qx (σ:=Unit) (λ_=> [(0,qK p),(4,.int .i64 (vO ns))]) (λ_=>qr p d::qo M1::L) (λ_=>True) ?_ ?_
 ·refine ql (σ:=Nat) (λk=> [(0,qK p),(17,.slice a ns.length c),(18,.int .i64 ns.length),(19,.int .i64 k),(4,.int .i64 (vO (ns.take k)))]) (λ_=>qr p d::qo M1::L) (λk=>k≤ns.length) (λk=>ns.length - k) 0 zt (kZ _) zo ?_
  intro k hk
  by_cases hlt:k<ns.length
  ·obtain ⟨n,hnk⟩:=qw hlt
   obtain ⟨b,o,rfl,hr⟩:=qH.cm (g:=sC) (λ_=>rfl) hs1 hnk rfl;have hlat:vO (ns.take (k+1))=VH (vO (ns.take k)) n:=by
    unfold vO;rw[qz hnk,List.foldl_append];rfl
   refine Q.r ?_;refine S.cr rfl (KK 99 n (.inl rfl) (hg n (jn hnk)) M1 _ (hE.mono hl1)) ?_;rintro _ _ ⟨rfl,rfl⟩
   cases hz:wq 99 n with
   |none=>
    refine Q.r ?_;refine ⟨k+1,⟨rfl,rfl,rfl,rfl,?_,trivial⟩,kZ _,by omega,by omega⟩;rw[hlat];unfold VH;rw[hz];rfl
   |some m=>
    refine Q.r ?_;refine ⟨k+1,⟨rfl,rfl,rfl,rfl,?_,trivial⟩,kZ _,by omega,by omega⟩;rw[hlat];unfold VH;rw[hz];rfl
  ·have hke:k=ns.length:=by omega
   subst hke;rw[jI];refine Q.r ?_;exact ⟨(),zt,kZ _,trivial⟩
 ·intro _ _
  refine Q.r ?_;refine S.ckm p rfl (zJ p d M1 _) ?_;rintro _ _ ⟨a2,c2,M2,rfl,hs2,hc2,hl2,rfl⟩;rw[←hnse,←hnl] at hs2;rw[←hnl] at hc2 ⊢;have hs3:qH M2 a2 ns.length 1 (ns.flatMap sC):=by rw[VM];exact hs2
  refine Q.r ?_;refine qx (σ:=OA×Nat) (λs=> [(4,.int .i64 (vO ns)),(9,.slice s.1 (xp (vO ns) ns).length s.2)]) (λs=>slO 9 1 s.1 (xp (vO ns) ns).length s.2 ((xp (vO ns) ns).map str)::qr p d::qo M2::L) (λ_=>True) ?_ ?_
  ·refine ql (σ:=Nat×OA×Nat) (λs=> [(4,.int .i64 (vO ns)),(34,.slice a2 ns.length c2),(35,.int .i64 ns.length),(36,.int .i64 s.1),(9,.slice s.2.1 (xp (vO ns) (ns.take s.1)).length s.2.2)])
    (λs=>slO 9 1 s.2.1 (xp (vO ns) (ns.take s.1)).length s.2.2 ((xp (vO ns) (ns.take s.1)).map str)::qr p d::qo M2::L) (λs=>s.1≤ns.length) (λs=>ns.length - s.1) (0,none,0) zt vh (by show 0≤_;omega) ?_
   rintro ⟨k,a3,c3⟩ hk;dsimp only at hk ⊢
   by_cases hlt:k<ns.length
   ·obtain ⟨n,hnk⟩:=qw hlt
    obtain ⟨b,o,rfl,hr⟩:=qH.cm (g:=sC) (λ_=>rfl) hs3 hnk rfl;have hgn:=hg n (jn hnk);have hol:xp (vO ns) (ns.take (k+1))=xp (vO ns) (ns.take k)++if yo (vO ns) n then [n] else []:=by
     unfold xp;rw[qz hnk,jU];rw[kI,List.filter_nil]
    have hll:(xp (vO ns) (ns.take k)).length≤16:=ke (kw _ _) (by rw[jP];omega);have hE2:=(hE.mono hl1).mono hl2;refine Q.r ?_;refine S.cr rfl (KK 99 n (.inl rfl) hgn M2 _ hE2) ?_;rintro _ _ ⟨rfl,rfl⟩;refine Q.r ?_;refine S.cr rfl (KK 108 n (.inr rfl) hgn M2 _ hE2) ?_;rintro _ _ ⟨rfl,rfl⟩;have hkind:(∃m,wq 99 n=some m∧wq 108 n=none∧n≠[116])∨(∃m,wq 99 n=none∧wq 108 n=some m∧n≠[116])∨(wq 99 n=none∧wq 108 n=none∧n=[116])∨(wq 99 n=none∧wq 108 n=none∧n≠[116]):=by
     rcases hgn with ⟨m,hm,rfl⟩|⟨m,hm,rfl⟩|rfl|rfl
     ·exact .inl ⟨m,Jz hm,xk zd,λh=>absurd (List.cons.inj h).1 zd⟩
     ·exact .inr (.inl ⟨m,xk zd,Jz hm,λh=>absurd (List.cons.inj h).1 zd⟩)
     ·exact .inr (.inr (.inl ⟨xk zd,xk zd,rfl⟩))
     ·exact .inr (.inr (.inr ⟨xk zd,xk zd,by decide⟩))
    rcases hkind with ⟨m,e1,e2,e3⟩|⟨m,e1,e2,e3⟩|⟨e1,e2,e3⟩|⟨e1,e2,e3⟩
    ·rw[e1,e2]
     dsimp only[Option.getD_some,Option.getD_none,Option.isSome_some,Option.isSome_none]
     by_cases hm:(m:Int)=vO ns
     ·refine Q.r ?_
      have ho:yo (vO ns) n=false:=by unfold yo;rw[e1,e2];simp[e3,hm]
      rw[ho,ja zd,jG] at hol;refine ⟨(k+1,a3,c3),⟨rfl,rfl,rfl,rfl,?_,trivial⟩,?_,by show k+1≤ns.length;omega,by show ns.length - (k+1)<ns.length - k;omega⟩
      ·show some (Value.slice a3 _ c3)=some (Value.slice a3 (xp (vO ns) (ns.take (k+1))).length c3)
       rw[hol]
      ·show qi _ (slO 9 1 a3 (xp (vO ns) (ns.take (k+1))).length c3 ((xp (vO ns) (ns.take (k+1))).map str)::qr p d::qo M2::L)
       rw[hol];exact kZ _
     ·refine Q.r ?_;(repeat (intro b1;refine Q.r ?_))
      refine S.app rfl rfl (vA.sl vg.row zr zr) zr zo zo (λa7 c7=> ?_);refine Q.r ?_;have ho:yo (vO ns) n=true:=by unfold yo;rw[e1,e2];simp[e3,hm]
      rw[ho,jb rfl] at hol;refine ⟨(k+1,a7,c7),⟨rfl,rfl,rfl,rfl,?_,trivial⟩,?_,by show k+1≤ns.length;omega,by show ns.length - (k+1)<ns.length - k;omega⟩
      ·show some (Value.slice a7 _ c7)=some (Value.slice a7 (xp (vO ns) (ns.take (k+1))).length c7)
       rw[hol,jc];rfl
      ·show qi _ (slO 9 1 a7 (xp (vO ns) (ns.take (k+1))).length c7 ((xp (vO ns) (ns.take (k+1))).map str)::qr p d::qo M2::L)
       rw[hol,jc,jq];exact qi.drop (kZ _)
    ·rw[e1,e2]
     dsimp only[Option.getD_some,Option.getD_none,Option.isSome_some,Option.isSome_none]
     by_cases hm:(m:Int)=vO ns
     ·refine Q.r ?_
      have ho:yo (vO ns) n=false:=by unfold yo;rw[e1,e2];simp[e3,hm]
      rw[ho,ja zd,jG] at hol;refine ⟨(k+1,a3,c3),⟨rfl,rfl,rfl,rfl,?_,trivial⟩,?_,by show k+1≤ns.length;omega,by show ns.length - (k+1)<ns.length - k;omega⟩
      ·show some (Value.slice a3 _ c3)=some (Value.slice a3 (xp (vO ns) (ns.take (k+1))).length c3)
       rw[hol]
      ·show qi _ (slO 9 1 a3 (xp (vO ns) (ns.take (k+1))).length c3 ((xp (vO ns) (ns.take (k+1))).map str)::qr p d::qo M2::L)
       rw[hol];exact kZ _
     ·refine Q.r ?_;(repeat (intro b1;refine Q.r ?_))
      refine S.app rfl rfl (vA.sl vg.row zr zr) zr zo zo (λa7 c7=> ?_);refine Q.r ?_;have ho:yo (vO ns) n=true:=by unfold yo;rw[e1,e2];simp[e3,hm]
      rw[ho,jb rfl] at hol;refine ⟨(k+1,a7,c7),⟨rfl,rfl,rfl,rfl,?_,trivial⟩,?_,by show k+1≤ns.length;omega,by show ns.length - (k+1)<ns.length - k;omega⟩
      ·show some (Value.slice a7 _ c7)=some (Value.slice a7 (xp (vO ns) (ns.take (k+1))).length c7)
       rw[hol,jc];rfl
      ·show qi _ (slO 9 1 a7 (xp (vO ns) (ns.take (k+1))).length c7 ((xp (vO ns) (ns.take (k+1))).map str)::qr p d::qo M2::L)
       rw[hol,jc,jq];exact qi.drop (kZ _)
    ·rw[e1,e2]
     dsimp only[Option.getD_some,Option.getD_none,Option.isSome_some,Option.isSome_none];refine Q.r ?_;(repeat (intro b1;refine Q.r ?_));refine S.app rfl rfl (vA.sl vg.row zr zr) zr zo zo (λa7 c7=> ?_);refine Q.r ?_;have ho:yo (vO ns) n=true:=by unfold yo;rw[e1,e2];simp[e3]
     rw[ho,jb rfl] at hol;refine ⟨(k+1,a7,c7),⟨rfl,rfl,rfl,rfl,?_,trivial⟩,?_,by show k+1≤ns.length;omega,by show ns.length - (k+1)<ns.length - k;omega⟩
     ·show some (Value.slice a7 _ c7)=some (Value.slice a7 (xp (vO ns) (ns.take (k+1))).length c7)
      rw[hol,jc];rfl
     ·show qi _ (slO 9 1 a7 (xp (vO ns) (ns.take (k+1))).length c7 ((xp (vO ns) (ns.take (k+1))).map str)::qr p d::qo M2::L)
      rw[hol,jc,jq];exact qi.drop (kZ _)
    ·rw[e1,e2]
     dsimp only[Option.getD_some,Option.getD_none,Option.isSome_some,Option.isSome_none];refine Q.r ?_;have ho:yo (vO ns) n=false:=by unfold yo;rw[e1,e2];simp[e3]
     rw[ho,ja zd,jG] at hol;refine ⟨(k+1,a3,c3),⟨rfl,rfl,rfl,rfl,?_,trivial⟩,?_,by show k+1≤ns.length;omega,by show ns.length - (k+1)<ns.length - k;omega⟩
     ·show some (Value.slice a3 _ c3)=some (Value.slice a3 (xp (vO ns) (ns.take (k+1))).length c3)
      rw[hol]
     ·show qi _ (slO 9 1 a3 (xp (vO ns) (ns.take (k+1))).length c3 ((xp (vO ns) (ns.take (k+1))).map str)::qr p d::qo M2::L)
      rw[hol];exact kZ _
   ·have hke:k=ns.length:=by omega
    subst hke;rw[jI];refine Q.r ?_;exact ⟨(a3,c3),zt,kZ _,trivial⟩
  ·rintro ⟨a3,c3⟩ _
   refine Q.r ?_;refine N.u rfl rfl (kZ _) ⟨a3,c3,M2,rfl,hl1.trans hl2,rfl⟩
def wa (p:List UInt8):List (List UInt8):=if h:zZ p=0∧VC p≠[] then VC p::wa (Y4 p) else []
termination_by p.length
decreasing_by exact jBc h.1
theorem cG {p:List UInt8}(h:zZ p=0)(h2:VC p≠[]):wa p=VC p::wa (Y4 p):=by rw[wa,dif_pos ⟨h,h2⟩]
theorem Xo {p:List UInt8}(h:¬(zZ p=0∧VC p≠[])):wa p=[]:=by rw[wa,dif_neg h]
theorem jDi (p:List UInt8):vD (wa p)≤p.length:=by
 induction p using wa.induct with
 |case1 p h ih=>
  rw[cG h.1 h.2];have hn:=X2 h.1;have hb:=cu h.1;have:vD (VC p::wa (Y4 p))=6+(VC p).length+vD (wa (Y4 p)):=by simp[vD]
  rw[this];unfold Y4 at ih ⊢;rw[jE] at ih;omega
 |case2 p h=>rw[Xo h];exact jw _
def fI (d:DK)(l:List UInt8):Int×DK:=if 0<yX d l then (Xu d l,Va d l) else (0,d)
def Kt (d:DK)(l:List UInt8):Int×DK:=
 if rdE d l≠0 then (0,d)
 else if vD (wa (JU d l))<(JU d l).length then (if tmE d l≠0 then (tmE d l,Wv d l (vD (wa (JU d l)))) else fI (Wv d l (vD (wa (JU d l)))) l)
 else fI d l
def yO (d:DK)(l:List UInt8):List (List UInt8):=if rdE d l≠0∨(Kt d l).1≠0 then [] else wa (JU d l)
theorem jCX {d:DK}{l:List UInt8}(h:rdE d l=0):JU d l=(vM d l).1:=by
 unfold rdE at h;unfold JU vM
 split at h
 ·cases h
 ·next hd=>
  rw[ja hd]
  split at h
  ·cases h
  ·next hl=>
   cases hz:qJ d.fs l with
   |none=>exact absurd hz hl
   |some u=>rfl
theorem jAR {d:DK}{ts:List DE}(hd:Wq d ts)(l:List UInt8):(JU d l).length≤1048576:=by
 unfold JU
 split
 ·simp
 ·cases hz:qJ d.fs l with
  |none=>simp
  |some u=>
   have hk:=KQ hd.fs hd.key;have hm:=(vQ hk).1 hz;have h1:u.1.length≤qP d.fs:=Qf (jA (f:=λu:FE=>u.2.1.length) hm);have h2:=hd.used;have h3:=hd.rm
   show u.1.length≤_
   omega
theorem jBm (p q n k:Nat)(br:Bool)(d:DK)(M:OM)(L:HL)(hn:n<100)(hT:xg M):
  qh kY 75 [qK q] (yH q p n k br::qr p d::qo M::L) (λr L'=>∃a c,r=.tuple #[.slice a (yO d (nm 108 n)).length c,.int .i64 (Kt d (nm 108 n)).1]∧jAP M (yH q p n k br::qr p (Kt d (nm 108 n)).2::L) (yO d (nm 108 n)) a c L'):=by
 refine qh.ent (L':=qr p d::yH q p n k br::qo M::L) eG (v8 λmp0 ts0 hd0=>qh.ent (vz hd0) ?_);have hBl:=jAR hd0 (nm 108 n);clear hd0;refine qg Tryz.func75 rfl rfl rfl ?_;refine Q.r ?_;refine S.cr rfl (yz 108 n hn _) ?_;rintro _ _ ⟨rfl,rfl⟩;generalize nm 108 n=l at*;refine Q.r ?_;refine S.ckm p rfl (Z5 p d l M _) ?_;rintro _ _ ⟨v,M1,rfl,hv,hvo,hvc,hl1,rfl⟩
 by_cases he:rdE d l=0
 ·rw[he]
  refine Q.r ?_;refine qx (σ:=List YB×(OM)×OA×Nat) (λs=> [(0,qK q),(4,str l),(5,v.val),(7,.slice s.2.2.1 s.1.length s.2.2.2),(8,.int .i64 (vD (wa v.bs)))])
   (λs=>slO 34 1 s.2.2.1 s.1.length s.2.2.2 (s.1.flatMap YB.cells)::yH q p n k br::qr p d::qo s.2.1::L) (λs=>s.1.map YB.bs=wa v.bs∧Jj s.2.1 s.1∧qU M1 s.2.1) ?_ ?_
  ·refine ql (σ:=List YB×(OM)×OA×Nat) (λs=> [(0,qK q),(4,str l),(5,v.val),(7,.slice s.2.2.1 s.1.length s.2.2.2),(8,.int .i64 (vD (s.1.map YB.bs)))])
    (λs=>slO 34 1 s.2.2.1 s.1.length s.2.2.2 (s.1.flatMap YB.cells)::yH q p n k br::qr p d::qo s.2.1::L)
    (λs=>vD (s.1.map YB.bs)≤v.bs.length∧s.1.map YB.bs++wa (v.bs.drop (vD (s.1.map YB.bs)))=wa v.bs∧Jj s.2.1 s.1∧qU M1 s.2.1) (λs=>v.bs.length - vD (s.1.map YB.bs)) ([],M1,none,0) zt (qi.trans (M:=yH q p n k br::qr p d::qo M1::L) eG (vh (t:=34) (sz:=1))) ⟨jw _,rfl,(λv hv=>by cases hv),qU.refl _⟩ ?_
   rintro ⟨vs,M2,a1,c1⟩ ⟨hat,hall,hok,hl2⟩;dsimp only at*;have hlen:=Xt (vs.map YB.bs);rw[jf] at hlen;have hT2:=(hT.mono hl1).mono hl2;have h1:qH M2 v.a v.bs.length 1 (v.bs.map B):=hvo.mono hl2;have hvl8:v.bs.length≤1048576:=by rw[hv];exact hBl
   have hsub:=qH.fromA (l:=vD (vs.map YB.bs)) h1 hat hvc;rw[jX,←List.map_drop] at hsub;have eln:v.bs.length - vD (vs.map YB.bs)=(v.bs.drop (vD (vs.map YB.bs))).length:=by rw[jE]
   by_cases hlt:vD (vs.map YB.bs)<v.bs.length
   ·generalize hk:vD (vs.map YB.bs)=kk at*
    refine Q.r ?_;refine S.y (Y.slFa (l:=kk) rfl rfl rfl hat (qH.at h1)) ?_;rw[eln] at hsub ⊢;refine S.cq (A:=qo M2) rfl (Vj _ (v.c - kk) (v.bs.drop kk) M2 _ hsub hT2 (by rw[jE];omega) (by rw[jE];omega)) ?_;rintro _ _ ⟨u,w,M3,rfl,hu,hw,huo,hwo,huc,hwc,hl3,rfl⟩;have hstop:¬(zZ (v.bs.drop kk)=0∧VC (v.bs.drop kk)≠[])→∃s:List YB×(OM)×OA×Nat,s=(vs,M3,a1,c1)∧s.1.map YB.bs=wa v.bs∧vD (wa v.bs)=kk:=by
     intro h;have e:wa v.bs=vs.map YB.bs:=by rw[←hall,Xo h,jG]
     exact ⟨_,rfl,e.symm,by rw[e];exact hk⟩
    by_cases hne:zZ (v.bs.drop kk)=0
    ·rw[jb hne] at hu hw
     rw[hne]
     by_cases hu0:u.bs.length=0
     ·obtain ⟨s,rfl,hs1,hs2⟩:=hstop (by rintro ⟨_,h⟩;rw[←hu] at h;exact h (jO hu0))
      refine Q.r ?_;exact ⟨(vs,M3,a1,c1),⟨rfl,rfl,rfl,rfl,jj some (jj (Value.int .i64) (by rw[hs2])),trivial⟩,by exact eG,hs1,hok.mono hl3,hl2.trans hl3⟩
     ·have hn:=X2 hne
      have hbl:=cu hne;rw[jE] at hn;have hul:u.bs.length=VW (v.bs.drop kk):=by rw[hu,hbl]
      have hcu:qV [u]=u.bs:=by simp
      refine Q.r ?_;(repeat (intro b1;refine Q.r ?_));refine S.cr rfl (zL (some ⟨b1,0,none⟩) 1 [u] M3 _ _ (qW.row1y rfl) (λx hx=>by rw[ji.1 hx];exact huo.rd) (hT2.mono hl3) (jz _) (by simp) (by rw[hcu];omega)) ?_;rintro _ _ ⟨x,M4,rfl,hxb,hxo,hxc,hl4,rfl⟩;rw[hcu,ja zo] at hxb;rw[hcu,ja zo];have hxl:x.bs.length=6+u.bs.length:=by rw[hxb,yf]
      refine Q.r ?_;(repeat (intro b1;refine Q.r ?_));refine S.app rfl rfl (vA.sl vg.row zr zr) zr zo zo (λa7 c7=> ?_);refine Q.r ?_;have hk2:vD ((vs++[u]).map YB.bs)=kk+(6+u.bs.length):=by rw[jq,fW,hk];exact jj (kk+ ·) (fV _)
      refine ⟨(vs++[u],M4,a7,c7),⟨rfl,rfl,rfl,jj some (by simp),?_,trivial⟩,?_,⟨?_,?_,?_,hl2.trans (hl3.trans hl4)⟩,?_⟩
      ·rw[hk2];exact jj some (jj (Value.int .i64) (by rw[hxl];rfl))
      ·dsimp only
       rw[qF,vE];exact eG
      ·dsimp only
       rw[hk2,hu,hbl];omega
      ·dsimp only
       rw[hk2,←hall,cG hne (by rw[←hu];intro h;exact hu0 (by rw[h];rfl)),jq,ju];refine jj _ ?_;rw[←List.drop_drop,hul]
       show u.bs::_=_
       rw[hu];rfl
      ·intro y hy
       rcases jy.1 hy with hy|hy
       ·exact (hok.mono (hl3.trans hl4)) y hy
       ·rw[ji.1 hy];exact ⟨huo.mono hl4,huc⟩
      ·dsimp only
       rw[hk2];omega
    ·obtain ⟨s,rfl,hs1,hs2⟩:=hstop (λh=>hne h.1)
     refine Q.r ?_;exact ⟨(vs,M3,a1,c1),⟨rfl,rfl,rfl,rfl,jj some (jj (Value.int .i64) (by rw[hs2])),trivial⟩,by exact eG,hs1,hok.mono hl3,hl2.trans hl3⟩
   ·have hke:vD (vs.map YB.bs)=v.bs.length:=by omega
    have e:wa v.bs=vs.map YB.bs:=by
     rw[←hall,hke,kM,Xo (by unfold zZ;simp),jG]
    refine Q.r ?_;exact ⟨(vs,M2,a1,c1),⟨rfl,rfl,rfl,rfl,jj some (jj (Value.int .i64) (by rw[e])),trivial⟩,kZ _,e.symm,hok,hl2⟩
  ·rintro ⟨vs,M2,a1,c1⟩ ⟨hvs,hok,hl2⟩
   dsimp only at hvs hok hl2 ⊢;rw[hv] at hvs ⊢
   by_cases hlt:vD (wa (JU d l))<v.bs.length
   ·have hlt2:(vD (wa (JU d l)):Int)<v.bs.length:=by omega
    refine Q.r ?_;refine S.ck p rfl (td p d l (vD (wa (JU d l))) _ (by rw[←jCX he];exact jDi _)) ?_;rintro _ _ ⟨rfl,rfl⟩
    by_cases ht:tmE d l=0
    ·rw[ht]
     refine Q.r ?_;have hlog:Kt d l=fI (Wv d l (vD (wa (JU d l)))) l:=by
      unfold Kt;rw[ja (λh=>h he),jb (by rw[hv] at hlt;exact hlt),ja (λh=>h ht)]
     refine S.cq (A:=qr p (Wv d l (vD (wa (JU d l))))) rfl (YG p (Wv d l (vD (wa (JU d l)))) l _) ?_;rintro _ _ ⟨rfl,rfl⟩
     by_cases hlo:0<yX (Wv d l (vD (wa (JU d l)))) l
     ·have hlo':(0:Int)<(yX (Wv d l (vD (wa (JU d l)))) l:Nat):=by omega
      have hlo2:fI (Wv d l (vD (wa (JU d l)))) l=(Xu (Wv d l (vD (wa (JU d l)))) l,Va (Wv d l (vD (wa (JU d l)))) l):=by unfold fI;rw[jb hlo]
      refine Q.r ?_;(repeat (intro b1;refine Q.r ?_));refine yx b1 (t:=9) (l:=[str l]) (m:=1) (cs:=[str l]) (jz _) rfl (λM9 hl9 hs9=> ?_);refine S.ckm p rfl (Qu p _ l (some ⟨b1,0,none⟩) 1 M9 _ hs9) ?_;rintro _ _ ⟨rfl,rfl⟩
      by_cases hf:Xu (Wv d l (vD (wa (JU d l)))) l=0
      ·have hR:yO d l=wa (JU d l):=by unfold yO;rw[ja (by rw[hlog,hlo2];rintro (h|h);exact h he;exact h hf)]
       rw[hf];refine Q.r ?_;refine N.u rfl rfl (L':=slO 34 1 a1 vs.length c1 (vs.flatMap YB.cells)::qo M9::yH q p n k br::qr p (Va (Wv d l (vD (wa (JU d l)))) l)::L) eG ⟨a1,c1,?_,vs,M9,by rw[hR];exact hvs,hok.mono hl9,(hl1.trans hl2).trans hl9,?_⟩
       ·rw[show (yO d l).length=vs.length from by rw[hR,←hvs,jf],hlog,hlo2];dsimp only;rw[hf]
       ·rw[hlog,hlo2]
      ·have hR:yO d l=[]:=by unfold yO;rw[jb (.inr (by rw[hlog,hlo2];exact hf))]
       refine Q.r ?_;refine N.u rfl rfl (qi.trans (M:=qo M9::yH q p n k br::qr p (Va (Wv d l (vD (wa (JU d l)))) l)::L) eG (vh (t:=34) (sz:=1))) ⟨none,0,?_,[],M9,by rw[hR];rfl,λv hv=>by simp at hv,(hl1.trans hl2).trans hl9,?_⟩
       ·rw[hR,hlog,hlo2];rfl
       ·rw[hlog,hlo2];rfl
     ·have hlo':¬(0:Int)<(yX (Wv d l (vD (wa (JU d l)))) l:Nat):=by omega
      have hlo2:fI (Wv d l (vD (wa (JU d l)))) l=(0,(Wv d l (vD (wa (JU d l))))):=by unfold fI;rw[ja hlo]
      have hR:yO d l=wa (JU d l):=by unfold yO;rw[ja (by rw[hlog,hlo2];rintro (h|h);exact h he;exact h rfl)]
      refine Q.r ?_;refine N.u rfl rfl (L':=slO 34 1 a1 vs.length c1 (vs.flatMap YB.cells)::qo M2::yH q p n k br::qr p (Wv d l (vD (wa (JU d l))))::L) eG ⟨a1,c1,?_,vs,M2,by rw[hR];exact hvs,hok,hl1.trans hl2,?_⟩
      ·rw[show (yO d l).length=vs.length from by rw[hR,←hvs,jf],hlog,hlo2]
      ·rw[hlog,hlo2]
    ·have hlog:Kt d l=(tmE d l,Wv d l (vD (wa (JU d l)))):=by unfold Kt;rw[ja (λh=>h he),jb (by rw[hv] at hlt;exact hlt),jb ht]
     have hR:yO d l=[]:=by unfold yO;rw[jb (.inr (by rw[hlog];exact ht))]
     refine Q.r ?_;refine N.u rfl rfl (qi.trans (M:=qo M2::yH q p n k br::qr p (Wv d l (vD (wa (JU d l))))::L) eG (vh (t:=34) (sz:=1))) ⟨none,0,?_,[],M2,by rw[hR];rfl,λv hv=>by simp at hv,hl1.trans hl2,?_⟩
     ·rw[hR,hlog];rfl
     ·rw[hlog];rfl
   ·have hlt2:¬(vD (wa (JU d l)):Int)<v.bs.length:=by omega
    refine Q.r ?_;have hlog:Kt d l=fI d l:=by
     unfold Kt;rw[ja (λh=>h he),ja (by rw[hv] at hlt;exact hlt)]
    refine S.cq (A:=qr p d) rfl (YG p d l _) ?_;rintro _ _ ⟨rfl,rfl⟩
    by_cases hlo:0<yX d l
    ·have hlo':(0:Int)<(yX d l:Nat):=by omega
     have hlo2:fI d l=(Xu d l,Va d l):=by unfold fI;rw[jb hlo]
     refine Q.r ?_;(repeat (intro b1;refine Q.r ?_));refine yx b1 (t:=9) (l:=[str l]) (m:=1) (cs:=[str l]) (jz _) rfl (λM9 hl9 hs9=> ?_);refine S.ckm p rfl (Qu p _ l (some ⟨b1,0,none⟩) 1 M9 _ hs9) ?_;rintro _ _ ⟨rfl,rfl⟩
     by_cases hf:Xu d l=0
     ·have hR:yO d l=wa (JU d l):=by unfold yO;rw[ja (by rw[hlog,hlo2];rintro (h|h);exact h he;exact h hf)]
      rw[hf];refine Q.r ?_;refine N.u rfl rfl (L':=slO 34 1 a1 vs.length c1 (vs.flatMap YB.cells)::qo M9::yH q p n k br::qr p (Va d l)::L) eG ⟨a1,c1,?_,vs,M9,by rw[hR];exact hvs,hok.mono hl9,(hl1.trans hl2).trans hl9,?_⟩
      ·rw[show (yO d l).length=vs.length from by rw[hR,←hvs,jf],hlog,hlo2];dsimp only;rw[hf]
      ·rw[hlog,hlo2]
     ·have hR:yO d l=[]:=by unfold yO;rw[jb (.inr (by rw[hlog,hlo2];exact hf))]
      refine Q.r ?_;refine N.u rfl rfl (qi.trans (M:=qo M9::yH q p n k br::qr p (Va d l)::L) eG (vh (t:=34) (sz:=1))) ⟨none,0,?_,[],M9,by rw[hR];rfl,λv hv=>by simp at hv,(hl1.trans hl2).trans hl9,?_⟩
      ·rw[hR,hlog,hlo2];rfl
      ·rw[hlog,hlo2];rfl
    ·have hlo':¬(0:Int)<(yX d l:Nat):=by omega
     have hlo2:fI d l=(0,d):=by unfold fI;rw[ja hlo]
     have hR:yO d l=wa (JU d l):=by unfold yO;rw[ja (by rw[hlog,hlo2];rintro (h|h);exact h he;exact h rfl)]
     refine Q.r ?_;refine N.u rfl rfl (L':=slO 34 1 a1 vs.length c1 (vs.flatMap YB.cells)::qo M2::yH q p n k br::qr p d::L) eG ⟨a1,c1,?_,vs,M2,by rw[hR];exact hvs,hok,hl1.trans hl2,?_⟩
     ·rw[show (yO d l).length=vs.length from by rw[hR,←hvs,jf],hlog,hlo2]
     ·rw[hlog,hlo2]
 ·have hlog:Kt d l=(0,d):=by unfold Kt;rw[jb he]
  have hR:yO d l=[]:=by unfold yO;rw[jb (.inl he)]
  refine Q.r ?_;refine N.u rfl rfl (qi.trans (M:=qo M1::yH q p n k br::qr p d::L) eG (vh (t:=34) (sz:=1))) ⟨none,0,?_,[],M1,by rw[hR];rfl,λv hv=>by simp at hv,hl1,?_⟩
  ·rw[hR,hlog];rfl
  ·rw[hlog];rfl
theorem l6 {x:UInt8}{n:List UInt8}{k:Nat}(h:wq x n=some k):k<100∧n=nm x k:=by
 unfold wq at h;have h1:=List.find?_some h;have h2:=List.mem_of_find?_eq_some h;exact ⟨by simpa using h2,(kV h1).symm⟩
theorem jHp (ns:List (List UInt8)):∀m:Int,(ns.foldl VH m=m∨∃k:Nat,k<100∧ns.foldl VH m=k∧nm 99 k∈ns):=by
 induction ns with
 |nil=>intro m;exact .inl rfl
 |cons n ns ih=>
  intro m;rw[List.foldl_cons]
  rcases ih (VH m n) with h|⟨k,h1,h2,h3⟩
  ·rw[h]
   unfold VH
   cases hz:wq 99 n with
   |none=>exact .inl rfl
   |some k=>
    obtain ⟨hk,hn⟩:=l6 hz;dsimp only
    by_cases hm:m≤k
    ·exact .inr ⟨k,hk,by omega,by rw[hn];simp⟩
    ·exact .inl zo
  ·exact .inr ⟨k,h1,h2,jV _ h3⟩
theorem mh (ns:List (List UInt8)):vO ns= -1∨∃k:Nat,k<100∧vO ns=k∧nm 99 k∈ns:=jHp ns (-1)
def fw (d:DK):Nat:=(vO (qI d)).toNat
def dI (d:DK):List (List UInt8):=xp (vO (qI d)) (qI d)
def la (d:DK):Option (List UInt8):=if vO (qI d)<0 then none else unP (JU d (nm 99 (fw d)))
def Vo (d:DK):List (List UInt8):=yO d (nm 108 (fw d))
def X1 (d:DK):Int×DK:=Kt d (nm 108 (fw d))
def opD (d:DK):Int×DK:=if (X1 d).1=0∧dI d≠[] then (drE (X1 d).2 (dI d),sB (X1 d).2 (dI d)) else X1 d
def xU (d:DK):Int:=if d.down then 9 else if la d=none then 4 else (opD d).1
def yj (d:DK):DK:=if d.down then d else if la d=none then d else (opD d).2
def jHe (p:Nat)(d:DK)(M:OM)(L:HL)(r:Value)(L':HL):Prop:=
 ∃ M',qU M M' ∧ ((xU d ≠ 0 ∧ r = .tuple #[wD,.agg #[.slice none 0 0,.slice none 0 0],.int .i64 (xU d)] ∧ L' = qr p (yj d) :: qo M' :: L) ∨
  (xU d = 0 ∧ ∃ (q : Nat) (sv : YB) (a : OA) (c : Nat) (vs : List YB),r = .tuple #[qK q,.agg #[sv.val,.slice a vs.length c],.int .i64 0] ∧ some sv.bs = la d ∧ wc M' sv ∧ sv.bs.length ≤ sv.c ∧ vs.map YB.bs = Vo d ∧ Jj M' vs ∧ qH M' a vs.length 1 (vs.flatMap YB.cells) ∧ vs.length ≤ c ∧
   L'=yH q p (fw d) vs.length false::qr p (yj d)::qo M'::L))
theorem jBo {d:DK}{l m:List UInt8}(hk:qn d.fs)(h:vV d m):vV (fI d l).2 m∧qn (fI d l).2.fs:=by
 unfold fI
 split
 ·dsimp only
  unfold Va
  split
  ·exact ⟨(Jd (d:=d) (by rw[qS];exact hk)).2 (.inr (by rw[qS];exact h)),vL (by rw[qS];exact hk) _ _⟩
  ·exact ⟨(v6 d m).2 h,by rw[qS];exact hk⟩
 ·exact ⟨h,hk⟩
theorem jDh {d:DK}{l m:List UInt8}(hk:qn d.fs)(h:vV d m):vV (Kt d l).2 m:=by
 have htm:∀x,vV (Wv d l x) m∧qn (Wv d l x).fs:=λx=>by
  unfold Wv
  split
  ·exact ⟨(Jd (d:=d) (by rw[qS];exact hk)).2 (.inr (by rw[qS];exact h)),vL (by rw[qS];exact hk) _ _⟩
  ·exact ⟨(v6 d m).2 h,by rw[qS];exact hk⟩
 unfold Kt
 split
 ·exact h
 ·split
  ·split
   ·exact (htm _).1
   ·exact (jBo (htm _).2 (htm _).1).1
  ·exact (jBo hk h).1
theorem jBi {d:DK}{n:List UInt8}(hk:qn d.fs)(h:n∈qI d):vV d n:=by
 have h1:=(yu _).mem_iff.1 h;obtain ⟨u,hu,rfl⟩:=jM.1 h1;intro h2;rw[(vQ hk (x:=u.1) (a:=u.2)).2 hu] at h2
 cases h2
theorem jCq (p:Nat)(d:DK)(L:HL):qh kY 70 [qK p] (qr p d::L) (λr L'=>r=.bool (!d.down)∧L'=qr p d::L):=by
 refine v8 λmp ts hd=> ?_
 refine qg Tryz.func70 rfl rfl rfl ?_;refine Q.r ?_;refine S.cq (A:=dP p mp d) rfl (gH p mp d _) ?_;rintro _ _ ⟨rfl,rfl⟩;refine Q.r ?_;exact N.t rfl (qi.trans (M:=dP p mp d::dM mp ts::wX ts::L) eG (vz hd)) ⟨rfl,rfl⟩
theorem Z9 (p:Nat)(d:DK)(M:OM)(L:HL)(hE:Vm M)(hT:xg M)(hg:∀n∈qI d,fR n):
  qh kY 27 [qK p] (qr p d::qo M::L) (jHe p d M L):=by
 refine v8 λmp0 ts0 hd0=>qh.ent (vz hd0) ?_
 have hBl:=jAR hd0 (nm 99 (fw d));have hkey:=KQ hd0.fs hd0.key;have hfew:d.fs.length≤16:=by rw[←hd0.fs,jf];exact hd0.few
 clear hd0;refine qg Tryz.func27 rfl rfl rfl ?_;refine Q.r ?_;(repeat (intro b1;refine Q.r ?_));rename_i b3;revert b1;intro b5;refine S.cq (A:=qr p d) rfl (jCq p d _) ?_;rintro _ _ ⟨rfl,rfl⟩
 cases hdn:d.down with
 |true=>
  have hE1:xU d=9:=by unfold xU;rw[jb hdn]
  have hS1:yj d=d:=by unfold yj;rw[jb hdn]
  refine Q.r ?_;refine vf (L':=pt b5 (cl [.slice none 0 0,.slice none 0 0] 75)::pt b3 (cl [.slice none 0 0,.slice none 0 0] 75)::qr p d::qo M::L) eG ?_;refine Q.dgo [true,false] [2] [] [0,1,2,3] ?_;refine Q.rd2 ?_;refine D.e rfl rfl rfl ?_;refine Q.r ?_;refine Q.rd2 ?_;refine Q.r ?_;exact N.r3 (RV.tmp rfl (by apply RV.cellN;rfl;exact vg.row;rfl;exact RV.tmp rfl RV.nil)) (L':=qr p d::qo M::L) eG ⟨M,qU.refl M,.inl ⟨by rw[hE1];decide,by rw[hE1],by rw[hS1]⟩⟩
 |false=>
  have hdn2:¬d.down=true:=by rw[hdn];decide
  refine Q.r ?_;refine S.ckm p rfl (fN p d M _ hE hg hfew) ?_;rintro _ _ ⟨a1,c1,M1,rfl,hl1,rfl⟩;refine wA a1 (λM2 hl2 hs2 hc2=> ?_);have hlE:=(hE.mono hl1).mono hl2;have hlT:=(hT.mono hl1).mono hl2
  rcases mh (qI d) with hN|⟨nn,hN1,hN2,hN3⟩
  ·have hB:la d=none:=by unfold la;rw[jb (by rw[hN];decide)]
   have hE1:xU d=4:=by unfold xU;rw[ja hdn2,jb hB]
   have hS1:yj d=d:=by unfold yj;rw[ja hdn2,jb hB]
   rw[hN];refine Q.r ?_;refine vf (L':=pt b5 (cl [.slice none 0 0,.slice none 0 0] 75)::pt b3 (cl [.slice none 0 0,.slice none 0 0] 75)::qr p d::qo M2::L) eG ?_;refine Q.dgo [true,false] [2] [] [0,1,2,3] ?_;refine Q.rd2 ?_;refine D.e rfl rfl rfl ?_;refine Q.r ?_;refine Q.rd2 ?_;refine Q.r ?_;exact N.r3 (RV.tmp rfl (by apply RV.cellN;rfl;exact vg.row;rfl;exact RV.tmp rfl RV.nil)) (L':=qr p d::qo M2::L) eG ⟨M2,hl1.trans hl2,.inl ⟨by rw[hE1];decide,by rw[hE1],by rw[hS1]⟩⟩
  ·have hNn:fw d=nn:=by unfold fw;rw[hN2];rfl
   have hNp:¬vO (qI d)<0:=by rw[hN2];omega
   have hNp2:¬(nn:Int)<0:=by omega
   have hOl:(xp (vO (qI d)) (qI d))=dI d:=rfl;rw[hOl] at*;rw[hN2];refine Q.r ?_;refine S.cr rfl (yz 99 nn hN1 _) ?_;rintro _ _ ⟨rfl,rfl⟩;refine Q.r ?_;refine S.ckm p rfl (Z5 p d (nm 99 nn) M2 _) ?_;rintro _ _ ⟨v,M3,rfl,hv,hvo,hvc,hl3,rfl⟩;rw[hNn] at hBl;refine Q.r ?_;refine S.cq (A:=qo M3) rfl (dW v.a v.c v.bs M3 _ hvo (hlT.mono hl3) hvc (by rw[hv];omega)) ?_;rintro _ _ ⟨u,M4,rfl,hu,huo,huc,hl4,rfl⟩;have hBe:la d=unP v.bs:=by unfold la;rw[ja hNp,hNn,hv]
   cases hun:unP v.bs with
   |none=>
    have hB:la d=none:=by rw[hBe,hun]
    have hE1:xU d=4:=by unfold xU;rw[ja hdn2,jb hB]
    have hS1:yj d=d:=by unfold yj;rw[ja hdn2,jb hB]
    refine Q.r ?_;refine vf (L':=pt b5 (cl [.slice none 0 0,.slice none 0 0] 75)::pt b3 (cl [.slice none 0 0,.slice none 0 0] 75)::qr p d::qo M4::L) eG ?_;refine Q.dgo [true,false] [2] [] [0,1,2,3] ?_;refine Q.rd2 ?_;refine D.e rfl rfl rfl ?_;refine Q.r ?_;refine Q.rd2 ?_;refine Q.r ?_;exact N.r3 (RV.tmp rfl (by apply RV.cellN;rfl;exact vg.row;rfl;exact RV.tmp rfl RV.nil)) (L':=qr p d::qo M4::L) eG ⟨M4,hl1.trans (hl2.trans (hl3.trans hl4)),.inl ⟨by rw[hE1];decide,by rw[hE1],by rw[hS1]⟩⟩
   |some z=>
    refine Q.r ?_;(repeat (intro b1;refine Q.r ?_));refine qm (L':=yH b1 p nn 0 false::qr p d::qo M4::pt b5 (cl [.slice none 0 0,.slice none 0 0] 75)::pt b3 (cl [.slice none 0 0,.slice none 0 0] 75)::L) eG ?_;refine S.cr rfl (jBm p b1 nn 0 false d M4 _ hN1 ((hlT.mono hl3).mono hl4)) ?_;rintro _ _ ⟨a2,c2,rfl,vs,M5,hvs,hok,hl5,rfl⟩;have hL:X1 d=Kt d (nm 108 nn):=by unfold X1;rw[hNn]
    have hR:Vo d=yO d (nm 108 nn):=by unfold Vo;rw[hNn]
    rw[←hL,←hR];rw[←hR] at hvs;have hvl:(Vo d).length=vs.length:=by rw[←hvs,jf]
    rw[hvl];refine wA a2 (λM6 hl6 hs6 hc6=> ?_);have hB:¬la d=none:=by rw[hBe,hun];intro h;cases h
    have hE1:xU d=(opD d).1:=by unfold xU;rw[ja hdn2,ja hB]
    have hS1:yj d=(opD d).2:=by unfold yj;rw[ja hdn2,ja hB]
    have hlM:qU M M6:=hl1.trans (hl2.trans (hl3.trans (hl4.trans (hl5.trans hl6))))
    by_cases he1:(X1 d).1=0
    ·rw[he1]
     by_cases ho0:(dI d).length=0
     ·have hon:dI d=[]:=jO ho0
      have hD:opD d=X1 d:=by unfold opD;rw[ja (λh=>h.2 hon)]
      rw[hD] at hE1 hS1;have ho1:¬(0:Int)<(dI d).length:=by omega
      refine Q.r ?_;refine N.r3 (RV.tmp rfl (by apply RV.cellN;rfl;exact vg.row;rfl;exact RV.tmp rfl RV.nil)) (L':=yH b1 p nn vs.length false::qr p (X1 d).2::qo M6::L) eG ⟨M6,hlM,.inr ⟨?_,b1,u,a2,c2,vs,rfl,?_,huo.mono (hl5.trans hl6),huc,hvs,hok.mono hl6,hs6,hc6,?_⟩⟩
      ·rw[hE1];exact he1
      ·rw[hBe,hun];rw[hun] at hu;rw[hu];rfl
      ·rw[hS1,hNn]
     ·have hon:dI d≠[]:=λh=>ho0 (by rw[h];rfl)
      have hD:opD d=(drE (X1 d).2 (dI d),sB (X1 d).2 (dI d)):=by unfold opD;rw[jb ⟨he1,hon⟩]
      rw[hD] at hE1 hS1;have ho1:(0:Int)<(dI d).length:=by omega
      refine Q.r ?_;refine S.ck p rfl (Wp p (X1 d).2 a1 c1 (dI d) _ (λX=>qH.rd (hs2.mono (hl3.trans (hl4.trans (hl5.trans hl6)))) (hm:=KS X inferInstance)) (ke (kw _ _) (by unfold qI;rw[Jo,jf];omega)) (λx hx=>by unfold X1;exact jDh hkey (jBi hkey (jB.1 hx).1))) ?_;rintro _ _ ⟨rfl,rfl⟩
      by_cases he2:drE (X1 d).2 (dI d)=0
      ·rw[he2]
       refine Q.r ?_;refine N.r3 (RV.tmp rfl (by apply RV.cellN;rfl;exact vg.row;rfl;exact RV.tmp rfl RV.nil)) (L':=yH b1 p nn vs.length false::qr p (sB (X1 d).2 (dI d))::qo M6::L) eG ⟨M6,hlM,.inr ⟨?_,b1,u,a2,c2,vs,rfl,?_,huo.mono (hl5.trans hl6),huc,hvs,hok.mono hl6,hs6,hc6,?_⟩⟩
       ·rw[hE1];exact he2
       ·rw[hBe,hun];rw[hun] at hu;rw[hu];rfl
       ·rw[hS1,hNn]
      ·refine Q.r ?_
       refine vf (L':=pt b5 (cl [.slice none 0 0,.slice none 0 0] 75)::pt b3 (cl [.slice none 0 0,.slice none 0 0] 75)::qr p (sB (X1 d).2 (dI d))::qo M6::L) eG ?_;refine Q.dgo [true,false] [3] [] [0,1,2,3,4] ?_;refine Q.rd2 ?_;refine D.e rfl rfl rfl ?_;refine Q.r ?_;refine Q.rd2 ?_;refine Q.r ?_;refine N.r3 (RV.tmp rfl (by apply RV.cellN;rfl;exact vg.row;rfl;exact RV.tmp rfl RV.nil)) (L':=qr p (sB (X1 d).2 (dI d))::qo M6::L) eG ⟨M6,hlM,.inl ⟨?_,?_,?_⟩⟩
       ·rw[hE1];exact he2
       ·rw[hE1]
       ·rw[hS1]
    ·have hD:opD d=X1 d:=by unfold opD;rw[ja (λh=>he1 h.1)]
     rw[hD] at hE1 hS1;have he2:=he1;refine Q.r ?_;refine vf (L':=pt b5 (cl [.slice none 0 0,.slice none 0 0] 75)::pt b3 (cl [.slice none 0 0,.slice none 0 0] 75)::qr p (X1 d).2::qo M6::L) eG ?_;refine Q.dgo [true,false] [3] [] [0,1,2,3,4] ?_;refine Q.rd2 ?_;refine D.e rfl rfl rfl ?_;refine Q.r ?_;refine Q.rd2 ?_;refine Q.r ?_;refine N.r3 (RV.tmp rfl (by apply RV.cellN;rfl;exact vg.row;rfl;exact RV.tmp rfl RV.nil)) (L':=qr p (X1 d).2::qo M6::L) eG ⟨M6,hlM,.inl ⟨?_,?_,?_⟩⟩
     ·rw[hE1];exact he2
     ·rw[hE1]
     ·rw[hS1]
end Go.Proofs.YtlnfjhiphlfkjaaGreatDoor
namespace Go.Proofs.YtlnfjhiphlfkjaaGreatDoor
open Go Go.SX
theorem pw (a b:List (List UInt8)):wO (a++b)=wO a++wO b:=by unfold wO;rw[jq,List.flatten_append]
theorem Yf (a:List UInt8)(b:List (List UInt8)):wO (a::b)=frB a++wO b:=by unfold wO;rw[jL,List.flatten_cons]
theorem pu (l:List (List UInt8)):(wO l).length=vD l:=by
 induction l with
 |nil=>rfl
 |cons x l ih=>
  rw[Yf,jc,ih,yf]
  simp[vD]
theorem jDT {l:List (List UInt8)}{r:List UInt8}(h:∀x∈l,x.length≤4096):K4 (wO l++r)=l++K4 r:=by
 induction l with
 |nil=>rfl
 |cons x l ih=>
  obtain ⟨h1,h2,h3,_⟩:=fy x (wO l++r) (h x (by simp));rw[Yf,ju,pY h1,h2,h3,ih (λy hy=>h y (by simp[hy]))];rfl
theorem n5 :zZ []≠0:=by unfold zZ;simp
theorem jDj {l:List (List UInt8)}{r:List UInt8}(h:∀x∈l,x.length≤4096∧x.length≠0):wa (wO l++r)=l++wa r:=by
 induction l with
 |nil=>rfl
 |cons x l ih=>
  have hx:=h x (by simp);obtain ⟨h1,h2,h3,_⟩:=fy x (wO l++r) hx.1;have hne:VC (frB x++(wO l++r))≠[]:=by rw[h2];intro h;exact hx.2 (by rw[h];rfl)
  rw[Yf,ju,cG h1 hne,h2,h3,ih (λy hy=>h y (by simp[hy]))];rfl
theorem jB6 {bs x:List UInt8}(h:x∈QO bs):x.length≤4096∧x.length≠0:=by
 induction bs using QO.induct with
 |case1=>rw[Kf] at h;cases h
 |case2 bs hne ih=>
  rw[JO hne] at h
  rcases j9.1 h with rfl|h
  ·have:bs.length≠0:=λe=>hne (List.length_eq_zero_iff.1 e)
   rw[jP];omega
  ·exact ih h
theorem jB7 (bs:List UInt8):∀i,i+1<(QO bs).length→((QO bs).getD i []).length=4096:=by
 induction bs using QO.induct with
 |case1=>intro i h;rw[Kf] at h;simp at h
 |case2 bs hne ih=>
  intro i h;rw[JO hne] at h ⊢;rw[jC] at h
  cases i with
  |zero=>
   have h2:(QO (bs.drop 4096)).length≠0:=by omega
   have h3:bs.drop 4096≠[]:=λe=>h2 (by rw[e,Kf];rfl)
   have h4:(bs.drop 4096).length≠0:=λe=>h3 (List.length_eq_zero_iff.1 e)
   rw[jE] at h4
   show (bs.take 4096).length=4096
   rw[jP];omega
  |succ i=>exact ih i zo
theorem nS (s:List UInt8):wE s=wO (QO s++[[]]):=by
 unfold wE KH wO;rw[jq];rfl
theorem jDS (s r:List UInt8):K4 (wE s++r)=QO s++[[]]++K4 r:=by
 rw[nS];exact jDT λx hx=>by
  rcases jy.1 hx with hx|hx
  ·exact (jB6 hx).1
  ·rw[ji.1 hx];simp
theorem jEE (s:List UInt8):unP (wE s)=some s:=by
 have h0:=jDS s [];rw[jG,pZ n5,jG] at h0;unfold unP;rw[h0];have hlen:(QO s++[[]]).length=(QO s).length+1:=by simp
 unfold unL;rw[jb]
 ·rw[hlen,Nat.add_sub_cancel,List.take_left' rfl,ga]
 ·refine ⟨by rw[nS,pu],by simp,?_,λi hi=> ?_⟩
  ·rw[hlen,Nat.add_sub_cancel,j8,kG (jz _),Nat.sub_self];rfl
  ·rw[hlen,Nat.add_sub_cancel] at hi
   rw[hlen,j8,ko hi,←j8];have hm:(QO s).getD i []∈QO s:=by
    rw[j8,jY hi];exact List.getElem_mem hi
   have h1:=jB6 hm;unfold okU;rw[jv h1.2]
   by_cases hi2:i+1<(QO s).length
   ·have h2:=jB7 s i hi2
    rw[h2];simp
   ·have:decide (i+2<(QO s).length+1)=false:=jv zo
    rw[this];simp
end Go.Proofs.YtlnfjhiphlfkjaaGreatDoor
