/- Walks of functions, and plain laws, that the last text rests on. No condition. -/
import Derived.Sort.Defs
import Derived.Sort.LotD1
import Derived.Test.YtlnfjhiphlfkjaaGreatDoorPk02
set_option linter.unusedVariables false
set_option linter.unusedSimpArgs false
set_option linter.unusedSectionVars false
set_option maxHeartbeats 20000000
namespace Go.Proofs.YtlnfjhiphlfkjaaGreatDoor
open Go Go.SX
attribute [local irreducible] swp qq qL qJ vZ qh St qi qk vu qH
attribute [local irreducible] zN
abbrev U64 :Int→Value:=Value.int .u64
def vB (fn:FuncId)(tmps:Array Value)(ps:Array Tmp)(assign body:Code)(D:Nat)(st:LoopState)(pe:Option Code):Loop:={state:=st,pending:=pe,fn,tmps,params:=ps,assign,body,defers:=D}
def apJ (rec:Loop)(l D bs:Nat)(pre:List Int):HP:=d9 λx:OA×Nat=>yA [pt l (.loop rec),pt D (.deferred (some [])),pt bs (cl [.slice x.1 pre.length x.2] 141),slO 31 1 x.1 pre.length x.2 (pre.map U64)]
theorem me {rec:Loop}{l D bs:Nat}{pre:List Int}{a:OA}{c:Nat}{L:HL}:qi (pt l (.loop rec)::pt D (.deferred (some []))::pt bs (cl [.slice a pre.length c] 141)::slO 31 1 a pre.length c (pre.map U64)::L) (apJ rec l D bs pre::L):=
 qi.trans (qi.shut_all (L:=[_,_,_,_])) (qi.shut_ex (P:=λx:OA×Nat=>yA [pt l (.loop rec),pt D (.deferred (some [])),pt bs (cl [.slice x.1 pre.length x.2] 141),slO 31 1 x.1 pre.length x.2 (pre.map U64)]) (a,c))
theorem mg {rec:Loop}{l D bs:Nat}{pre:List Int}{w:World}{L:HL}(H:St w (apJ rec l D bs pre::L)):∃a c,St w (pt l (.loop rec)::pt D (.deferred (some []))::pt bs (cl [.slice a pre.length c] 141)::slO 31 1 a pre.length c (pre.map U64)::L):=by
 obtain ⟨x,H⟩:=St.open_ex H;exact ⟨x.1,x.2,St.ent (qi.open_all (L:=[_,_,_,_])) H⟩
theorem St.obj {w:World}{l:Nat}{o o':Obj}{L:HL}(H:St w (pt l o::L)):St (w.putObj l o') (pt l o'::L):=by
 have hl:=St.pt_read H;have hlt:l<w.heap.size:=(kj.1 hl).1;exact St.pt_write H (World.putObj_heap_same hlt) (λk hk=>World.putObj_heap_other hk) rfl
theorem jEW {fn:FuncId}{tm:Array Value}{l D bs:Nat}{pre:List Int}{x:Int}{assign body:Code}(htm:tm.size=13)(hbs:tm[2]? =some (.pointer (some ⟨bs,0,none⟩)))(hN:pre.length<17592186044416)
  (ha:assign=.region 2 ([⟨some 5,.assign (.tmp 7),31, "iter.go:51",#[],none⟩]:List Oper).toArray false)
  (hb : ∃ l1 id,body = .block 1 (.region id (l1 : List Oper).toArray false) ∧ wA 13 l1 = true ∧
   ∀(v:Int) (a:OA) (c k:Nat) (cs:List Value),k<17592186044416→zN kY 13 (some l) l1 l1 (qL (λf L=>∃a' c',L=[pt bs (cl [.slice a' (k+1) c'] 141),slO 31 1 a' (k+1) c' (cs++[U64 v])]) (λ_ _ _=>False)) (v7 [(2,.pointer (some ⟨bs,0,none⟩)),(5,U64 v)]) [pt bs (cl [.slice a k c] 141),slO 31 1 a k c cs]):
  QD kY l (U64 x) [apJ (vB fn tm #[7] assign body D .ready none) l D bs pre] [apJ (vB fn tm #[7] assign body D .ready none) l D bs (pre++[x])]:=by
 intro F w t;obtain ⟨a,c,t⟩:=mg (L:=F) (by simpa using t);have hl:=St.pt_read t;obtain ⟨l1,id,hbd,hok1,hb⟩:=hb;refine ⟨fn,tm.setIfInBounds 7 (U64 x),_,_,by simpa[vB] using run_yield (P:=kY) (args:= #[U64 x]) hl rfl,roundIn_of_wpIn trivial ?_⟩;have s0:KO 13 {tmps:=tm.setIfInBounds 7 (U64 x),defers:=[]} (v7 [(2,.pointer (some ⟨bs,0,none⟩)),(7,U64 x)]):=by
  refine ⟨rfl,by simp[htm],λi v e=> ?_⟩;simp only[v7,upd,e0] at e
  by_cases h2:i=2
  ·subst h2
   cases e
   rw[Array.getD_eq_getD_getElem?,Array.getElem?_setIfInBounds_ne zo,hbs];rfl
  ·by_cases h7:i=7
   ·subst h7
    cases e
    simp[htm]
   ·rw[WR h2,WR h7] at e;cases e
 have hwa:∀Q a w,(Code.region 2 ([⟨some 5,.assign (.tmp 7),31, "iter.go:51",#[],none⟩]:List Oper).toArray false).wpIn (WF (some l)) 0 kY Q a w→assign.wpIn (WF (some l)) 0 kY Q a w:=λQ a w h=>by rw[ha];exact h
 refine hwa _ _ _ (yq (r:=some l) (n:=13) (L:=[pt l (.loop (vB fn tm #[7] assign body D .ready none)),pt D (.deferred (some [])),pt bs (cl [.slice a pre.length c] 141),slO 31 1 a pre.length c (pre.map U64)]) (F:=F) (K:=λf L=>f 2=some (.pointer (some ⟨bs,0,none⟩))∧f 5=some (U64 x)∧L=[pt l (.loop (vB fn tm #[7] assign body D .ready none)),pt D (.deferred (some [])),pt bs (cl [.slice a pre.length c] 141),slO 31 1 a pre.length c (pre.map U64)]) ?_ rfl s0 t ?_)
 ·refine qy (λ_ h=>by cases h) rfl ?_
  repeat (first|(refine GQ.y ?_;refine Q.y ?_)|refine Q.go ?_|(refine GQ.g ?_;refine Q.gq ?_)|(refine GQ.s ?_;refine Q.st ?_))
  exact wW (N.tn ⟨rfl,rfl,rfl⟩)
 rintro f L a1 w1 ⟨h2,h5,rfl⟩ s1 t1;refine ⟨_,run_beginRound (St.pt_read t1) rfl,?_⟩;have t2:=St.obj (o':=.loop {(vB fn tm #[7] assign body D .ready none) with state:=.busy}) (L:=[pt D (.deferred (some [])),pt bs (cl [.slice a pre.length c] 141),slO 31 1 a pre.length c (pre.map U64)]++F) t1;have t3:St _ ([pt bs (cl [.slice a pre.length c] 141),slO 31 1 a pre.length c (pre.map U64)]++(pt l (.loop {(vB fn tm #[7] assign body D .ready none) with state:=.busy})::pt D (.deferred (some []))::F)):=
  St.rot2 t2
 have hwp:∀Q a w,(Code.block 1 (.region id l1.toArray false)).wpIn (WF (some l)) 0 kY Q a w→body.wpIn (WF (some l)) 0 kY Q a w:=λQ a w h=>by rw[hbd];exact h
 refine hwp _ _ _ (wpIn_block (yq (r:=some l) (n:=13) (F:=_) (hb x a c pre.length (pre.map U64) hN) hok1 (s1.weaken (wt ⟨h2,h5,trivial⟩)) t3 ?_));rintro f L a2 w2 ⟨a',c',rfl⟩ s2 t4;have t5:St w2 (pt l (.loop {(vB fn tm #[7] assign body D .ready none) with state:=.busy})::pt D (.deferred (some []))::([pt bs (cl [.slice a' (pre.length+1) c'] 141),slO 31 1 a' (pre.length+1) c' (pre.map U64++[U64 x])]++F)):=
  St.rot2 t4
 refine ⟨_,_,run_endRound none (St.pt_read t5),rfl,?_⟩;have t6:=St.obj (o':=.loop (vB fn tm #[7] assign body D .ready none)) t5;have e1:pre.length+1=(pre++[x]).length:=by simp
 have e2:pre.map U64++[U64 x]=(pre++[x]).map U64:=by simp
 rw[e1,e2] at t6;have t7:=St.ent (me (L:=F)) t6
 simpa[vB] using t7
theorem ZC (gf:FuncId)(lb:List Value)[he:qj kY gf](Sp:List Int→Prop)(A A':HL)(hseq:Wo kY gf lb U64 17592186044416 Sp A A'):
  qh kY 185 [.slice none 0 0,.func (.func gf) #[] lb.toArray] A (λv L'=>∃ks a c,Sp ks∧v=.slice a ks.length c∧L'=slO 31 1 a ks.length c (ks.map U64)::A'):=by
 refine qh.mk' λF w t=> ?_
 refine (callsIn_wide (n:=1)).1 (callsIn_of_wp_marks Tryz.func185 rfl trivial ?_);have s0:KO 13 {tmps:= #[.slice none 0 0,.func (.func gf) #[] lb.toArray]++Array.replicate 11 undef,defers:=[]} (QA [.slice none 0 0,.func (.func gf) #[] lb.toArray] 0):=by
  refine ⟨rfl,by simp,λi v e=> ?_⟩;obtain ⟨_,h2⟩:=Ku _ 0 i v e;simp only[Nat.sub_zero] at h2;have hi:i<2:=(jm.1 h2).1
  match i,hi,h2 with
  |0,_,h2=>simpa using h2
  |1,_,h2=>simpa using h2
 refine xB (n:=13) (F:=F) (K:=λf L=>∃bs,f 1=some (.func (.func gf) #[] lb.toArray)∧f 2=some (.pointer (some ⟨bs,0,none⟩))∧L=pt bs (cl [.slice none 0 0] 141)::A) ?_ rfl s0 t ?_
 ·refine Q.r ?_;(repeat (intro b1;refine Q.r ?_))
  exact ⟨_,rfl,rfl,rfl⟩
 rintro f L a1 w1 ⟨bs,h1,h2,rfl⟩ s1 t1;refine wpIn_seq ?_;refine xB (n:=13) (F:=F) (K:=λf L=>f 6=some (.func (.func gf) #[] lb.toArray)∧f 2=some (.pointer (some ⟨bs,0,none⟩))∧L=pt bs (cl [.slice none 0 0] 141)::A) (f:=v7 [(1,.func (.func gf) #[] lb.toArray),(2,.pointer (some ⟨bs,0,none⟩))]) ?_ rfl (s1.weaken (wt ⟨h1,h2,trivial⟩)) t1 ?_
 ·refine Q.r ?_
  exact ⟨rfl,rfl,rfl⟩
 rintro f L a2 w2 ⟨h6,h2,rfl⟩ s2 t2;obtain ⟨tm,htm⟩:∃tm,tm=a2.tmps:=⟨_,rfl⟩;have hsz:tm.size=13:=by rw[htm];exact s2.size
 have h2':tm[2]? =some (.pointer (some ⟨bs,0,none⟩)):=by
  have:=s2.at_ 2 _ h2;rw[←htm,Array.getD_eq_getD_getElem?] at this;have hlt:2<tm.size:=by omega
  rw[Array.getElem?_eq_getElem hlt] at this ⊢
  simpa using this
 have hev:a2.eval (.tmp 6)=.func (.func gf) #[] lb.toArray:=s2.eval (x:=.tmp 6) h6;refine wpIn_block (K5 hev λfn=> ?_);have t3:=St.pt_new (w':=w2.alloc (.deferred (some []))) t2 rfl rfl;generalize hr0:({state:=.ready,pending:=none,fn,tmps:=a2.tmps,params:= #[7],assign:=_,body:=_,defers:=w2.heap.size}:Loop)=rec;have t4:=St.pt_new (w':=(w2.alloc (.deferred (some []))).alloc (.loop rec)) t3 rfl rfl;obtain ⟨As,hA⟩:∃A,A=rec.assign:=⟨_,rfl⟩;obtain ⟨Bs,hB⟩:∃B,B=rec.body:=⟨_,rfl⟩;have hrec:rec=vB fn tm #[7] As Bs w2.heap.size .ready none:=by rw[hA,hB,htm,←hr0];rfl
 have hA':As=.region 2 ([⟨some 5,.assign (.tmp 7),31, "iter.go:51",#[],none⟩]:List Oper).toArray false:=by rw[hA,←hr0]
 have hB':∃l1 id,Bs=.block 1 (.region id (l1:List Oper).toArray false)∧wA 13 l1=true∧
   ∀(v:Int) (a:OA) (c k:Nat) (cs:List Value),k<17592186044416→zN kY 13 (some (w2.heap.size+1)) l1 l1 (qL (λf L=>∃a' c',L=[pt bs (cl [.slice a' (k+1) c'] 141),slO 31 1 a' (k+1) c' (cs++[U64 v])]) (λ_ _ _=>False)) (v7 [(2,.pointer (some ⟨bs,0,none⟩)),(5,U64 v)]) [pt bs (cl [.slice a k c] 141),slO 31 1 a k c cs]:=by
  refine ⟨_,3,by rw[hB,←hr0],rfl,λv a c k cs hk=> ?_⟩;refine qy (λ_ h=>by cases h) rfl ?_;refine Q.r ?_;refine qy (λ_ h=>by cases h) rfl ?_;refine Q.r ?_;refine qy (λ_ h=>by cases h) rfl ?_;refine Q.r ?_;(repeat (intro b1;refine Q.r ?_));refine qy (λ_ h=>by cases h) rfl ?_;refine S.app rfl rfl (vG.sl vi.row zr zr) zr zo zo (λa' c'=> ?_);refine Q.r ?_;refine qy (λ_ h=>by cases h) rfl ?_;refine Q.r ?_;exact Je (qi.drop (kZ _)) (wW (N.tn ⟨a',c',rfl⟩))
 clear hA hB;subst hrec;clear hr0;have hcall:=hseq (w2.heap.size+1) (apJ (vB fn tm #[7] As Bs w2.heap.size .ready none) (w2.heap.size+1) w2.heap.size bs) (λpre x hp=>jEW hsz h2' hp hA' hB');have hsz1:(w2.alloc (.deferred (some []))).heap.size=w2.heap.size+1:=by simp
 rw[hsz1] at t4;have t5:=St.ent (me (pre:=[]) (L:=A++F)) (St.ent (qi.cons (qi.cons (qi.cons vj))) t4);refine (qh.run hcall t5).mono ?_;rintro e w3 ⟨v,L',rfl,t6,ks,hks,rfl⟩;obtain ⟨a,c,t7⟩:=mg (L:=A'++F) t6;refine ⟨v,_,rfl,run_endLoop (St.pt_read t7) (by simp[vB]),?_⟩;have t8:=St.obj (o':=.loop {vB fn tm #[7] As Bs w2.heap.size .ready none with state:=.exhausted}) t7;have t9:=t8.tail;generalize w3.putObj (w2.heap.size+1) (.loop {vB fn tm #[7] As Bs w2.heap.size .ready none with state:=.exhausted})=w4 at t9;have hD:=St.pt_read t9;have hcell:=St.pt_read t9.tail;simp only[Exit.inBlock,Exit.then];have hload:(Instr.loadAt 141 (.pointer (some ⟨bs,0,none⟩))).run kY w4=.ok (.slice a ks.length c) w4:=KE (P:=kY) (b:=bs) (o:=0) (by simp[World.cell?,hcell,cl]);have hd0:a2.tmps.getD 2 undef=.pointer (some ⟨bs,0,none⟩):=s2.at_ 2 _ h2;have hd1:a2.tmps.size=13:=s2.size;have hd2:a2.defers=[]:=s2.defers;refine wpIn_seq (wpIn_region_lit ?_);refine wpListIn_plain rfl λK hK=>⟨λ_ _=>trivial,?_⟩
 rw[Oper.semAt_eq _ _ _ (λ_ h=>by cases h)];simp only[execOp,Act.eval,hd0,Sem.run_bind,hload,Result.andThen_ok,Sem.run_pure];refine hK _ _ (wpListIn_plain rfl λK' hK'=>⟨λ_ _=>trivial,?_⟩);rw[Oper.semAt_eq _ _ _ (λ_ h=>by cases h)];simp only[execOp,Act.eval,Sem.run_pure];refine hK' _ _ (wpListIn_nil (wpIn_ret ?_));refine ⟨by simp,.inl ⟨_,_,rfl,run_takeDeferred hD,?_⟩⟩;rw[hd2];refine ⟨_,results_tmp rfl _ _ _,_,slO 31 1 a ks.length c (ks.map U64)::A',?_,(St.obj (o':=.deferred none) t9).tail.tail,ks,a,c,hks,rfl,rfl⟩
 simp[Act.put,hd1]
theorem fK (gf:FuncId)(lb:List Value)[he:qj kY gf](Sp:List Int→Prop)(A A':HL)(hseq:Wo kY gf lb U64 17592186044416 Sp A A'):
  qh kY 131 [.func (.func gf) #[] lb.toArray] A (λv L'=>∃ks a c,Sp ks∧v=.slice a ks.length c∧L'=slO 31 1 a ks.length c (ks.map U64)::A'):=by
 refine qg Tryz.func131 rfl rfl rfl ?_;refine Q.r ?_;refine S.cr rfl (ZC gf lb Sp A A' hseq) ?_;rintro _ _ ⟨ks,a,c,hks,rfl,rfl⟩;refine Q.r ?_;exact N.t rfl (kZ _) ⟨ks,a,c,hks,rfl,rfl⟩
end Go.Proofs.YtlnfjhiphlfkjaaGreatDoor
namespace Go.Proofs.YtlnfjhiphlfkjaaGreatDoor
open Go Go.SX
attribute [local irreducible] swp qq qL qJ vZ qh St qi qk vu qH
abbrev zC :Int→Value:=Value.int .i32
abbrev cI (z:Int):List Value:=[zC z]
abbrev cU (z:Int):List Value:=[U64 z]
structure OV where
 id:Int
 a:OA
 c:Nat
 vec:List Int
abbrev OV.cells (o:OV):List Value:=[.int .u64 o.id,.slice o.a o.vec.length o.c]
abbrev OV.val (o:OV):Value:=.agg #[.int .u64 o.id,.slice o.a o.vec.length o.c]
abbrev OV.abs (o:OV):Int×List Int:=(o.id,o.vec)
theorem d6 (xs:List Int):xs.flatMap cI=xs.map zC:=by induction xs with
 |nil=>rfl
 |cons x xs ih=>rw[jK,ih];rfl
theorem jGp (xs:List Int):xs.flatMap cU=xs.map U64:=by induction xs with
 |nil=>rfl
 |cons x xs ih=>rw[jK,ih];rfl
theorem jH7 (xs:List Int):(xs.map zC).all (·.oneCell')=true:=by simp[Value.oneCell']
theorem jGU (xs:List OV):(xs.flatMap OV.cells).all (·.oneCell')=true:=by simp[Value.oneCell']
theorem jAZ (f:FuncId)(fs cs:List Value)[he:qj kY f](p:Int→Bool)(a:OA)(c:Nat)(xs:List Int)(A:HL)(h:qY A a xs.length 1 (xs.flatMap cI))(hn:xs.length≤4611686018427387904)
  (hf:∀x∈xs,qh kY f (fs++[zC x]++cs) A (λv L'=>v=.bool (p x)∧L'=A)):
  qh kY 273 [.slice a xs.length c,.func (.func f) fs.toArray cs.toArray] A (λv L'=>(∃i:Int,v=.int .i64 i∧decide (0≤i)=xs.any p)∧L'=A):=by
 refine qg Tryz.func273 rfl rfl rfl ?_;refine Q.r ?_;refine ql (σ:=Nat) (λk=> [(0,.slice a xs.length c),(1,.func (.func f) fs.toArray cs.toArray),(7,.int .i64 xs.length),(8,.int .i64 k)]) (λ_=>A)
  (λk=>k≤xs.length∧(xs.take k).any p=false) (λk=>xs.length - k) 0 zt (kZ _) ⟨by omega,by simp⟩ ?_
 rintro k ⟨hk,hany⟩
 by_cases hlt:k<xs.length
 ·obtain ⟨x,hx⟩:=qx hlt
  obtain ⟨b,o,rfl,hr⟩:=qY.elem (g:=cI) (λ_=>rfl) h hx rfl;have hmx:x∈xs:=jn hx;refine Q.r ?_;refine S.crF (fs:=fs) (cs:=cs) rfl rfl (hf x hmx) ?_;rintro _ _ ⟨rfl,rfl⟩
  cases hp:p x with
  |true=>
   refine Q.r ?_;exact N.t rfl (kZ _) ⟨⟨_,rfl,by rw[show xs.any p=true from ku.2 ⟨x,hmx,hp⟩];simp⟩,rfl⟩
  |false=>
   refine Q.r ?_;refine ⟨k+1,zt,kZ _,⟨by omega,?_⟩,by omega⟩;rw[qA hx,kW,hany]<;>simp[hp]
 ·have hke:k=xs.length:=by omega
  subst hke;rw[jI] at hany;refine Q.r ?_;exact N.t rfl (kZ _) ⟨⟨_,rfl,by rw[hany]<;>rfl⟩,rfl⟩
theorem jA3 (f:FuncId)(fs cs:List Value)[he:qj kY f](p:Int→Bool)(a:OA)(c:Nat)(xs:List Int)(A:HL)(h:qY A a xs.length 1 (xs.flatMap cI))(hn:xs.length≤4611686018427387904)
  (hf:∀x∈xs,qh kY f (fs++[zC x]++cs) A (λv L'=>v=.bool (p x)∧L'=A)):
  qh kY 240 [.slice a xs.length c,.func (.func f) fs.toArray cs.toArray] A (λv L'=>v=.bool (xs.any p)∧L'=A):=by
 refine qg Tryz.func240 rfl rfl rfl ?_;refine Q.r ?_;refine S.cr rfl (jAZ f fs cs p a c xs A h hn hf) ?_;rintro _ _ ⟨⟨i,rfl,hi⟩,rfl⟩;refine Q.r ?_;exact N.t rfl (kZ _) ⟨by rw[←hi],rfl⟩
theorem jAY (f:FuncId)(fs cs:List Value)[he:qj kY f](p:OV→Bool)(a:OA)(c:Nat)(xs:List OV)(A:HL)(h:qY A a xs.length 2 (xs.flatMap OV.cells))(hn:xs.length≤4611686018427387904)
  (hf:∀x∈xs,qh kY f (fs++[OV.val x]++cs) A (λv L'=>v=.bool (p x)∧L'=A)):
  qh kY 238 [.slice a xs.length c,.func (.func f) fs.toArray cs.toArray] A (λv L'=>(∃i:Int,v=.int .i64 i∧decide (0≤i)=xs.any p)∧L'=A):=by
 refine qg Tryz.func238 rfl rfl rfl ?_;refine Q.r ?_;refine ql (σ:=Nat) (λk=> [(0,.slice a xs.length c),(1,.func (.func f) fs.toArray cs.toArray),(7,.int .i64 xs.length),(8,.int .i64 k)]) (λ_=>A)
  (λk=>k≤xs.length∧(xs.take k).any p=false) (λk=>xs.length - k) 0 zt (kZ _) ⟨by omega,by simp⟩ ?_
 rintro k ⟨hk,hany⟩
 by_cases hlt:k<xs.length
 ·obtain ⟨x,hx⟩:=qx hlt
  obtain ⟨b,o,rfl,hr⟩:=qY.elem (g:=OV.cells) (λ_=>rfl) h hx rfl;have hmx:x∈xs:=jn hx;refine Q.r ?_;refine S.crF (fs:=fs) (cs:=cs) rfl rfl (hf x hmx) ?_;rintro _ _ ⟨rfl,rfl⟩
  cases hp:p x with
  |true=>
   refine Q.r ?_;exact N.t rfl (kZ _) ⟨⟨_,rfl,by rw[show xs.any p=true from ku.2 ⟨x,hmx,hp⟩];simp⟩,rfl⟩
  |false=>
   refine Q.r ?_;refine ⟨k+1,zt,kZ _,⟨by omega,?_⟩,by omega⟩;rw[qA hx,kW,hany]<;>simp[hp]
 ·have hke:k=xs.length:=by omega
  subst hke;rw[jI] at hany;refine Q.r ?_;exact N.t rfl (kZ _) ⟨⟨_,rfl,by rw[hany]<;>rfl⟩,rfl⟩
theorem jA2 (f:FuncId)(fs cs:List Value)[he:qj kY f](p:OV→Bool)(a:OA)(c:Nat)(xs:List OV)(A:HL)(h:qY A a xs.length 2 (xs.flatMap OV.cells))(hn:xs.length≤4611686018427387904)
  (hf:∀x∈xs,qh kY f (fs++[OV.val x]++cs) A (λv L'=>v=.bool (p x)∧L'=A)):
  qh kY 201 [.slice a xs.length c,.func (.func f) fs.toArray cs.toArray] A (λv L'=>v=.bool (xs.any p)∧L'=A):=by
 refine qg Tryz.func201 rfl rfl rfl ?_;refine Q.r ?_;refine S.cr rfl (jAY f fs cs p a c xs A h hn hf) ?_;rintro _ _ ⟨⟨i,rfl,hi⟩,rfl⟩;refine Q.r ?_;exact N.t rfl (kZ _) ⟨by rw[←hi],rfl⟩
def VN (z:Int):Bool:=decide (z< -268435456)||decide (268435456<z)
def wQ (xs:List Int):Bool:=decide (0<xs.length)&&decide (xs.length≤8)&& !xs.any VN
instance : qj kY 241:=en241
theorem my (z:Int)(L:HL):qh kY 241 [zC z] L (λv L'=>v=.bool (VN z)∧L'=L):=by
 refine qg Tryz.func241 rfl rfl rfl ?_
 by_cases h:z< -268435456
 ·refine Q.r ?_
  exact N.t rfl (kZ _) ⟨by simp[VN,h],rfl⟩
 ·refine Q.r ?_
  exact N.t rfl (kZ _) ⟨by simp[VN,h],rfl⟩
theorem VQ (a:OA)(c:Nat)(xs:List Int)(A:HL)(h:qY A a xs.length 1 (xs.map zC))(hn:xs.length≤4611686018427387904):
  qh kY 205 [.slice a xs.length c] A (λv L'=>v=.bool (wQ xs)∧L'=A):=by
 refine qg Tryz.func205 rfl rfl rfl ?_;unfold wQ
 by_cases h0:0<xs.length
 ·by_cases h8:xs.length≤8
  ·refine Q.r ?_
   refine S.cr rfl (jA3 241 [] [] VN a c xs A (by rw[d6];exact h) hn (λx _=>my x A)) ?_;rintro _ _ ⟨rfl,rfl⟩;refine Q.r ?_;exact N.t rfl (kZ _) ⟨by simp[h0,h8],rfl⟩
  ·refine Q.r ?_
   exact N.t rfl (kZ _) ⟨by simp[h0,h8],rfl⟩
 ·refine Q.r ?_
  exact N.t rfl (kZ _) ⟨by simp[h0],rfl⟩
theorem QG (a:OA)(c k:Nat)(xs:List Int)(A:HL)(h:qY A a xs.length 1 (xs.map zC))(hc:xs.length≤c)(hk:k≤1000000):
  qh kY 108 [.slice a xs.length c,.int .i64 k] A (λv L'=>∃b c',v=.slice b (xs.take k).length c'∧L'=slO 21 1 b (xs.take k).length c' ((xs.take k).map zC)::A):=by
 refine qg Tryz.func108 rfl rfl rfl ?_;have hl:(xs.take k).length=min k xs.length:=jP ..;have hr:qY A a (xs.take k).length 1 ((xs.take k).map zC):=by
  have:=h.take (k:=min k xs.length) zo;rw[hl];rw[jX,←List.map_take] at this
  rwa [←List.take_eq_take_min] at this
 refine Q.r ?_;(repeat (intro b1;refine Q.r ?_));refine qo (vg (sz:=1) (m:=0) rfl) ?_;refine S.y (Y.slT (h:=(xs.take k).length) rfl rfl (by rw[hl];omega) zo) ?_;refine S.app0 rfl rfl rfl (vG.rd hr.sub (jH7 _)) zr zo zo (λa5 c5=> ?_);refine Q.r ?_;exact N.t rfl (kZ _) ⟨a5,c5,rfl,rfl⟩
end Go.Proofs.YtlnfjhiphlfkjaaGreatDoor
namespace Go.SX
open Go
def ar (k:IntKind)(d:Array Int)(rest:List Value):List Value:=d.toList.map (Value.int k)++rest
theorem jGH {k:IntKind}{d:Array Int}{rest:List Value}:(ar k d rest).length=d.size+rest.length:=by simp[ar]
theorem jGI {k:IntKind}{d:Array Int}{rest:List Value}{i:Nat}(h:i<d.size):(ar k d rest)[i]? =some (.int k d[i]!):=by
 unfold ar;rw[ko (by simpa using h)]
 simp[h]
theorem jGG {k:IntKind}{d:Array Int}{rest:List Value}{i:Nat}{v:Int}(h:i<d.size):(ar k d rest).set i (.int k v)=ar k (d.setIfInBounds i v) rest:=by
 unfold ar;rw[List.set_append_left _ _ (by simpa using h)]
 simp
section
variable {P : Program} {n : Nat} {ops rest : List Oper} {Q : vm} {f : vL} {A L : HL} {d : Tmp} {ty : TypeId} {pos : String} {af : Array Edge}
theorem Y.addN {x y:Operand}{t t':TypeId}{a b:Nat}(hx:ev f x=some (.int .i64 (Int.ofNat a)))(hy:ev f y=some (.int .i64 (Int.ofNat b)))(h:a+b≤9223372036854775807):qk P n ops ⟨some d,.binOp .add t x y t',ty,pos,af,none⟩ f A (.int .i64 ((a+b:Nat):Int)):=
 Y.addi hx hy rfl zo zo
theorem Y.subN {x y:Operand}{t t':TypeId}{a b:Nat}(hx:ev f x=some (.int .i64 (Int.ofNat a)))(hy:ev f y=some (.int .i64 (Int.ofNat b)))(h:b≤a∧a≤9223372036854775807):qk P n ops ⟨some d,.binOp .sub t x y t',ty,pos,af,none⟩ f A (.int .i64 ((a - b:Nat):Int)):=
 Y.subi hx hy (by have:=h.1;show (a:Int) - (b:Int)=_;omega) zo zo
theorem Y.mulN {x y:Operand}{t t':TypeId}{a b:Nat}(hx:ev f x=some (.int .i64 (Int.ofNat a)))(hy:ev f y=some (.int .i64 (Int.ofNat b)))(h:a*b≤9223372036854775807):qk P n ops ⟨some d,.binOp .mul t x y t',ty,pos,af,none⟩ f A (.int .i64 ((a*b:Nat):Int)):=by
 have:=Y.mul (P:=P) (n:=n) (ops:=ops) (A:=A) (d:=d) (ty:=ty) (pos:=pos) (af:=af) (t:=t) (t':=t') hx hy;have e:(Int.ofNat a)*(Int.ofNat b)=((a*b:Nat):Int):=rfl
 rwa [e,vl zo zo] at this
theorem Y.quoN {x y:Operand}{t t':TypeId}{a b:Nat}(hx:ev f x=some (.int .i64 (Int.ofNat a)))(hy:ev f y=some (.int .i64 (Int.ofNat b)))(h:0<b∧a≤9223372036854775807):qk P n ops ⟨some d,.binOp .quo t x y t',ty,pos,af,none⟩ f A (.int .i64 ((a / b:Nat):Int)):=by
 have:=Y.quo (P:=P) (n:=n) (ops:=ops) (A:=A) (d:=d) (ty:=ty) (pos:=pos) (af:=af) (t:=t) (t':=t') hx hy (by have:=h.1;show ¬(b:Int)=0;omega);have e:(Int.ofNat a).tdiv (Int.ofNat b)=((a / b:Nat):Int):=rfl;have h2:a / b≤a:=Nat.div_le_self ..;have h3:=h.2
 rwa [e,vl (by generalize a / b=q at*;omega) (by generalize a / b=q at*;omega)] at this
theorem Y.addC {x y:Operand}{t t':TypeId}{a b:Nat}(hx:ev f x=some (.int .i64 (Int.ofNat a)))(hy:ev f y=some (.int .i64 (@OfNat.ofNat Int b instOfNat)))(h:a+(@OfNat.ofNat Nat b (instOfNatNat b))≤9223372036854775807):qk P n ops ⟨some d,.binOp .add t x y t',ty,pos,af,none⟩ f A (.int .i64 ((a+(@OfNat.ofNat Nat b (instOfNatNat b)):Nat):Int)):=Y.addN (b:=b) hx hy h
theorem Y.subC {x y:Operand}{t t':TypeId}{a b:Nat}(hx:ev f x=some (.int .i64 (Int.ofNat a)))(hy:ev f y=some (.int .i64 (@OfNat.ofNat Int b instOfNat)))(h:(@OfNat.ofNat Nat b (instOfNatNat b))≤a∧a≤9223372036854775807):qk P n ops ⟨some d,.binOp .sub t x y t',ty,pos,af,none⟩ f A (.int .i64 ((a - (@OfNat.ofNat Nat b (instOfNatNat b)):Nat):Int)):=Y.subN (b:=b) hx hy h
theorem Y.mulC {x y:Operand}{t t':TypeId}{a b:Nat}(hx:ev f x=some (.int .i64 (Int.ofNat a)))(hy:ev f y=some (.int .i64 (@OfNat.ofNat Int b instOfNat)))(h:a*(@OfNat.ofNat Nat b (instOfNatNat b))≤9223372036854775807):qk P n ops ⟨some d,.binOp .mul t x y t',ty,pos,af,none⟩ f A (.int .i64 ((a*(@OfNat.ofNat Nat b (instOfNatNat b)):Nat):Int)):=Y.mulN (b:=b) hx hy h
theorem Y.mulD {x y:Operand}{t t':TypeId}{a b:Nat}(hx:ev f x=some (.int .i64 (@OfNat.ofNat Int b instOfNat)))(hy:ev f y=some (.int .i64 (Int.ofNat a)))(h:(@OfNat.ofNat Nat b (instOfNatNat b))*a≤9223372036854775807):qk P n ops ⟨some d,.binOp .mul t x y t',ty,pos,af,none⟩ f A (.int .i64 (((@OfNat.ofNat Nat b (instOfNatNat b))*a:Nat):Int)):=Y.mulN (a:=b) (b:=a) hx hy h
theorem Y.quoC {x y:Operand}{t t':TypeId}{a b:Nat}(hx:ev f x=some (.int .i64 (Int.ofNat a)))(hy:ev f y=some (.int .i64 (@OfNat.ofNat Int b instOfNat)))(h:0<(@OfNat.ofNat Nat b (instOfNatNat b))∧a≤9223372036854775807):qk P n ops ⟨some d,.binOp .quo t x y t',ty,pos,af,none⟩ f A (.int .i64 ((a / (@OfNat.ofNat Nat b (instOfNatNat b)):Nat):Int)):=Y.quoN (b:=b) hx hy h
theorem Y.iaN {x y:Operand}{t e:TypeId}{b o m c sz bts k:Nat}{ag:Bool}{zs:List Value}{kk:IntKind}[h:wS P t e][h2:Ty P e ag sz zs bts](hx:ev f x=some (.slice (some ⟨b,o,none⟩) m c))(hy:ev f y=some (.int kk (Int.ofNat k)))(h1:k<m):
  qk P n ops ⟨some d,.indexAddr t x y,ty,pos,af,none⟩ f A (.pointer (some ⟨b,o+k*sz,none⟩)):=Y.ia hx hy rfl h1
theorem Y.ldI {x:Operand}{t t0 sz bts:Nat}{zs:List Value}{b z:Nat}{k:IntKind}{dd:Array Int}{rs:List Value}[h:Ty P t false sz zs bts][hb:zK b A (cl (ar k dd rs) t0)](hx:ev f x=some (.pointer (some ⟨b,0+z*1,none⟩)))(hz:z<dd.size):
  qk P n ops ⟨some d,.load t x,ty,pos,af,none⟩ f A (.int k dd[z]!):=Y.ld (h:=h) (hb:=hb) hx (by rw[kR,jX];exact jGI hz)
theorem S.stI {x y:Operand}{t t0 bts:Nat}{ag:Bool}{zs:List Value}{b z:Nat}{v:Int}{k:IntKind}{dd:Array Int}{rs:List Value}{L':Obj→HL}[h:Ty P t ag 1 zs bts][hb:XW b L (cl (ar k dd rs) t0) L']
  (hx:ev f x=some (.pointer (some ⟨b,0+z*1,none⟩))) (hy:ev f y=some (.int k v)) (hz:z<dd.size)
  (hk:qq P n ops rest Q f (L' (cl (ar k (dd.setIfInBounds z v) rs) t0))):qq P n ops (⟨none,.store t x y,ty,pos,af,none⟩::rest) Q f L:=
 S.st1 (h:=h) (hb:=hb) hx hy rfl (Nat.ble_eq_true_of_le (by rw[jGH];omega)) (by rw[kR,jX];exact jGG hz) hk
end
theorem vR {d:Array Int}{i j:Nat}:(Sort.swp d i j).size=d.size:=by simp[Sort.swp]
section
variable {P : Program} {n : Nat} {ops rest : List Oper} {Q : vm} {f : vL} {A L : HL} {E cs σ : List Nat} {listed : Array Bool} {held : Bool}
variable {d : Tmp} {op : Op} {ty : TypeId} {pos : String} {af : Array Edge} {g : Option (Nat × Bool)} {v : Value}
theorem Q.yn (hk:qq P n ops rest Q (upd f d v) L)(hy:qk P n ops ⟨some d,op,ty,pos,af,g⟩ f L v:=by first|exact Y.addN rfl rfl zo|exact Y.addC rfl rfl zo|exact Y.subN rfl rfl zo|exact Y.subC rfl rfl zo|exact Y.iaN rfl rfl zo|exact Y.mulC rfl rfl zo|exact Y.mulD rfl rfl zo|exact Y.quoC rfl rfl zo|exact Y.ldI rfl zo):qq P n ops (⟨some d,op,ty,pos,af,g⟩::rest) Q f L:=S.y hy hk
theorem Q.dyn {i:Nat}(hi:ops[i]? =some ⟨some d,op,ty,pos,af,g⟩)(h9:Nat.beq i 99999=false)(hE:E.contains i=false)(h:qH P n ops E cs A σ Q (listed.setIfInBounds i true) held (upd f d v) L)
  (hy:qk P n ops ⟨some d,op,ty,pos,af,g⟩ f [] v:=by first|exact Y.addN rfl rfl zo|exact Y.addC rfl rfl zo|exact Y.subN rfl rfl zo|exact Y.subC rfl rfl zo|exact Y.iaN rfl rfl zo|exact Y.mulC rfl rfl zo|exact Y.mulD rfl rfl zo|exact Y.quoC rfl rfl zo|exact Y.guard rfl (by first|exact Y.addN rfl rfl zo|exact Y.addC rfl rfl zo|exact Y.subN rfl rfl zo|exact Y.subC rfl rfl zo|exact Y.iaN rfl rfl zo|exact Y.mulC rfl rfl zo|exact Y.mulD rfl rfl zo|exact Y.quoC rfl rfl zo)):qH P n ops E cs A (i::σ) Q listed held f L:=D.yp hi h9 hE hy h
theorem Q.dyl {i:Nat}(hi:ops[i]? =some ⟨some d,op,ty,pos,af,g⟩)(h9:Nat.beq i 99999=false)(hE:E.contains i=false)(h:qH P n ops E cs A σ Q (listed.setIfInBounds i true) true (upd f d v) L)
  (hc:(cs.all λm=>m !=i&&(ops.toArray[m]?).isSome&&reach ops.toArray 4 i m)=true:=by kernel_rfl) (hy:qk P n ops ⟨some d,op,ty,pos,af,g⟩ f A v:=by first|exact Y.ldI rfl zo|exact Y.guard rfl (Y.ldI rfl zo)):qH P n ops E cs A (i::σ) Q listed true f L:=D.y hi h9 hE hc hy h
end
namespace Q
theorem rn {A B:Prop}(hk:B)(h:W B→A:=by intro hk;(repeat (first|refine Q.yn ?_|refine S.stI rfl rfl (by first|omega|(rw[Array.size_setIfInBounds];omega)) ?_|(refine GQ.y ?_;refine Q.y ?_)|refine Q.go ?_|(refine GQ.g ?_;refine Q.gq ?_)|(refine GQ.s ?_;refine Q.st ?_)|(refine GQ.g ?_;refine Q.gd ?_)|refine Q.ct rfl ?_|refine Q.cf rfl ?_));(first|(refine GQ.a ?_;refine Q.al ?_;exact hk.x)|exact hk.x)):A:=h ⟨hk⟩
theorem rdn {A B:Prop}(hk:B)(h:W B→A:=by intro hk;(repeat (first|(refine qQ ?_;refine N.tn ?_)|refine Q.dyn rfl rfl rfl ?_|refine Q.dyl rfl rfl rfl ?_|refine D.endA ?_|refine Q.dp rfl rfl rfl ?_|refine Q.dy rfl rfl rfl ?_|refine D.end_ ?_|refine Q.endH ?_|(refine D.e rfl rfl rfl ?_;(first|refine S.gskip1 rfl ?_|refine S.gskip rfl ?_|refine S.y (Y.gskipU rfl) ?_);refine qQ ?_;refine N.tn ?_)|refine Q.dT rfl rfl rfl ?_|refine Q.dF rfl rfl rfl ?_|(refine D.e rfl rfl rfl ?_;(refine GQ.s ?_;refine Q.st ?_);refine qQ ?_;refine N.tn ?_)));(first|(refine D.e rfl rfl rfl ?_;refine GQ.a ?_;refine Q.al ?_;exact hk.x)|exact hk.x)):A:=h ⟨hk⟩
theorem rd2 {A B:Prop}(hk:B)(h:W B→A:=by intro hk;(repeat (first|refine D.endA ?_|refine Q.dp rfl rfl rfl ?_|refine Q.dy rfl rfl rfl ?_|refine D.end_ ?_|refine Q.endH ?_|(refine D.e rfl rfl rfl ?_;(first|refine S.gskip1 rfl ?_|refine S.gskip rfl ?_|refine S.y (Y.gskipU rfl) ?_);refine qQ ?_;refine N.tn ?_)));exact hk.x):A:=h ⟨hk⟩
theorem rd3 {A B:Prop}(hk:B)(h:W B→A:=by intro hk;(repeat (first|refine D.endA ?_|refine Q.dy rfl rfl rfl ?_|refine Q.dp rfl rfl rfl ?_|refine D.end_ ?_|refine Q.endH ?_|(refine D.e rfl rfl rfl ?_;(first|refine S.gskip1 rfl ?_|refine S.gskip rfl ?_|refine S.y (Y.gskipU rfl) ?_);refine qQ ?_;refine N.tn ?_)));exact hk.x):A:=h ⟨hk⟩
theorem rd4 {A B:Prop}(hk:B)(h:W B→A:=by intro hk;(repeat (first|refine D.endA ?_|refine Q.dp rfl rfl rfl ?_|refine Q.dy rfl rfl rfl ?_|refine D.end_ ?_|refine Q.endH ?_|(refine D.e rfl rfl rfl ?_;(first|refine S.gskip1 rfl ?_|refine S.gskip rfl ?_|refine S.y (Y.gskipU rfl) ?_);refine qQ ?_;refine N.tn ?_)|refine Q.dT rfl rfl rfl ?_|refine Q.dF rfl rfl rfl ?_));exact hk.x):A:=h ⟨hk⟩
theorem rd6 {A B:Prop}(hk:B)(h:W B→A:=by intro hk;(repeat (first|refine S.y (Y.ldRj rfl (by first|assumption|exact vi.sub (by assumption)) rfl) ?_|refine Q.yn ?_|refine S.stI rfl rfl (by first|omega|(rw[Array.size_setIfInBounds];omega)) ?_|(refine GQ.y ?_;refine Q.y ?_)|refine Q.go ?_|(refine GQ.g ?_;refine Q.gq ?_)|(refine GQ.s ?_;refine Q.st ?_)|(refine GQ.g ?_;refine Q.gd ?_)|refine Q.ct rfl ?_|refine Q.cf rfl ?_|(refine GQ.a ?_;refine Q.al (λb1=> ?_))));exact hk.x):A:=h ⟨hk⟩
theorem rd7 {A B:Prop}(hk:B)(h:W B→A:=by intro hk;(repeat (first|refine D.endA ?_|refine Q.dy rfl rfl rfl ?_|refine Q.dp rfl rfl rfl ?_|refine D.end_ ?_|refine Q.endH ?_|(refine D.e rfl rfl rfl ?_;(first|refine S.gskip1 rfl ?_|refine S.gskip rfl ?_|refine S.y (Y.gskipU rfl) ?_);refine qQ ?_;refine N.tn ?_)|refine Q.dT rfl rfl rfl ?_|refine Q.dF rfl rfl rfl ?_));exact hk.x):A:=h ⟨hk⟩
end Q
section
variable {P : Program} {n : Nat} {ops rest : List Oper} {Q : vm} {f : vL} {A L : HL} {d : Tmp} {ty : TypeId} {pos : String} {af : Array Edge}
theorem Y.ldRj {x:Operand}{t:TypeId}{sz bts:Nat}{zs:List Value}{b o j:Nat}{v:Value}{cs:List Value}[h:Ty P t false sz zs bts](hx:ev f x=some (.pointer (some ⟨b,o+j,none⟩)))(hr:vi A b o cs)(hj:cs[j]? =some v):qk P n ops ⟨some d,.load t x,ty,pos,af,none⟩ f A v:=
 Y.ldR hx (hr.at hj)
theorem Y.shr {x y:Operand}{t t':TypeId}{k k':IntKind}{a b:Nat}(hx:ev f x=some (.int k (a:Int)))(hy:ev f y=some (.int k' (b:Int)))(hb:b≤k.bits):qk P n ops ⟨some d,.binOp .shr t x y t',ty,pos,af,none⟩ f A (.int k ((a / 2^b:Nat):Int)):=
 Y.of (fun _ w s => by
  have e1:¬((b:Int)<0):=by omega
  have e2:Min.min b k.bits=b:=Nat.min_eq_left hb;have e3:(a:Int).fdiv (2^b)=((a / 2^b:Nat):Int):=by
   rw[Int.fdiv_eq_ediv_of_nonneg _ (by exact_mod_cast jw _)];norm_cast
  simp[execOp,s.eval hx,s.eval hy,eqGuard,binOp,Op.shift,e1,e2,e3])
theorem Y.shl {x y:Operand}{t t':TypeId}{k k':IntKind}{a b:Nat}(hx:ev f x=some (.int k (a:Int)))(hy:ev f y=some (.int k' (b:Int)))(hb:b≤k.bits):qk P n ops ⟨some d,.binOp .shl t x y t',ty,pos,af,none⟩ f A (.int k (k.wrap ((a*2^b:Nat):Int))):=
 Y.of (fun _ w s => by
  have e1:¬((b:Int)<0):=by omega
  have e2:Min.min b k.bits=b:=Nat.min_eq_left hb;have e3:(a:Int)*2^b=((a*2^b:Nat):Int):=by norm_cast
  have e4:(Op.shift .shl k (a:Int) k' (b:Int)).run P w=.ok (.int k (k.wrap ((a*2^b:Nat):Int))) w:=by
   unfold Op.shift;rw[ja e1];simp only[kz,e2,e3,Sem.run_pure]
  simp[execOp,s.eval hx,s.eval hy,eqGuard,binOp,e4])
theorem Y.and {x y:Operand}{t t':TypeId}{k:IntKind}{a b:Int}(hx:ev f x=some (.int k a))(hy:ev f y=some (.int k b)):qk P n ops ⟨some d,.binOp .and t x y t',ty,pos,af,none⟩ f A ((.int k (k.wrap ((BitVec.ofInt k.bits a)&&&(BitVec.ofInt k.bits b)).toNat))):=  Y.of (λ_ w s=>by simp[execOp,s.eval hx,s.eval hy,eqGuard,binOp,Op.intBits])
theorem Y.idx {x y:Operand}{t:TypeId}{k:IntKind}{s0:ByteArray}{i:Nat}{b:UInt8}[h:Wn P t](hx:ev f x=some (.string s0))(hy:ev f y=some (.int k (i:Int)))(hb:s0[i]? =some b):qk P n ops ⟨some d,.index t x y,ty,pos,af,none⟩ f A (.int .u8 b.toNat):=
 Y.of (λ_ w s=>by simp[execOp,s.eval hx,s.eval hy,Instr.index,asIntOf,h.und,hb])
end
theorem tW {P:Program}{n:Nat}{ops rest:List Oper}{Q Q':vm}{f:vL}{L:HL}(h:qq P n ops rest Q f L)(hq:∀e f L,Q e f L→Q' e f L):qq P n ops rest Q' f L:=
 λok F a w s t=>wc (h ok F a w s t) λ_ _ _ ⟨f,L,s,t,q⟩=>⟨f,L,s,t,hq _ _ _ q⟩
theorem QQ {P:Program}{n:Nat}{ops rest:List Oper}{y:Code}{Q:vm}{f:vL}{L:HL}{σ:Type}(sl:σ→List (Nat×Value))(H:σ→HL)(φ:σ→Prop)
  (h:qq P n ops rest (qL (λf L=>∃s,Vd f (sl s)∧qi L (H s)∧φ s) Q) f L)
  (hk:∀s,φ s→swp P n y Q (v7 (sl s)) (H s)):qq P n ops rest (qL (λf L=>swp P n y Q f L) Q) f L:=by
 refine tW h ?_;intro e f L q
 cases e<;>first|exact q|(obtain ⟨s,h1,h2,h3⟩:=q;exact Yp _ h1 (vh h2 (hk s h3)))
theorem jBj (a b:UInt64):IntKind.u64.wrap (((BitVec.ofInt IntKind.u64.bits (a.toNat:Int))^^^(BitVec.ofInt IntKind.u64.bits (b.toNat:Int))).toNat:Int)=((a^^^b).toNat:Int):=by
 have e:∀x:UInt64,BitVec.ofInt 64 (x.toNat:Int)=x.toBitVec:=λx=>by
  apply BitVec.eq_of_toNat_eq;have:=x.toNat_lt
  simp
 have h:=(a^^^b).toNat_lt
 show IntKind.u64.wrap (((BitVec.ofInt 64 (a.toNat:Int))^^^(BitVec.ofInt 64 (b.toNat:Int))).toNat:Int)=_
 rw[e,e,show (a.toBitVec^^^b.toBitVec).toNat=(a^^^b).toNat from rfl];exact wrap_u64 zo zo
theorem shl64 (a:UInt64)(k:Nat)(hk:k<64):IntKind.u64.wrap ((a.toNat*2^k:Nat):Int)=((a<<<(UInt64.ofNat k)).toNat:Int):=by
 rw[IntKind.wrap_u64]
 simp[UInt64.toNat_shiftLeft,Nat.mod_eq_of_lt hk,Nat.shiftLeft_eq]
theorem jHb (a:UInt64)(k:Nat)(hk:k<64):((a.toNat / 2^k:Nat):Int)=((a>>>(UInt64.ofNat k)).toNat:Int):=by
 have e1:(UInt64.ofNat k).toNat % 64=k:=by simp;omega
 rw[UInt64.toNat_shiftRight,e1,Nat.shiftRight_eq_div_pow]
theorem jHZ (a b:Nat)(ha:a<18446744073709551616)(hb:b<18446744073709551616):IntKind.u64.wrap (((BitVec.ofInt IntKind.u64.bits (a:Int))&&&(BitVec.ofInt IntKind.u64.bits (b:Int))).toNat:Int)=((a&&&b:Nat):Int):=by
 have e:∀x:Nat,x<18446744073709551616→(BitVec.ofInt 64 (x:Int)).toNat=x:=λx hx=>by simp;omega
 show IntKind.u64.wrap (((BitVec.ofInt 64 (a:Int))&&&(BitVec.ofInt 64 (b:Int))).toNat:Int)=_
 rw[BitVec.toNat_and,e _ ha,e _ hb];have:a&&&b≤a:=Nat.and_le_left;exact wrap_u64 zo zo
theorem JY {x k:Nat}(h:2^k≤x):Sort.bitsLen x=k+Sort.bitsLen (x / 2^k):=by
 unfold Sort.bitsLen;have hp:0<2^k:=Nat.two_pow_pos k;have h1:¬x=0:=by omega
 have h2:¬x / 2^k=0:=by
  have:=Nat.div_pos h hp;omega
 rw[ja h1,ja h2];have hlog:Nat.log2 (x / 2^k)=Nat.log2 x - k:=by
  have hge:k≤Nat.log2 x:=(Nat.le_log2 h1).2 h;refine (Nat.log2_eq_iff h2).2 ⟨?_,?_⟩
  ·rw[Nat.le_div_iff_mul_le hp,←Nat.pow_add,Nat.sub_add_cancel hge]
   exact Nat.log2_self_le h1
  ·rw[Nat.div_lt_iff_lt_mul hp,←Nat.pow_add,show Nat.log2 x - k+1+k=Nat.log2 x+1 by omega]
   exact Nat.lt_log2_self
 have hge:k≤Nat.log2 x:=(Nat.le_log2 h1).2 h;omega
end Go.SX
namespace Go.Proofs.YtlnfjhiphlfkjaaGreatDoor
open Go Go.SX
attribute [local irreducible] swp qq qL qJ vZ qh St qi qk vu qH
abbrev VL :=List (Int×List Int)
def okR (M:OM)(ovs:List OV):Prop:=∀o∈ovs,qI M o.a o.vec.length 1 (o.vec.map zC)
def Jh (vs:VL):Int:=((vs.getLast?).map (·.1)).getD 0
def yk (vs:VL)(st:Int):Nat:=(vs.filter λv=>decide (v.1≤st)).length
def vS (vs:VL):Prop:=(vs.map (·.1)).Pairwise (· < ·)
theorem jDt :∀{vs:VL} {st:Int},vS vs→∀i v,i<yk vs st→vs[i]? =some v→v.1≤st
 | [],_,_,_,_,_,h=>by simp at h
 |x::t,st,hs,i,v,hi,h=>by
  unfold vS at hs;rw[jL,kH] at hs;unfold yk at hi
  by_cases hx:x.1≤st
  ·cases i with
   |zero=>simp at h;subst h;exact hx
   |succ i=>
    simp[hx] at hi
    exact jDt (vs:=t) hs.2 i v hi (by simpa using h)
  ·have:t.filter (λv=>decide (v.1≤st))=[]:=by
    rw[List.filter_eq_nil_iff];intro y hy;have:=hs.1 y.1 (jA hy)
    simp;omega
   simp[hx,this] at hi
theorem jGJ (vs:VL)(st:Int):yk vs st≤vs.length:=kw _ _
def atV (vs:VL)(st:Int):List Int:=if yk vs st=0 then [] else ((vs[yk vs st - 1]?).map (·.2)).getD []
section
variable {n : Nat} {ops rest : List Oper} {cd : Code} {Q : vm} {f : vL} {L L0 : HL} {M : OM} {vs : VL}
end
def jD5 (vs:VL)(st:Int)(vec:List Int):Int:=
 if st=0∨1099511627776<st then 1 else if 0<vec.length∧wQ vec=false then 4 else if st≤Jh vs then 7 else 0
structure IV where
 txn:Int
 after:Int
 a:OA
 c:Nat
 ops:List OV
abbrev IV.cells (i:IV):List Value:=[.int .u64 i.txn,.int .u64 i.after,.slice i.a i.ops.length i.c]
abbrev IV.val (i:IV):Value:=.agg #[.int .u64 i.txn,.int .u64 i.after,.slice i.a i.ops.length i.c]
abbrev IV.abs (i:IV):Int×Int×VL:=(i.txn,i.after,i.ops.map OV.abs)
def RdO (A:HL)(a:OA)(ops:List OV):Prop:=qY A a ops.length 2 (ops.flatMap OV.cells)∧∀o∈ops,qY A o.a o.vec.length 1 (o.vec.map zC)
theorem RdO.sub {A L:HL}{a:OA}{ops:List OV}(h:RdO A a ops)[s:Sub A L]:RdO L a ops:=⟨h.1.sub,λo ho=>(h.2 o ho).sub⟩
def okI (M:OM)(i:IV):Prop:=qI M i.a i.ops.length 2 (i.ops.flatMap OV.cells)∧okR M i.ops
theorem okI.mono {M M':OM}{i:IV}(h:okI M i)(hl:qV M M'):okI M' i:=⟨h.1.mono hl,λo ho=>(h.2 o ho).mono hl⟩
def yx (ops:VL)(id:Int):Bool:=ops.any λo=>decide (o.1=id)
def Jm (dim:Int)(o:Int×List Int):Bool:=decide (1099511627776<o.1)||(decide (0<o.2.length)&&(!wQ o.2||decide ((o.2.length:Int)≠dim)))
def vP (dim:Int)(ops:VL):Int:=
 if dim<1∨8<dim then 1 else if ops.length=0 then 2 else if 16<ops.length then 3 else if ops.any (Jm dim) then 4 else if (ops.map (·.1)).Nodup then 0 else 7
theorem wa {κ α:Type}[DecidableEq κ]{m:List (κ×α)}(h:qm m)(x y:κ)(a:α):qE (qN m x a) y=if y=x then some a else qE m y:=by
 rcases wJ m h x with ⟨p,b,q,rfl,hp,hq⟩|hn
 ·rw[wv hp hq]
  by_cases hxy:y=x
  ·subst hxy;rw[jb rfl,JJ hp]
  ·rw[ja hxy]
   unfold qE
   simp[List.find?_append,List.find?_cons,Ne.symm hxy]
 ·rw[vJ hn]
  by_cases hxy:y=x
  ·subst hxy
   rw[jb rfl];have:m.find? (λu=>decide (u.1=y))=none:=by simp;exact λa b hh=>hn (a,b) hh
   simp[qE,List.find?_append,this]
  ·rw[ja hxy]
   unfold qE
   simp[List.find?_append,List.find?_cons,Ne.symm hxy]
theorem re (dim:Int)(a:OA)(c:Nat)(ops:List OV)(A:HL)(h:RdO A a ops)(hn:ops.length≤1000000)(hv:∀o∈ops,o.vec.length≤1000000)(hd: -9223372036854775808≤dim∧dim≤9223372036854775807):
  qh kY 171 [.int .i64 dim,.slice a ops.length c] A (λv L'=>v=.int .i64 (vP dim (ops.map OV.abs))∧L'=A):=by
 unfold vP;rw[jf];refine qg Tryz.func171 rfl rfl rfl ?_
 by_cases h1:dim<1∨8<dim
 ·rw[jb h1]
  by_cases h1a:dim<1
  ·refine Q.r ?_
   exact N.t rfl (kZ _) ⟨rfl,rfl⟩
  ·refine Q.r ?_
   exact N.t rfl (kZ _) ⟨rfl,rfl⟩
 rw[ja h1]
 by_cases h2:ops.length=0
 ·rw[jb h2]
  refine Q.r ?_;exact N.t rfl (kZ _) ⟨rfl,rfl⟩
 rw[ja h2]
 by_cases h3:16<ops.length
 ·rw[jb h3]
  refine Q.r ?_;exact N.t rfl (kZ _) ⟨rfl,rfl⟩
 rw[ja h3];refine Q.r ?_;refine S.mkm U64 Value.bool (λb=> ?_);refine Q.r ?_;refine ql (σ:=Nat×Bool×List (Int×Bool)) (λs=> [(0,.int .i64 dim),(5,.map (some b)),(25,.slice a ops.length c),(26,.int .i64 ops.length),(6,.bool s.2.1),(27,.int .i64 s.1)])
  (λs=>VX U64 Value.bool b s.2.2::A) (λs=>s.1≤ops.length∧qm s.2.2∧(∀y,qE s.2.2 y=if y∈(ops.take s.1).map (·.id) then some true else none)∧s.2.1= !decide (((ops.take s.1).map (·.id)).Nodup)∧(ops.take s.1).any (λo=>Jm dim o.abs)=false)
  (λs=>ops.length - s.1) (0,false,[]) zt (kZ _) ⟨by omega,by simp[qm],by intro y;simp[qE],by simp,by simp⟩ ?_
 rintro ⟨k,tw,m⟩ ⟨k1,k2,k3,k4,k5⟩;dsimp only at k1 k2 k3 k4 k5 ⊢
 by_cases hlt:k<ops.length
 ·obtain ⟨o,ho⟩:=qx hlt
  have hmo:o∈ops:=jn ho;have hlen:=hv o hmo;obtain ⟨b2,o2,rfl,hr⟩:=qY.elem (g:=OV.cells) (λ_=>rfl) h.1 ho rfl;have hbad:Jm dim o.abs=true→(ops.map OV.abs).any (Jm dim)=true:=λhb=>ku.2 ⟨o.abs,jA hmo,hb⟩
  have hall:(ops.map OV.abs).any (Jm dim)=true↔(ops.any λo=>Jm dim o.abs)=true:=by rw[List.any_map];rfl
  repeat (first|(refine GQ.y ?_;refine Q.y ?_)|refine Q.go ?_|(refine GQ.g ?_;refine Q.gq ?_)|(refine GQ.s ?_;refine Q.st ?_)|(refine GQ.a ?_;refine Q.al (λb1=> ?_)))
  refine Q.ct rfl ?_
  repeat (first|(refine GQ.y ?_;refine Q.y ?_)|refine Q.go ?_|(refine GQ.g ?_;refine Q.gq ?_)|(refine GQ.s ?_;refine Q.st ?_)|(refine GQ.a ?_;refine Q.al (λb1=> ?_)))
  refine QQ (σ:=Bool) (λs=> [(0,.int .i64 dim),(5,.map (some b)),(25,.slice (some ⟨b2,o2,none⟩) ops.length c),(26,.int .i64 ops.length),(6,.bool tw),(27,.int .i64 k),(8,.pointer (some ⟨b1,0,none⟩)),(52,.bool s)])
   (λs=>pt b1 (cl o.cells 38)::VX U64 Value.bool b m::A) (λs=>s=Jm dim o.abs) ?_ ?_
  ·by_cases c1:1099511627776<o.id
   ·refine Q.r ?_
    exact ⟨true,zt,kZ _,by simp[Jm,c1]⟩
   by_cases c2:0<o.vec.length
   ·refine Q.r ?_
    refine S.cr rfl (VQ o.a o.c o.vec _ ((h.2 o hmo).sub) zo) ?_;rintro _ _ ⟨rfl,rfl⟩
    cases hrt:wQ o.vec with
    |false=>
     refine Q.r ?_;exact ⟨true,zt,kZ _,by simp[Jm,c1,c2,hrt]⟩
    |true=>
     refine Q.r ?_;exact ⟨_,zt,kZ _,by simp[Jm,c1,c2,hrt]⟩
   ·refine Q.r ?_
    exact ⟨false,zt,kZ _,by simp[Jm,c1,c2]⟩
  intro s hs
  cases s with
  |true=>
   rw[jb (hbad hs.symm)];refine Q.r ?_;exact N.t rfl (qi.drop (qi.drop (kZ _))) ⟨rfl,rfl⟩
  |false=>
   have hex:swp kY Tryz.f171.ntmps Code.skip (λ_ _ _=>True) e0 []:=f9 trivial;clear hex hbad hall;have htk:(ops.take (k+1)).map (·.id)=(ops.take k).map (·.id)++[o.id]:=by rw[qA ho,jq];rfl
   have hnd:((ops.take (k+1)).map (·.id)).Nodup↔((ops.take k).map (·.id)).Nodup∧o.id∉(ops.take k).map (·.id):=by
    rw[htk,List.nodup_append]
    constructor
    ·rintro ⟨a1,_,a2⟩
     exact ⟨a1,λhm=>a2 _ hm _ (by simp) rfl⟩
    ·rintro ⟨a1,a2⟩
     exact ⟨a1,by simp,λx hx y hy e=>by simp at hy;subst hy;exact a2 (e▸hx)⟩
   have hm':∀y,qE (qN m o.id true) y=if y∈(ops.take (k+1)).map (·.id) then some true else none:=λy=>by
    rw[wa k2,htk,k3]
    by_cases hy:y=o.id
    ·subst hy;simp
    ·simp[hy]
   have hb5:(ops.take (k+1)).any (λo=>Jm dim o.abs)=false:=by
    rw[qA ho,kW,k5,kX,←hs];rfl
   cases tw with
   |true=>
    have hd0:¬((ops.take k).map (·.id)).Nodup:=λhh=>by rw[jo hh] at k4;cases k4
    repeat (first|(refine GQ.y ?_;refine Q.y ?_)|refine Q.go ?_|(refine GQ.g ?_;refine Q.gq ?_)|(refine GQ.s ?_;refine Q.st ?_)|(refine GQ.a ?_;refine Q.al (λb1=> ?_)))
    refine S.mu rfl rfl rfl ?_
    repeat (first|(refine GQ.y ?_;refine Q.y ?_)|refine Q.go ?_|(refine GQ.g ?_;refine Q.gq ?_)|(refine GQ.s ?_;refine Q.st ?_)|(refine GQ.a ?_;refine Q.al (λb1=> ?_)))
    exact ⟨(k+1,true,qN m o.id true),zt,qi.drop (kZ _),⟨by dsimp only;omega,vy k2 _ _,hm',by rw[jv (λhh=>hd0 (hnd.1 hh).1)];rfl,hb5⟩,by dsimp only;omega⟩
   |false=>
    have hd0:((ops.take k).map (·.id)).Nodup:=by
     by_cases hh:((ops.take k).map (·.id)).Nodup
     ·exact hh
     ·rw[jv hh] at k4;cases k4
    repeat (first|(refine GQ.y ?_;refine Q.y ?_)|refine Q.go ?_|(refine GQ.g ?_;refine Q.gq ?_)|(refine GQ.s ?_;refine Q.st ?_)|(refine GQ.a ?_;refine Q.al (λb1=> ?_)))
    refine S.y (Y.lk false rfl rfl (λw=>Tryz.zeroValue4 w)) ?_;rw[k3]
    by_cases hin:o.id∈(ops.take k).map (·.id)
    ·rw[jb hin]
     repeat (first|(refine GQ.y ?_;refine Q.y ?_)|refine Q.go ?_|(refine GQ.g ?_;refine Q.gq ?_)|(refine GQ.s ?_;refine Q.st ?_)|(refine GQ.a ?_;refine Q.al (λb1=> ?_)))
     refine S.mu rfl rfl rfl ?_
     repeat (first|(refine GQ.y ?_;refine Q.y ?_)|refine Q.go ?_|(refine GQ.g ?_;refine Q.gq ?_)|(refine GQ.s ?_;refine Q.st ?_)|(refine GQ.a ?_;refine Q.al (λb1=> ?_)))
     exact ⟨(k+1,true,qN m o.id true),zt,qi.drop (kZ _),⟨by dsimp only;omega,vy k2 _ _,hm',by rw[jv (λhh=>(hnd.1 hh).2 hin)];rfl,hb5⟩,by dsimp only;omega⟩
    ·rw[ja hin]
     repeat (first|(refine GQ.y ?_;refine Q.y ?_)|refine Q.go ?_|(refine GQ.g ?_;refine Q.gq ?_)|(refine GQ.s ?_;refine Q.st ?_)|(refine GQ.a ?_;refine Q.al (λb1=> ?_)))
     refine S.mu rfl rfl rfl ?_
     repeat (first|(refine GQ.y ?_;refine Q.y ?_)|refine Q.go ?_|(refine GQ.g ?_;refine Q.gq ?_)|(refine GQ.s ?_;refine Q.st ?_)|(refine GQ.a ?_;refine Q.al (λb1=> ?_)))
     exact ⟨(k+1,false,qN m o.id true),zt,qi.drop (kZ _),⟨by dsimp only;omega,vy k2 _ _,hm',by rw[jo (hnd.2 ⟨hd0,hin⟩)];rfl,hb5⟩,by dsimp only;omega⟩
 ·have hke:k=ops.length:=by omega
  subst hke;rw[jI] at k4 k5;rw[ja (by rw[List.any_map];show ¬(ops.any λo=>Jm dim o.abs)=true;rw[k5];exact Bool.false_ne_true)];have hmm:(ops.map OV.abs).map (·.1)=ops.map (·.id):=by rw[kE];rfl
  rw[hmm]
  by_cases hnd:(ops.map (·.id)).Nodup
  ·rw[jb hnd]
   simp only[hnd,decide_true,jH] at k4;subst k4;refine Q.r ?_;exact N.t rfl (qi.drop (kZ _)) ⟨rfl,rfl⟩
  ·rw[ja hnd]
   simp only[hnd,decide_false,jD] at k4;subst k4;refine Q.r ?_;exact N.t rfl (qi.drop (kZ _)) ⟨rfl,rfl⟩
end Go.Proofs.YtlnfjhiphlfkjaaGreatDoor
namespace Go.SX
open Go
section
variable {P : Program} {n : Nat} {ops rest : List Oper} {Q : vm} {f : vL} {A L : HL} {d : Tmp} {ty : TypeId} {pos : String} {af : Array Edge}
theorem Y.or {x y:Operand}{t t':TypeId}{k:IntKind}{a b:Int}(hx:ev f x=some (.int k a))(hy:ev f y=some (.int k b)):qk P n ops ⟨some d,.binOp .or t x y t',ty,pos,af,none⟩ f A ((.int k (k.wrap ((BitVec.ofInt k.bits a)|||(BitVec.ofInt k.bits b)).toNat))):=Y.of (λ_ w s=>by simp[execOp,s.eval hx,s.eval hy,eqGuard,binOp,Op.intBits])
theorem Y.shrI {x y:Operand}{t t':TypeId}{k k':IntKind}{a:Int}{b:Nat}(hx:ev f x=some (.int k a))(hy:ev f y=some (.int k' (b:Int)))(hb:b≤k.bits):qk P n ops ⟨some d,.binOp .shr t x y t',ty,pos,af,none⟩ f A (.int k (a.fdiv (2^b))):=
 Y.of (fun _ w s => by
  have e1:¬((b:Int)<0):=by omega
  have e2:Min.min b k.bits=b:=Nat.min_eq_left hb
  simp[execOp,s.eval hx,s.eval hy,eqGuard,binOp,Op.shift,e1,e2])
theorem Y.shlI {x y:Operand}{t t':TypeId}{k k':IntKind}{a:Int}{b:Nat}(hx:ev f x=some (.int k a))(hy:ev f y=some (.int k' (b:Int)))(hb:b≤k.bits):qk P n ops ⟨some d,.binOp .shl t x y t',ty,pos,af,none⟩ f A (.int k (k.wrap (a*2^b))):=
 Y.of (fun _ w s => by
  have e1:¬((b:Int)<0):=by omega
  have e2:Min.min b k.bits=b:=Nat.min_eq_left hb;have e4:(Op.shift .shl k a k' (b:Int)).run P w=.ok (.int k (k.wrap (a*2^b))) w:=by
   unfold Op.shift;rw[ja e1];simp only[kz,e2,Sem.run_pure]
  simp[execOp,s.eval hx,s.eval hy,eqGuard,binOp,e4])
end
end Go.SX
namespace Go.Proofs.YtlnfjhiphlfkjaaGreatDoor
open Go Go.SX
attribute [local irreducible] swp qq qL qJ vZ qh St qi qk vu qH
def Ki (n:Nat):List UInt8:=if h:n<128 then [UInt8.ofNat n] else UInt8.ofNat (n % 128+128)::Ki (n / 128)
termination_by n
theorem QS {n:Nat}(h:n<128):Ki n=[UInt8.ofNat n]:=by rw[Ki,dif_pos h]
theorem X6 {n:Nat}(h:¬n<128):Ki n=UInt8.ofNat (n % 128+128)::Ki (n / 128):=by rw[Ki,dif_neg h]
def numI (z:Int):List UInt8:=if z<0 then [UInt8.ofNat (z % 256).toNat] else Ki z.toNat
abbrev wP (w:Nat)(a:OA)(n c:Nat):HP:=pt w (cl [.slice a n c] 139)
def wH (w:Nat)(bs:List UInt8):HP:=d9 λx:OA×Nat=>yA [wP w x.1 bs.length x.2,slO 5 1 x.1 bs.length x.2 (bs.map B)]
theorem cS {w:Nat}{a:OA}{c:Nat}{bs:List UInt8}{L:HL}:qi (wP w a bs.length c::slO 5 1 a bs.length c (bs.map B)::L) (wH w bs::L):=
 qi.trans (qi.shut_all (L:=[_,_])) (qi.shut_ex (P:=λx:OA×Nat=>yA [wP w x.1 bs.length x.2,slO 5 1 x.1 bs.length x.2 (bs.map B)]) (a,c))
theorem sM {g:FuncId}{args:List Value}{R:Value→HL→Prop}{w:Nat}{bs:List UInt8}{L:HL}(h:∀a c,qh kY g args (wP w a bs.length c::slO 5 1 a bs.length c (bs.map B)::L) R):qh kY g args (wH w bs::L) R:=
 qh.ex λx=>qh.all (h x.1 x.2)
theorem u8w (z:Int):IntKind.u8.wrap z=z % 256:=by simp[IntKind.wrap,IntKind.bits,IntKind.signed]
set_option maxRecDepth 100000 in
theorem jIn (m:Nat):IntKind.u8.wrap (((BitVec.ofInt IntKind.u8.bits (IntKind.u8.wrap (m:Int)))|||(BitVec.ofInt IntKind.u8.bits 128)).toNat:Int)=((UInt8.ofNat (m % 128+128)).toNat:Int):=by
 have e1:IntKind.u8.wrap (m:Int)=((m % 256:Nat):Int):=by
  rw[u8w];norm_cast
 have e2:m % 128=m % 256 % 128:=by omega
 rw[e1,e2];have hlt:m % 256<256:=Nat.mod_lt _ zd;generalize m % 256=x at hlt
 show IntKind.u8.wrap (((BitVec.ofInt 8 (x:Int))|||(BitVec.ofInt 8 128)).toNat:Int)=_
 rw[BitVec.toNat_or,show (BitVec.ofInt 8 (x:Int)).toNat=x by simp;omega,show (BitVec.ofInt 8 128).toNat=128 by decide];have e3:x|||128=x % 128+128:=(by decide:∀x,x<256→x|||128=x % 128+128) x hlt
 rw[e3,wrap_u8 zo zo,UInt8.toNat_ofNat'];omega
theorem jG7 (z:Int):IntKind.u8.wrap z=((UInt8.ofNat (z % 256).toNat).toNat:Int):=by
 rw[u8w,UInt8.toNat_ofNat'];omega
theorem rT {z:Int}(h:z<128):numI z=[UInt8.ofNat (z % 256).toNat]:=by
 unfold numI
 split
 ·rfl
 ·rw[QS zo]
  have:(z % 256).toNat=z.toNat:=by omega
  rw[this]
theorem rU {m:Nat}(h:128≤m):numI (m:Int)=UInt8.ofNat (m % 128+128)::numI ((m / 2^7:Nat):Int):=by
 unfold numI;rw[ja zo,ja zo,kz,kz,X6 zo]
theorem gQ :∀(k n:Nat),n<128^(k+1)→(Ki n).length≤k+1
 |0,n,h=>by rw[QS (by simpa using h)];simp
 |k+1,n,h=>by
  by_cases hl:n<128
  ·rw[QS hl];simp
  ·rw[X6 hl,jC]
   have h2:n / 128<128^(k+1):=by
    rw[Nat.div_lt_iff_lt_mul zd];rw[Nat.pow_succ] at h;exact h
   have:=gQ k (n / 128) h2;omega
theorem qr {z:Int}(h:z≤18446744073709551615):(numI z).length≤10:=by
  unfold numI
  split
  · simp
  · exact gQ 9 _ (by have : (128 : Nat) ^ (9 + 1) = 1180591620717411303424 := by decide
                     rw[this];omega)
theorem JR (xs:List UInt8):(xs.map B).all (·.oneCell')=true:=by simp[B,Value.oneCell']
theorem Wv (w:Nat)(bs:List UInt8)(z:Int)(L:HL)(hb:bs.length≤100000000000000)(hz:z≤18446744073709551615):
  qh kY 130 [.pointer (some ⟨w,0,none⟩),.int .u64 z] (wH w bs::L) (λr L'=>r=.tuple #[]∧L'=wH w (bs++numI z)::L):=by
 refine sM λa c=> ?_
 have hnl:=qr hz;refine qg Tryz.func130 rfl rfl rfl ?_;refine Q.r ?_;refine qw (σ:=Int×List UInt8×OA×Nat) (λs=> [(0,.pointer (some ⟨w,0,none⟩)),(1,.int .u64 s.1)]) (λs=>wP w s.2.2.1 s.2.1.length s.2.2.2::slO 5 1 s.2.2.1 s.2.1.length s.2.2.2 (s.2.1.map B)::L)
  (λs=>s.2.1++numI s.1=bs++numI z∧s.1<128∧s.2.1.length≤100000000000010) ?_ ?_
 ·refine ql (σ:=Int×List UInt8×OA×Nat) (λs=> [(0,.pointer (some ⟨w,0,none⟩)),(1,.int .u64 s.1)]) (λs=>wP w s.2.2.1 s.2.1.length s.2.2.2::slO 5 1 s.2.2.1 s.2.1.length s.2.2.2 (s.2.1.map B)::L)
   (λs=>s.2.1++numI s.1=bs++numI z) (λs=>s.1.toNat) (z,bs,a,c) zt (kZ _) rfl ?_
  rintro ⟨y,us,a2,c2⟩ he;dsimp only at he ⊢;have hul:us.length≤100000000000010:=by
   have:=jj List.length he;rw[jc,jc] at this;omega
  by_cases h:128≤y
  ·obtain ⟨m,rfl⟩:∃m:Nat,y=(m:Int):=⟨y.toNat,by omega⟩
   refine Q.r ?_;refine S.y (Y.cvi rfl) ?_;refine S.y (Y.or rfl rfl) ?_;rw[jIn];refine Q.r ?_;(repeat (intro b1;refine Q.r ?_));refine S.app rfl rfl (vG.sl vi.row zr zr) zr zo zo (λa7 c7=> ?_);refine Q.r ?_;refine S.y (Y.shr rfl rfl zd) ?_;refine Q.r ?_;refine ⟨(((m / 2^7:Nat):Int),us++[UInt8.ofNat (m % 128+128)],a7,c7),zt,?_,?_,?_⟩
   ·dsimp only
    rw[qG,jq];exact eG
   ·dsimp only
    rw[←he,rU (m:=m) zo,ju];rfl
   ·dsimp only
    have:m / 2^7<m:=Nat.div_lt_self zo zd;omega
  ·refine Q.r ?_
   exact ⟨(y,us,a2,c2),zt,kZ _,he,by dsimp only;omega,hul⟩
 ·rintro ⟨y,us,a2,c2⟩ ⟨he,hy,hul⟩
  dsimp only at he hy hul ⊢;refine Q.r ?_;refine S.y (Y.cvi rfl) ?_;rw[jG7];refine Q.r ?_;(repeat (intro b1;refine Q.r ?_));refine S.app rfl rfl (vG.sl vi.row zr zr) zr zo zo (λa7 c7=> ?_);refine Q.r ?_;refine N.n0 RV.nil ?_ ⟨rfl,rfl⟩;rw[←he,rT hy];refine qi.trans ?_ (cS (a:=a7) (c:=c7));rw[qG,jq];exact eG
theorem vz (w:Nat)(bs:List UInt8)(a:OA)(c:Nat)(xs:List Int)(L:HL)(h:qY L a xs.length 1 (xs.map U64))(hz:∀z∈xs,z≤18446744073709551615)(hb:bs.length+10*xs.length≤100000000000000):
  qh kY 65 [.pointer (some ⟨w,0,none⟩),.slice a xs.length c] (wH w bs::L) (λr L'=>r=.pointer (some ⟨w,0,none⟩)∧L'=wH w (bs++xs.flatMap numI)::L):=by
 refine qg Tryz.func65 rfl rfl rfl ?_;refine Q.r ?_;refine qw (σ:=Unit) (λ_=> [(0,.pointer (some ⟨w,0,none⟩))]) (λ_=>wH w (bs++xs.flatMap numI)::L) (λ_=>True) ?_ ?_
 ·refine ql (σ:=Nat) (λk=> [(0,.pointer (some ⟨w,0,none⟩)),(9,.slice a xs.length c),(10,.int .i64 xs.length),(11,.int .i64 k)]) (λk=>wH w (bs++(xs.take k).flatMap numI)::L)
   (λk=>k≤xs.length) (λk=>xs.length - k) 0 zt (by simp only[kB,j3,jG];exact kZ _) zo ?_
  intro k hk;have hll:∀k,k≤xs.length→((xs.take k).flatMap numI).length≤10*k:=λk=>by
   induction k with
   |zero=>intro _;simp
   |succ k ih=>
    intro hk;obtain ⟨z,hz1⟩:=qx (l:=xs) (k:=k) zo;rw[qA hz1,kS,jc];have:=ih zo;have:=qr (hz z (jn hz1));simp only[jK,j3,jG];omega
  by_cases hlt:k<xs.length
  ·obtain ⟨z,hz1⟩:=qx hlt
   have hzl:=hz z (jn hz1);have hrs:qY (wH w (bs++(xs.take k).flatMap numI)::L) a xs.length 1 (xs.flatMap cU):=by rw[jGp];exact h.sub
   obtain ⟨b,o,hia,hr⟩:=qY.elem (g:=cU) (λ_=>rfl) hrs hz1 rfl;clear hrs;rw[hia];have:=hll k hk;refine Q.r ?_;refine S.cr rfl (Wv w _ z _ (by rw[jc];omega) hzl) ?_;rintro _ _ ⟨rfl,rfl⟩;refine Q.r ?_;refine ⟨k+1,zt,?_,by omega,by omega⟩;rw[qA hz1,kS,ju];simp only[jK,j3,jG];exact kZ _
  ·have hke:k=xs.length:=by omega
   subst hke;rw[jI];refine Q.r ?_;exact ⟨(),zt,kZ _,trivial⟩
 ·rintro _ _
  refine Q.r ?_;exact N.t rfl (kZ _) ⟨rfl,rfl⟩
def Vq (n:Int):Int:=IntKind.u64.wrap (IntKind.u32.wrap (((BitVec.ofInt IntKind.u32.bits (IntKind.u32.wrap (IntKind.i32.wrap (n*2^1))))^^^(BitVec.ofInt IntKind.u32.bits (IntKind.u32.wrap (n.fdiv (2^31))))).toNat:Int))
theorem nt (z:Int):IntKind.u64.wrap z≤18446744073709551615:=by rw[IntKind.wrap_u64];omega
def wh (v:List Int):List UInt8:=numI (v.length:Int)++v.flatMap λn=>numI (Vq n)
theorem yW (w:Nat)(bs:List UInt8)(b o:Nat)(va:OA)(vc c:Nat)(v:List Int)(L:HL)(h:vi L b o [.slice va v.length vc])(hv:qY L va v.length 1 (v.map zC))(hb:bs.length+10+10*v.length≤100000000000000):
  qh kY 154 [.pointer (some ⟨w,0,none⟩),.slice (some ⟨b,o,none⟩) 1 c] (wH w bs::L) (λr L'=>r=.pointer (some ⟨w,0,none⟩)∧L'=wH w (bs++wh v)::L):=by
 have hll:∀k,k≤v.length→((v.take k).flatMap λn=>numI (Vq n)).length≤10*k:=λk=>by
  induction k with
  |zero=>intro _;simp
  |succ k ih=>
   intro hk;obtain ⟨z,hz1⟩:=qx (l:=v) (k:=k) zo;rw[qA hz1,kS,jc];have:=ih zo;have:(numI (Vq z)).length≤10:=qr (nt _);simp only[jK,j3,jG];omega
 have hl1:=qr (z:=(v.length:Int)) zo;refine qg Tryz.func154 rfl rfl rfl ?_;refine Q.r ?_;refine qw (σ:=Unit) (λ_=> [(0,.pointer (some ⟨w,0,none⟩))]) (λ_=>wH w (bs++wh v)::L) (λ_=>True) ?_ ?_
 ·refine ql (σ:=Nat) (λk=> [(0,.pointer (some ⟨w,0,none⟩)),(11,.slice (some ⟨b,o,none⟩) 1 c),(12,.int .i64 1),(13,.int .i64 k)]) (λk=>wH w (if k=0 then bs else bs++wh v)::L)
   (λk=>k≤1) (λk=>1 - k) 0 zt (kZ _) zo ?_
  intro k hk
  by_cases hk0:k=0
  ·subst hk0
   rw[jb rfl];have hr:vi (wH w bs::L) b (o+0*1) [.slice va v.length vc]:=by
    rw[Nat.zero_mul,Nat.add_zero];exact h.sub
   refine Q.r ?_;refine S.y (Y.cvi rfl) ?_;rw[wrap_u64 zo zo];refine S.cr rfl (Wv w _ (v.length:Int) _ zo zo) ?_;rintro _ _ ⟨rfl,rfl⟩;refine Q.r ?_;refine ql (σ:=Nat) (λm=> [(0,.pointer (some ⟨w,0,none⟩)),(11,.slice (some ⟨b,o,none⟩) 1 c),(12,.int .i64 1),(13,.int .i64 0),(22,.slice va v.length vc),(23,.int .i64 v.length),(24,.int .i64 m)]) (λm=>wH w (bs++numI v.length++(v.take m).flatMap λn=>numI (Vq n))::L)
    (λm=>m≤v.length) (λm=>v.length - m) 0 zt (by simp only[kB,j3,jG];exact kZ _) zo ?_
   intro m hm
   by_cases hmt:m<v.length
   ·obtain ⟨z,hz1⟩:=qx hmt
    have hrs:qY (wH w (bs++numI v.length++(v.take m).flatMap λn=>numI (Vq n))::L) va v.length 1 (v.flatMap cI):=by rw[d6];exact hv.sub
    obtain ⟨b2,o2,hia,hr2⟩:=qY.elem (g:=cI) (λ_=>rfl) hrs hz1 rfl;clear hrs;rw[hia];have:=hll m hm;refine Q.r ?_;refine S.y (Y.shlI (b:=1) rfl rfl zd) ?_;refine S.y (Y.cvi rfl) ?_;refine Q.r ?_;refine S.y (Y.shrI (b:=31) rfl rfl zd) ?_;refine S.y (Y.cvi rfl) ?_;refine S.y (Y.xor rfl rfl) ?_;refine S.y (Y.cvi rfl) ?_;refine S.cr (args:=[.pointer (some ⟨w,0,none⟩),.int .u64 (Vq z)]) rfl (Wv w _ (Vq z) _ (by rw[jc,jc];omega) (nt _)) ?_;rintro _ _ ⟨rfl,rfl⟩;refine Q.r ?_;refine ⟨m+1,⟨rfl,rfl,rfl,rfl,by first|rfl|(rw[←hia];rfl),rfl,rfl,trivial⟩,?_,by omega,by omega⟩;rw[qA hz1,kS,ju (bs++numI v.length)];simp only[jK,j3,jG];exact kZ _
   ·have hme:m=v.length:=by omega
    subst hme;rw[jI];refine Q.r ?_;refine ⟨1,zt,?_,by omega,by omega⟩;rw[ja zd];unfold wh;rw[←ju];exact kZ _
  ·have hk1:k=1:=by omega
   subst hk1;rw[ja zd];refine Q.r ?_;exact ⟨(),zt,kZ _,trivial⟩
 ·rintro _ _
  refine Q.r ?_;exact N.t rfl (kZ _) ⟨rfl,rfl⟩
theorem mM (a:OA)(c:Nat)(bs:List UInt8)(A:HL)(h:qY A a bs.length 1 (bs.map B))(hn:bs.length≤140737488355328):
  qh kY 135 [.slice a bs.length c] A (λv L'=>∃a' c',v=.slice a' bs.length c'∧L'=slO 5 1 a' bs.length c' (bs.map B)::A):=by
 refine qg Tryz.func135 rfl rfl rfl ?_
 cases a with
 |none=>
  have hx:bs=[]:=by
   rcases h.2 with h0|⟨_,_,h0,_⟩
   ·exact jO h0
   ·cases h0
  subst hx;refine Q.r ?_;exact N.t rfl vj ⟨none,0,rfl,rfl⟩
 |some ad=>
  refine Q.r ?_;(repeat (intro b1;refine Q.r ?_));refine qo (vg (sz:=1) (m:=0) rfl) ?_;refine S.app0 rfl rfl rfl (vG.rd h.sub (JR _)) zr zo zo (λa5 c5=> ?_);refine Q.r ?_;exact N.t rfl (kZ _) ⟨a5,c5,rfl,rfl⟩
theorem W7 (w:Nat)(bs:List UInt8)(L:HL)(hb:bs.length≤140737488355328):
  qh kY 69 [.pointer (some ⟨w,0,none⟩)] (wH w bs::L) (λr L'=>∃a c,r=.slice a bs.length c∧L'=slO 5 1 a bs.length c (bs.map B)::wH w bs::L):=by
 refine sM λa c=> ?_
 refine qg Tryz.func69 rfl rfl rfl ?_;refine Q.r ?_;refine qZ a (λha=> ?_);refine S.cr rfl (mM a c bs _ (qY.slO (t:=5) (c:=c) (L1:=wP w a bs.length c::L) (qi.perm (.swap _ _ _)) (by simp) ha) hb) ?_;rintro _ _ ⟨a',c',rfl,rfl⟩;refine Q.r ?_;refine N.t rfl (qi.cons cS) ⟨a',c',rfl,rfl⟩
structure VS where
 dim:Int
 ch:List (Int×VL)
 its:List (Int×Int×VL)
 mark:Int
abbrev CR :=Int×Nat×VL
structure VOK (M:OM)(st:VS)(cs:List CR)(is:List IV):Prop where
 ch:cs.map (λc=>(c.1,c.2.2))=st.ch
 its:is.map IV.abs=st.its
 ok:∀i∈is,okI M i
 k1:qm st.ch
 k2:qm st.its
section
variable {n : Nat} {ops rest : List Oper} {cd : Code} {Q : vm} {f : vL} {L L0 : HL} {st : VS}
end
def jFk (st:VS):Prop:=∀i∈st.its,i.2.2.length≤1000000
theorem VOK.ops {M:OM}{st:VS}{cs:List CR}{is:List IV}(h:VOK M st cs is)(hl:jFk st):∀i∈is,i.ops.length≤1000000:=λi hi=>by
 have:=hl i.abs (by rw[←h.its];exact jA hi)
 simpa using this
def Jx (us:List OV):HP:=ZT 21 (us.map λo=>(o.a,o.c,o.vec.map zC))
theorem Z5 {us:List OV}{o:OV}{m:Nat}{L:HL}(hm:m=o.vec.length):qi (slO 21 1 o.a m o.c (o.vec.map zC)::Jx us::L) (Jx (us++[o])::L):=by
 unfold Jx;rw[jq,jL,kC];exact jAE (by simp[hm])
theorem hU {κ α:Type}[DecidableEq κ]{m:List (κ×α)}{x:κ}(h:qE m x=none):∀u∈m,u.1≠x:=λu hu e=>by
 unfold qE at h;rw[Option.map_eq_none_iff,List.find?_eq_none] at h;exact h u hu (by simpa using e)
def zy (st:VS)(txn after:Int)(ops:VL):Int:=
 if 1099511627776<after then 1 else if vP st.dim ops≠0 then vP st.dim ops else if (qE st.its txn).isSome then 7 else if ops.any λo=>st.its.any λi=>yx i.2.2 o.1 then 11 else 0
def xI (st:VS)(txn after:Int)(ops:VL):VS:=if zy st txn after ops=0 then {st with its:=st.its++[(txn,after,ops)]} else st
def xe (ch:List (Int×VL))(id:Int):VL:=(qE ch id).getD []
def Vx (s:Int)(ch:List (Int×VL))(o:Int×List Int):List (Int×VL):=qN ch o.1 (xe ch o.1++[(s,o.2)])
def yz (s:Int)(ch:List (Int×VL))(ops:VL):List (Int×VL):=ops.foldl (Vx s) ch
def yy (st:VS)(txn s:Int):Int:=
 match qE st.its txn with
 |none=>if s=0∨1099511627776<s then 1 else 6
 |some i=>if s=0∨1099511627776<s∨s≤i.1 then 1 else if i.2.any λo=>decide (s≤Jh (xe st.ch o.1)) then 7 else if s≤st.mark then 12 else 0
def xf (st:VS)(txn s:Int):VS:=
 match qE st.its txn with
 |none=>st
 |some i=>if yy st txn s=0 then {st with ch:=yz s st.ch i.2,its:=qO st.its txn} else st
structure WF (st:VS)(n:Nat):Prop where
 d1:1≤st.dim
 d2:st.dim≤8
 il:st.its.length≤n
 io:∀i∈st.its,i.2.2.length≤16∧(i.2.2.map (·.1)).Nodup∧∀o∈i.2.2,o.2.length≤8∧(0<o.2.length→wQ o.2=true)
 cl:st.ch.length≤16*n
 co:∀c∈st.ch,vS c.2∧c.2.length≤n∧∀v∈c.2,v.2.length≤8
theorem WF.ops {st:VS}{n:Nat}(h:WF st n):jFk st:=λi hi=>by have:=(h.io i hi).1;omega
theorem vM {κ α:Type}[DecidableEq κ]{m:List (κ×α)}{x:κ}{a:α}(h:qE m x=some a):(x,a)∈m:=by
 unfold qE at h;obtain ⟨p,hp,hx⟩:=Option.map_eq_some_iff.1 h;have h1:=List.mem_of_find?_eq_some hp;have h2:=List.find?_some hp;have h3:p.1=x:=by simpa using h2
 subst hx h3;exact h1
theorem Ka {ch:List (Int×VL)}(h:qm ch)(s:Int)(o:Int×List Int):qm (Vx s ch o):=vy h _ _
theorem cC {s:Int}:∀{ops:VL} {ch:List (Int×VL)},qm ch→qm (yz s ch ops)
 | [],_,h=>h
 |o::ops,_,h=>cC (ops:=ops) (Ka h s o)
theorem lc {s:Int}{id:Int}:∀{ops:VL} {ch:List (Int×VL)},qm ch→id∉ops.map (·.1)→qE (yz s ch ops) id=qE ch id
 | [],_,_,_=>rfl
 |o::ops,ch,h,hn=>by
  simp only[jL,j9,not_or] at hn;have:=lc (s:=s) (ops:=ops) (Ka h s o) hn.2
  show qE (yz s (Vx s ch o) ops) id=_
  rw[this];unfold Vx;rw[wa h,ja hn.1]
theorem Zj {s:Int}:∀{ops:VL} {ch:List (Int×VL)},qm ch→(yz s ch ops).length≤ch.length+ops.length
 | [],_,_=>jz _
 |o::ops,ch,h=>by
  have h1:=Zj (s:=s) (ops:=ops) (Ka h s o);have h2:(Vx s ch o).length≤ch.length+1:=by
   unfold Vx
   rcases wJ ch h o.1 with ⟨p,b,q,rfl,hp,hq⟩|hn
   ·rw[wv hp hq];simp
   ·rw[vJ hn];simp
  show (yz s (Vx s ch o) ops).length≤_
  simp only[jC];omega
structure AtC (ch:List (Int×VL))(id:Int)(p q:List CR)(b:Nat)(vs:VL):Prop where
 hv:vs=xe ch id
 hp:∀u∈p,u.1≠id
 hq:∀u∈q,u.1≠id
 put:∀w,(p++(id,b,w)::q).map (λc=>(c.1,c.2.2))=qN ch id w
theorem AtC.some {p q:List CR}{id:Int}{b:Nat}{vs:VL}(hp:∀u∈p,u.1≠id)(hq:∀u∈q,u.1≠id):AtC ((p++(id,b,vs)::q).map λc=>(c.1,c.2.2)) id p q b vs:=by
 have h1:∀u∈p.map (λc:CR=>(c.1,c.2.2)),u.1≠id:=λu hu=>by obtain ⟨w,hw,rfl⟩:=jM.1 hu;exact hp w hw
 have h2:∀u∈q.map (λc:CR=>(c.1,c.2.2)),u.1≠id:=λu hu=>by obtain ⟨w,hw,rfl⟩:=jM.1 hu;exact hq w hw
 refine ⟨?_,hp,hq,λw=> ?_⟩
 ·unfold xe
  rw[jq,jL,JJ h1];rfl
 ·rw[jq,jq,jL,jL,wv h1 h2]
theorem AtC.none {cs:List CR}{id:Int}{b:Nat}(hn:∀u∈cs,u.1≠id):AtC (cs.map λc=>(c.1,c.2.2)) id cs [] b []:=by
 have h1:∀u∈cs.map (λc:CR=>(c.1,c.2.2)),u.1≠id:=λu hu=>by obtain ⟨w,hw,rfl⟩:=jM.1 hu;exact hn w hw
 refine ⟨?_,hn,by simp,λw=> ?_⟩
 ·unfold xe
  rw[wX h1];rfl
 ·rw[jq,vJ h1];rfl
attribute [local irreducible] zN
end Go.Proofs.YtlnfjhiphlfkjaaGreatDoor
namespace Go.Proofs.YtlnfjhiphlfkjaaGreatDoor
open Go Go.SX
attribute [local irreducible] swp qq qL qJ vZ qh St qi qk vu qH
attribute [local irreducible] ar
abbrev AR (bk:Nat)(d:Array Int)(rs:List Value):HP:=pt bk (cl (ar .u64 d rs) 31)
abbrev SV (bk n c:Nat):Value:=.slice (some ⟨bk,0,none⟩) n c
theorem wj (x y:Int)(L:HL):qh kY 227 [.int .u64 x,.int .u64 y] L (λv L'=>v=.bool (Sort.ltInt x y)∧L'=L):=by
 have nan:∀z,qh kY 258 [.int .u64 z] L (λv L'=>v=.bool false∧L'=L):=λz=>by
  refine qg Tryz.func258 rfl rfl rfl ?_;refine Q.r ?_;exact N.t rfl (kZ _) ⟨by simp[Xj],rfl⟩
 refine qg Tryz.func227 rfl rfl rfl ?_;refine Q.r ?_;refine S.cr rfl (nan x) ?_;rintro _ _ ⟨rfl,rfl⟩;refine Q.r ?_;exact N.t rfl (kZ _) ⟨rfl,rfl⟩
theorem VE (bk n c a b:Nat)(d:Array Int)(rs:List Value)(L:HL)(hd:d.size=n)(ha:a≤n)(hb:b≤n)(hn:n≤4611686018427387904):
  qh kY 221 [SV bk n c,.int .i64 a,.int .i64 b] (AR bk d rs::L) (λv L'=>v=.tuple #[]∧L'=AR bk (Sort.insertionSort Sort.ltInt d a b) rs::L):=by
 refine qg Tryz.func221 rfl rfl rfl ?_;refine Q.rn ?_;refine ql (σ:=Nat×Array Int) (λs=> [(0,SV bk n c),(1,.int .i64 a),(2,.int .i64 b),(6,.int .i64 s.1)]) (λs=>AR bk s.2 rs::L)
  (λs=>a+1≤s.1∧s.1≤n+1∧s.2.size=n∧Sort.insOuter Sort.ltInt a b s.1 s.2=Sort.insertionSort Sort.ltInt d a b) (λs=>b - s.1) (a+1,d) zt eG ⟨jz _,by dsimp only;omega,hd,rfl⟩ ?_
 rintro ⟨i,e⟩ ⟨h1,h2,h3,h4⟩;dsimp only at h1 h2 h3 h4 ⊢;rw[Sort.insOuter] at h4
 by_cases hi:i<b
 ·rw[jb hi] at h4
  refine Q.rn ?_;refine ql (σ:=Nat×Array Int) (λs=> [(0,SV bk n c),(1,.int .i64 a),(2,.int .i64 b),(6,.int .i64 i),(7,.int .i64 s.1)]) (λs=>AR bk s.2 rs::L)
   (λs=>s.1≤i∧s.2.size=n∧Sort.insInner Sort.ltInt a s.1 s.2=Sort.insInner Sort.ltInt a i e) (λs=>s.1) (i,e) zt eG ⟨jz _,h3,rfl⟩ ?_
  rintro ⟨j,g⟩ ⟨g1,g2,g3⟩;dsimp only at g1 g2 g3 ⊢
  by_cases hj:a<j
  ·obtain ⟨k,rfl⟩:∃k,j=k+1:=⟨j - 1,by omega⟩
   rw[Sort.insInner,show decide (k+1>a)=true by simpa using hj,jJ] at g3;refine Q.rn ?_;refine Q.dgo [true] [13] [] [0,1,2,3,4,5,6,7,8,9,10,11,12,13,14] ?_;refine Q.rdn ?_;refine D.e rfl rfl rfl ?_;refine S.guard rfl ?_;refine S.cr rfl (wj _ _ _) ?_;rintro _ M ⟨rfl,rfl⟩
   cases hl:Sort.ltInt g[k+1]! g[k]! with
   |false=>
    rw[show k+1 - 1=k from rfl,hl];rw[hl] at g3;refine Q.rn ?_;refine Q.rdn ?_;refine Q.rn ?_;refine ⟨(i+1,g),zt,by exact eG,⟨by dsimp only;omega,by dsimp only;omega,g2,?_⟩,by dsimp only;omega⟩;simp only[kb,if_false] at g3;rw[g3];exact h4
   |true=>
    rw[show k+1 - 1=k from rfl,hl];rw[hl] at g3;refine Q.rn ?_;refine Q.rdn ?_;refine Q.rn ?_;refine Q.dgo [true] [15,17] [15] [0,1,2,3,4,5,6,7,8,9,10,11,12,13,14,15,16,17] ?_;refine Q.rdn ?_;refine Q.dc rfl rfl rfl rfl ?_;refine Q.rn ?_;refine Q.rdn ?_;refine D.e rfl rfl rfl ?_;refine Q.rn ?_;refine Q.rdn ?_;refine Q.rn ?_;simp only[if_true] at g3;exact ⟨(k,Sort.swp g (k+1) k),zt,kZ _,⟨by dsimp only;omega,by rw[vR];exact g2,g3⟩,by dsimp only;omega⟩
  ·have hgg:Sort.insInner Sort.ltInt a j g=g:=by
    cases j with
    |zero=>rfl
    |succ j=>rw[Sort.insInner,show decide (j+1>a)=false by simpa using hj];simp
   rw[hgg] at g3;refine Q.rn ?_;refine Q.dgo [true] [13] [] [0,1,2,3,4,5,6,7,8,9,10,11,12,13,14] ?_;refine Q.rdn ?_;refine Q.rn ?_;exact ⟨(i+1,g),zt,kZ _,⟨by dsimp only;omega,by dsimp only;omega,g2,by dsimp only;rw[g3];exact h4⟩,by dsimp only;omega⟩
 ·rw[ja hi] at h4
  subst h4;refine Q.rn ?_;exact N.n0 RV.nil (kZ _) ⟨rfl,rfl⟩
theorem Ve (bk n c lo hi first:Nat)(d:Array Int)(rs:List Value)(L:HL)(hd:d.size=n)(hlo:lo≤hi)(hb:first+hi≤n)(hn:n≤17592186044416):
  qh kY 255 [SV bk n c,.int .i64 lo,.int .i64 hi,.int .i64 first] (AR bk d rs::L) (λv L'=>v=.tuple #[]∧L'=AR bk (Sort.siftDown Sort.ltInt hi first lo d) rs::L):=by
 refine qg Tryz.func255 rfl rfl rfl ?_;refine Q.rn ?_;refine ql (σ:=Nat×Array Int) (λs=> [(0,SV bk n c),(2,.int .i64 hi),(3,.int .i64 first),(8,.int .i64 s.1)]) (λs=>AR bk s.2 rs::L)
  (λs=>s.1≤hi∧s.2.size=n∧Sort.siftDown Sort.ltInt hi first s.1 s.2=Sort.siftDown Sort.ltInt hi first lo d) (λs=>hi - s.1) (lo,d) zt eG ⟨hlo,hd,rfl⟩ ?_
 rintro ⟨r,e⟩ ⟨h1,h2,h3⟩;dsimp only at h1 h2 h3 ⊢;rw[Sort.siftDown] at h3
 by_cases hr:2*r+1≥hi
 ·rw[dif_pos hr] at h3
  subst h3;refine Q.rn ?_;exact N.n0 RV.nil (kZ _) ⟨rfl,rfl⟩
 rw[dif_neg hr] at h3;refine Q.rn ?_;refine vo (σ:=Bool) (λs=> [(0,SV bk n c),(2,.int .i64 hi),(3,.int .i64 first),(8,.int .i64 r),(9,.int .i64 (2*r+1:Nat)),(36,.bool s)]) (λs=>AR bk e rs::L)
  (λs=>s=(decide (2*r+1+1<hi)&&Sort.ltInt e[first+(2*r+1)]! e[first+(2*r+1)+1]!)) ?_ ?_
 ·by_cases hc:2*r+1+1<hi
  ·refine Q.dgo [true] [18] [] [0,1,2,3,4,5,6,7,8,9,10,11,12,13,14,15,16,17,18,19] ?_
   refine Q.rdn ?_;refine D.e rfl rfl rfl ?_;refine S.guard rfl ?_;refine S.cr rfl (wj _ _ _) ?_;rintro _ M ⟨rfl,rfl⟩;refine Q.rn ?_;refine Q.rdn ?_
   first|refine N.tn ?_|skip
   exact ⟨_,zt,kZ _,by simp[hc]⟩
  ·refine Q.dgo [true] [18] [] [0,1,2,3,4,5,6,7,8,9,10,11,12,13,14,15,16,17,18,19] ?_
   refine Q.rdn ?_
   first|refine N.tn ?_|skip
   exact ⟨false,zt,kZ _,by simp[hc]⟩
 intro s hs;refine vo (σ:=Nat) (λch=> [(0,SV bk n c),(2,.int .i64 hi),(3,.int .i64 first),(8,.int .i64 r),(9,.int .i64 ch)]) (λ_=>AR bk e rs::L)
  (λch=>ch<hi∧r<ch∧(if (!Sort.ltInt e[first+r]! e[first+ch]!)=true then e else Sort.siftDown Sort.ltInt hi first ch (Sort.swp e (first+r) (first+ch)))=Sort.siftDown Sort.ltInt hi first lo d) ?_ ?_
 ·rw[←hs] at h3
  cases s with
  |true=>
   have hc:2*r+1+1<hi:=by
    by_cases hc:2*r+1+1<hi
    ·exact hc
    ·simp[hc] at hs
   rw[jb rfl,dif_pos (show 2*r+2<hi from hc)] at h3;refine Q.rn ?_
   first|refine N.tn ?_|skip
   exact ⟨2*r+1+1,zt,kZ _,hc,by omega,h3⟩
  |false=>
   simp only[kb,if_false] at h3;refine Q.rn ?_
   first|refine N.tn ?_|skip
   exact ⟨2*r+1,zt,kZ _,by omega,by omega,h3⟩
 rintro ch ⟨c1,c2,c3⟩;clear hs h3;refine Q.rn ?_;refine Q.dgo [true] [12] [] [0,1,2,3,4,5,6,7,8,9,10,11,12,13] ?_;refine Q.rdn ?_;refine D.e rfl rfl rfl ?_;refine S.cr rfl (wj _ _ _) ?_;rintro _ M ⟨rfl,rfl⟩
 cases hl:Sort.ltInt e[first+r]! e[first+ch]! with
 |false=>
  rw[hl] at c3;simp only[jD,if_true] at c3;subst c3;refine Q.rn ?_;refine Q.rdn ?_;refine Q.rn ?_;exact N.r0 RV.nil (kZ _) ⟨rfl,rfl⟩
 |true=>
  rw[hl] at c3;simp only[jH,kb,if_false] at c3;refine Q.rn ?_;refine Q.rdn ?_;refine Q.rn ?_;refine Q.dgo [true] [21,23] [21] [0,1,2,3,4,5,6,7,8,9,10,11,12,13,14,15,16,17,18,19,20,21,22,23] ?_;refine Q.rdn ?_;refine Q.dc rfl rfl rfl rfl ?_;refine Q.rn ?_;refine Q.rdn ?_;refine D.e rfl rfl rfl ?_;refine Q.rn ?_;refine Q.rdn ?_;refine Q.rn ?_;exact ⟨(ch,Sort.swp e (first+r) (first+ch)),zt,kZ _,⟨by dsimp only;omega,by rw[vR];exact h2,c3⟩,by dsimp only;omega⟩
theorem Vf :∀(hi first root:Nat) (d:Array Int),(Sort.siftDown Sort.ltInt hi first root d).size=d.size:=by
 intro hi first root d
 induction h:hi - root using Nat.strongRecOn generalizing root d with
 |_ k ih=>
  rw[Sort.siftDown]
  split
  ·rfl
  ·split
   ·split
    ·rfl
    ·split
     ·rw[ih _ zo _ _ rfl,vR]
     ·rfl
   ·split
    ·rfl
    ·rw[ih _ zo _ _ rfl,vR]
theorem ZN (bk n c a b:Nat)(d:Array Int)(rs:List Value)(L:HL)(hd:d.size=n)(ha:a<b)(hb:b≤n)(hn:n≤17592186044416):
  qh kY 222 [SV bk n c,.int .i64 a,.int .i64 b] (AR bk d rs::L) (λv L'=>v=.tuple #[]∧L'=AR bk (Sort.heapSort Sort.ltInt d a b) rs::L):=by
 refine qg Tryz.func222 rfl rfl rfl ?_;refine Q.rn ?_;have hsub:∀k:Nat,((k+1:Nat):Int) - 1=(k:Int):=λk=>by omega
 refine qw (σ:=Array Int) (λ_=> [(0,SV bk n c),(6,.int .i64 a),(7,.int .i64 (0:Nat)),(8,.int .i64 (b - a:Nat))]) (λe=>AR bk e rs::L)
  (λe=>e.size=n∧e=Sort.heapBuild Sort.ltInt (b - a) a ((b - a - 1) / 2+1) d) ?_ ?_
 ·refine ql (σ:=Nat×Array Int) (λs=> [(0,SV bk n c),(6,.int .i64 a),(7,.int .i64 (0:Nat)),(8,.int .i64 (b - a:Nat)),(9,.int .i64 ((s.1:Int) - 1))]) (λs=>AR bk s.2 rs::L)
   (λs=>s.1≤b - a∧s.2.size=n∧Sort.heapBuild Sort.ltInt (b - a) a s.1 s.2=Sort.heapBuild Sort.ltInt (b - a) a ((b - a - 1) / 2+1) d) (λs=>s.1) ((b - a - 1) / 2+1,d) ⟨rfl,rfl,rfl,rfl,jj some (jj (Value.int .i64) zo),trivial⟩ eG ⟨by dsimp only;omega,hd,rfl⟩ ?_
  rintro ⟨k,e⟩ ⟨h1,h2,h3⟩;dsimp only at h1 h2 h3 ⊢
  cases k with
  |zero=>
   refine Q.rn ?_;exact ⟨e,zt,kZ _,h2,h3⟩
  |succ k=>
   rw[hsub];refine Q.rn ?_;refine S.cr rfl (Ve bk n c k (b - a) a e rs L h2 zo zo hn) ?_;rintro _ _ ⟨rfl,rfl⟩;refine Q.rn ?_;exact ⟨(k,_),zt,kZ _,⟨by dsimp only;omega,by rw[Vf];exact h2,h3⟩,by dsimp only;omega⟩
 rintro e ⟨h2,rfl⟩;refine Q.rn ?_;refine ql (σ:=Nat×Array Int) (λs=> [(0,SV bk n c),(6,.int .i64 a),(7,.int .i64 (0:Nat)),(10,.int .i64 ((s.1:Int) - 1))]) (λs=>AR bk s.2 rs::L)
  (λs=>s.1≤b - a∧s.2.size=n∧Sort.heapPop Sort.ltInt a s.1 s.2=Sort.heapSort Sort.ltInt d a b) (λs=>s.1) (b - a,Sort.heapBuild Sort.ltInt (b - a) a ((b - a - 1) / 2+1) d) ⟨rfl,rfl,rfl,jj some (jj (Value.int .i64) zo),trivial⟩ eG ⟨jz _,h2,rfl⟩ ?_
 clear h2;rintro ⟨k,e⟩ ⟨h1,h2,h3⟩;dsimp only at h1 h2 h3 ⊢
 cases k with
 |zero=>
  refine Q.rn ?_;exact N.n0 RV.nil (kZ _) ⟨rfl,by rw[←h3];rfl⟩
 |succ k=>
  rw[hsub];refine Q.rn ?_;refine Q.dgo [true] [17,19] [17] [0,1,2,3,4,5,6,7,8,9,10,11,12,13,14,15,16,17,18,19] ?_;refine Q.rdn ?_;refine Q.dc rfl rfl rfl rfl ?_;refine Q.rn ?_;refine Q.rdn ?_;refine D.e rfl rfl rfl ?_;refine Q.rn ?_;refine Q.rdn ?_;refine Q.rn ?_;refine S.cr rfl (Ve bk n c 0 k a (Sort.swp e a (a+k)) rs L (by rw[vR];exact h2) zo zo hn) ?_;rintro _ _ ⟨rfl,rfl⟩;refine Q.rn ?_;exact ⟨(k,_),zt,kZ _,⟨by dsimp only;omega,by rw[Vf,vR];exact h2,h3⟩,by dsimp only;omega⟩
theorem V4 (bk n c a b:Nat)(d:Array Int)(rs:List Value)(L:HL)(hd:d.size=n)(ha:a<b)(hb:b≤n)(hn:n≤17592186044416):
  qh kY 225 [SV bk n c,.int .i64 a,.int .i64 b] (AR bk d rs::L) (λv L'=>v=.tuple #[]∧L'=AR bk (Sort.reverseRange d a b) rs::L):=by
 refine qg Tryz.func225 rfl rfl rfl ?_;refine Q.rn ?_;refine ql (σ:=Nat×Nat×Array Int) (λs=> [(0,SV bk n c),(6,.int .i64 s.1),(7,.int .i64 s.2.1)]) (λs=>AR bk s.2.2 rs::L)
  (λs=>s.1≤b∧s.2.1<b∧s.2.2.size=n∧Sort.reverseLoop s.1 s.2.1 s.2.2=Sort.reverseRange d a b) (λs=>s.2.1 - s.1) (a,b - 1,d) zt eG ⟨by dsimp only;omega,by dsimp only;omega,hd,rfl⟩ ?_
 rintro ⟨i,j,e⟩ ⟨h1,h2,h3,h4⟩;dsimp only at h1 h2 h3 h4 ⊢;rw[Sort.reverseLoop] at h4
 by_cases hij:i<j
 ·rw[jb hij] at h4
  refine Q.rn ?_;refine Q.dgo [true] [13,15] [13] [0,1,2,3,4,5,6,7,8,9,10,11,12,13,14,15] ?_;refine Q.rdn ?_;refine Q.dc rfl rfl rfl rfl ?_;refine Q.rn ?_;refine Q.rdn ?_;refine D.e rfl rfl rfl ?_;refine Q.rn ?_;refine Q.rdn ?_;refine Q.rn ?_;exact ⟨(i+1,j - 1,Sort.swp e i j),zt,kZ _,⟨by dsimp only;omega,by dsimp only;omega,by rw[vR];exact h3,h4⟩,by dsimp only;omega⟩
 ·rw[ja hij] at h4
  subst h4;refine Q.rn ?_;exact N.n0 RV.nil (kZ _) ⟨rfl,rfl⟩
theorem Wx (p:Int→Bool)(d:Array Int)(j i:Nat):i≤Sort.scanUp p d j i∧(Sort.scanUp p d j i≤i∨Sort.scanUp p d j i≤j+1):=by
 induction h:j+1 - i using Nat.strongRecOn generalizing i with
 |_ k ih=>
  rw[Sort.scanUp]
  split
  ·rename_i hc
   simp only[jF,jS] at hc;have:=ih _ zo (i+1) rfl;omega
  ·omega
theorem Jz (p:Int→Bool)(d:Array Int)(i:Nat):∀j,Sort.scanDown p d i j≤j∧(i≤Sort.scanDown p d i j+1∨Sort.scanDown p d i j=j)
 |0=>by simp[Sort.scanDown]
 |j+1=>by
  rw[Sort.scanDown]
  split
  ·rename_i hc
   simp only[jF,jS] at hc;have:=Jz p d i j;omega
  ·omega
theorem YF (bk n c a b pv:Nat)(d:Array Int)(rs:List Value)(L:HL)(hd:d.size=n)(ha:a≤pv)(hp:pv<b)(hb:b≤n)(hn:n≤17592186044416):
  qh kY 229 [SV bk n c,.int .i64 a,.int .i64 b,.int .i64 pv] (AR bk d rs::L)
   (λv L'=>v=.tuple #[.int .i64 (Sort.partition Sort.ltInt d a b pv).1,.bool (Sort.partition Sort.ltInt d a b pv).2.1]∧L'=AR bk (Sort.partition Sort.ltInt d a b pv).2.2 rs::L):=by
 refine qg Tryz.func229 rfl rfl rfl ?_;refine Q.rn ?_;refine Q.dgo [true] [13,15] [13] [0,1,2,3,4,5,6,7,8,9,10,11,12,13,14,15] ?_;(refine Q.rdn ?_);refine Q.dc rfl rfl rfl rfl ?_;(refine Q.rn ?_);(refine Q.rdn ?_);refine D.e rfl rfl rfl ?_;(refine Q.rn ?_);(refine Q.rdn ?_);(refine Q.rn ?_);have he:(Sort.swp d a pv).size=n:=by rw[vR];exact hd
 obtain ⟨e,hee⟩:∃e,e=Sort.swp d a pv:=⟨_,rfl⟩;obtain ⟨i0,hi0⟩:∃i0,i0=Sort.scanUp (λx=>Sort.ltInt x e[a]!) e (b - 1) (a+1):=⟨_,rfl⟩;obtain ⟨j0,hj0⟩:∃j0,j0=Sort.scanDown (λx=> !Sort.ltInt x e[a]!) e i0 (b - 1):=⟨_,rfl⟩;have hpart:Sort.partition Sort.ltInt d a b pv=(if i0>j0 then (j0,true,Sort.swp e j0 a) else ((Sort.partLoop Sort.ltInt a (i0+1) (j0 - 1) (Sort.swp e i0 j0)).1,false,Sort.swp (Sort.partLoop Sort.ltInt a (i0+1) (j0 - 1) (Sort.swp e i0 j0)).2 (Sort.partLoop Sort.ltInt a (i0+1) (j0 - 1) (Sort.swp e i0 j0)).1 a)):=by
  subst hee hj0 hi0;rfl
 rw[←hee] at he;rw[hpart];clear hpart;have bi:=Wx (λx=>Sort.ltInt x e[a]!) e (b - 1) (a+1);have bj:=Jz (λx=> !Sort.ltInt x e[a]!) e i0 (b - 1);rw[←hi0] at bi;rw[←hj0] at bj;refine qw (σ:=Unit) (λ_=> [(0,SV bk n c),(1,.int .i64 a),(10,.int .i64 i0),(11,.int .i64 (b - 1:Nat))]) (λ_=>AR bk e rs::L) (λ_=>True) ?_ ?_
 ·refine ql (σ:=Nat) (λs=> [(0,SV bk n c),(1,.int .i64 a),(10,.int .i64 s),(11,.int .i64 (b - 1:Nat))]) (λs=>AR bk e rs::L)
   (λs=>a+1≤s∧Sort.scanUp (λx=>Sort.ltInt x e[a]!) e (b - 1:Nat) s=i0) (λs=>(b - 1:Nat)+1 - s) (a+1) zt (by rw[hee];exact kZ _) ⟨jz _,hi0.symm⟩ ?_
  rintro i ⟨g1,g3⟩;rw[Sort.scanUp] at g3
  by_cases hi:i≤(b - 1:Nat)
  ·refine Q.rn ?_
   refine Q.dgo [true] [12] [] [0,1,2,3,4,5,6,7,8,9,10,11,12,13] ?_;refine Q.rdn ?_;refine D.e rfl rfl rfl ?_;refine S.guard rfl ?_;refine S.cr rfl (wj _ _ _) ?_;rintro _ M ⟨rfl,rfl⟩;rw[show decide (i≤(b - 1:Nat))=true by simpa using hi,jJ] at g3
   cases hl:Sort.ltInt e[i]! e[a]! with
   |true=>
    rw[hl] at g3;simp only[jD,jH,if_true] at g3;refine Q.rn ?_;refine Q.rdn ?_;refine Q.rn ?_;exact ⟨i+1,zt,kZ _,⟨by omega,g3⟩,by omega⟩
   |false=>
    rw[hl] at g3;simp only[jD,jH,kb,if_false] at g3;refine Q.rn ?_;refine Q.rdn ?_;refine Q.rn ?_;exact ⟨(),⟨rfl,rfl,by rw[g3];rfl,rfl,trivial⟩,kZ _,trivial⟩
  ·rw[show decide (i≤(b - 1:Nat))=false by simpa using hi,jN] at g3
   simp only[kb,if_false] at g3;refine Q.rn ?_;refine Q.dgo [true] [12] [] [0,1,2,3,4,5,6,7,8,9,10,11,12,13] ?_;refine Q.rdn ?_;refine Q.rn ?_;exact ⟨(),⟨rfl,rfl,by rw[g3];rfl,rfl,trivial⟩,kZ _,trivial⟩
 rintro _ _;refine Q.rn ?_;refine qw (σ:=Unit) (λ_=> [(0,SV bk n c),(1,.int .i64 a),(10,.int .i64 i0),(11,.int .i64 j0)]) (λ_=>AR bk e rs::L) (λ_=>True) ?_ ?_
 ·refine ql (σ:=Nat) (λs=> [(0,SV bk n c),(1,.int .i64 a),(10,.int .i64 i0),(11,.int .i64 s)]) (λs=>AR bk e rs::L)
   (λs=>s≤(b - 1:Nat)∧Sort.scanDown (λx=> !Sort.ltInt x e[a]!) e i0 s=j0) (λs=>s) ((b - 1:Nat)) zt (kZ _) ⟨jz _,hj0.symm⟩ ?_
  rintro j ⟨g1,g3⟩
  by_cases hi:i0≤j
  ·obtain ⟨k,rfl⟩:∃k,j=k+1:=⟨j - 1,by omega⟩
   rw[Sort.scanDown] at g3;refine Q.rn ?_;refine Q.dgo [true] [12] [] [0,1,2,3,4,5,6,7,8,9,10,11,12,13,14] ?_;refine Q.rdn ?_;refine D.e rfl rfl rfl ?_;refine S.guard rfl ?_;refine S.cr rfl (wj _ _ _) ?_;rintro _ M ⟨rfl,rfl⟩;rw[show decide (i0≤k+1)=true by simpa using hi,jJ] at g3
   cases hl:Sort.ltInt e[k+1]! e[a]! with
   |false=>
    rw[hl] at g3;simp only[jD,jH,if_true] at g3;refine Q.rn ?_;refine Q.rdn ?_;refine Q.rn ?_;exact ⟨k,zt,kZ _,⟨by omega,g3⟩,by omega⟩
   |true=>
    rw[hl] at g3;simp only[jD,jH,kb,if_false] at g3;refine Q.rn ?_;refine Q.rdn ?_;refine Q.rn ?_;exact ⟨(),⟨rfl,rfl,rfl,by rw[←g3];rfl,trivial⟩,kZ _,trivial⟩
  ·have g4:j=j0:=by
    rw[←g3]
    cases j with
    |zero=>rfl
    |succ j=>rw[Sort.scanDown,show decide (i0≤j+1)=false by simpa using hi];simp
   refine Q.rn ?_;refine Q.dgo [true] [12] [] [0,1,2,3,4,5,6,7,8,9,10,11,12,13,14] ?_;refine Q.rdn ?_;refine Q.rn ?_;exact ⟨(),⟨rfl,rfl,rfl,by rw[g4];rfl,trivial⟩,kZ _,trivial⟩
 rintro _ _
 by_cases hgt:i0>j0
 ·rw[jb hgt]
  refine Q.rn ?_;refine Q.dgo [true] [13,15] [13] [0,1,2,3,4,5,6,7,8,9,10,11,12,13,14,15] ?_;(refine Q.rdn ?_);refine Q.dc rfl rfl rfl rfl ?_;(refine Q.rn ?_);(refine Q.rdn ?_);refine D.e rfl rfl rfl ?_;(refine Q.rn ?_);(refine Q.rdn ?_);(refine Q.rn ?_);exact N.u rfl rfl (kZ _) ⟨rfl,rfl⟩
 rw[ja hgt];refine Q.rn ?_;refine Q.dgo [true] [13,15] [13] [0,1,2,3,4,5,6,7,8,9,10,11,12,13,14,15] ?_;(refine Q.rdn ?_);refine Q.dc rfl rfl rfl rfl ?_;(refine Q.rn ?_);(refine Q.rdn ?_);refine D.e rfl rfl rfl ?_;(refine Q.rn ?_);(refine Q.rdn ?_);(refine Q.rn ?_);obtain ⟨pr,hpr⟩:∃pr,pr=Sort.partLoop Sort.ltInt a (i0+1) (j0 - 1) (Sort.swp e i0 j0):=⟨_,rfl⟩;rw[←hpr];refine qw (σ:=Unit) (λ_=> [(0,SV bk n c),(1,.int .i64 a),(11,.int .i64 pr.1)]) (λ_=>AR bk pr.2 rs::L) (λ_=>pr.1<b∧pr.2.size=n) ?_ ?_
 ·refine ql (σ:=Nat×Nat×Array Int) (λs=> [(0,SV bk n c),(1,.int .i64 a),(10,.int .i64 s.1),(11,.int .i64 s.2.1)]) (λs=>AR bk s.2.2 rs::L)
   (λs=>a+1≤s.1∧s.1≤b+1∧s.2.1<b∧s.2.2.size=n∧Sort.partLoop Sort.ltInt a s.1 s.2.1 s.2.2=pr) (λs=>s.2.1+1 - s.1) (i0+1,j0 - 1,Sort.swp e i0 j0) zt (kZ _) ⟨by dsimp only;omega,by dsimp only;omega,by dsimp only;omega,by rw[vR];exact he,hpr.symm⟩ ?_
  clear hpr hgt bj bi hj0 hi0 hee he e i0 j0;rintro ⟨i1,j1,e⟩ ⟨k1,k2,k3,he,k5⟩;dsimp only at k1 k2 k3 he k5 ⊢;obtain ⟨i0,hi0⟩:∃i0,i0=Sort.scanUp (λx=>Sort.ltInt x e[a]!) e j1 i1:=⟨_,rfl⟩;obtain ⟨j0,hj0⟩:∃j0,j0=Sort.scanDown (λx=> !Sort.ltInt x e[a]!) e i0 j1:=⟨_,rfl⟩;have bi:=Wx (λx=>Sort.ltInt x e[a]!) e j1 i1;have bj:=Jz (λx=> !Sort.ltInt x e[a]!) e i0 j1;rw[←hi0] at bi;rw[←hj0] at bj;rw[Sort.partLoop] at k5;simp only[←hi0,←hj0] at k5;refine Q.rn ?_;refine qw (σ:=Unit) (λ_=> [(0,SV bk n c),(1,.int .i64 a),(10,.int .i64 i0),(11,.int .i64 j1)]) (λ_=>AR bk e rs::L) (λ_=>True) ?_ ?_
  ·refine ql (σ:=Nat) (λs=> [(0,SV bk n c),(1,.int .i64 a),(10,.int .i64 s),(11,.int .i64 j1)]) (λs=>AR bk e rs::L)
    (λs=>i1≤s∧Sort.scanUp (λx=>Sort.ltInt x e[a]!) e j1 s=i0) (λs=>j1+1 - s) (i1) zt (kZ _) ⟨jz _,hi0.symm⟩ ?_
   rintro i ⟨g1,g3⟩;rw[Sort.scanUp] at g3
   by_cases hi:i≤j1
   ·refine Q.rn ?_
    refine Q.dgo [true] [12] [] [0,1,2,3,4,5,6,7,8,9,10,11,12,13] ?_;refine Q.rdn ?_;refine D.e rfl rfl rfl ?_;refine S.guard rfl ?_;refine S.cr rfl (wj _ _ _) ?_;rintro _ M ⟨rfl,rfl⟩;rw[show decide (i≤j1)=true by simpa using hi,jJ] at g3
    cases hl:Sort.ltInt e[i]! e[a]! with
    |true=>
     rw[hl] at g3;simp only[jD,jH,if_true] at g3;refine Q.rn ?_;refine Q.rdn ?_;refine Q.rn ?_;exact ⟨i+1,zt,kZ _,⟨by omega,g3⟩,by omega⟩
    |false=>
     rw[hl] at g3;simp only[jD,jH,kb,if_false] at g3;refine Q.rn ?_;refine Q.rdn ?_;refine Q.rn ?_;exact ⟨(),⟨rfl,rfl,by rw[g3];rfl,rfl,trivial⟩,kZ _,trivial⟩
   ·rw[show decide (i≤j1)=false by simpa using hi,jN] at g3
    simp only[kb,if_false] at g3;refine Q.rn ?_;refine Q.dgo [true] [12] [] [0,1,2,3,4,5,6,7,8,9,10,11,12,13] ?_;refine Q.rdn ?_;refine Q.rn ?_;exact ⟨(),⟨rfl,rfl,by rw[g3];rfl,rfl,trivial⟩,kZ _,trivial⟩
  rintro _ _;refine Q.rn ?_;refine qw (σ:=Unit) (λ_=> [(0,SV bk n c),(1,.int .i64 a),(10,.int .i64 i0),(11,.int .i64 j0)]) (λ_=>AR bk e rs::L) (λ_=>True) ?_ ?_
  ·refine ql (σ:=Nat) (λs=> [(0,SV bk n c),(1,.int .i64 a),(10,.int .i64 i0),(11,.int .i64 s)]) (λs=>AR bk e rs::L)
    (λs=>s≤j1∧Sort.scanDown (λx=> !Sort.ltInt x e[a]!) e i0 s=j0) (λs=>s) (j1) zt (kZ _) ⟨jz _,hj0.symm⟩ ?_
   rintro j ⟨g1,g3⟩
   by_cases hi:i0≤j
   ·obtain ⟨k,rfl⟩:∃k,j=k+1:=⟨j - 1,by omega⟩
    rw[Sort.scanDown] at g3;refine Q.rn ?_;refine Q.dgo [true] [12] [] [0,1,2,3,4,5,6,7,8,9,10,11,12,13,14] ?_;refine Q.rdn ?_;refine D.e rfl rfl rfl ?_;refine S.guard rfl ?_;refine S.cr rfl (wj _ _ _) ?_;rintro _ M ⟨rfl,rfl⟩;rw[show decide (i0≤k+1)=true by simpa using hi,jJ] at g3
    cases hl:Sort.ltInt e[k+1]! e[a]! with
    |false=>
     rw[hl] at g3;simp only[jD,jH,if_true] at g3;refine Q.rn ?_;refine Q.rdn ?_;refine Q.rn ?_;exact ⟨k,zt,kZ _,⟨by omega,g3⟩,by omega⟩
    |true=>
     rw[hl] at g3;simp only[jD,jH,kb,if_false] at g3;refine Q.rn ?_;refine Q.rdn ?_;refine Q.rn ?_;exact ⟨(),⟨rfl,rfl,rfl,by rw[←g3];rfl,trivial⟩,kZ _,trivial⟩
   ·have g4:j=j0:=by
     rw[←g3]
     cases j with
     |zero=>rfl
     |succ j=>rw[Sort.scanDown,show decide (i0≤j+1)=false by simpa using hi];simp
    refine Q.rn ?_;refine Q.dgo [true] [12] [] [0,1,2,3,4,5,6,7,8,9,10,11,12,13,14] ?_;refine Q.rdn ?_;refine Q.rn ?_;exact ⟨(),⟨rfl,rfl,rfl,by rw[g4];rfl,trivial⟩,kZ _,trivial⟩
  rintro _ _
  by_cases hgt:i0>j0
  ·rw[jb hgt] at k5
   subst k5;refine Q.rn ?_;exact ⟨(),zt,kZ _,by dsimp only;omega,he⟩
  rw[ja hgt,dif_pos zo] at k5;refine Q.rn ?_;refine Q.dgo [true] [13,15] [13] [0,1,2,3,4,5,6,7,8,9,10,11,12,13,14,15] ?_;(refine Q.rdn ?_);refine Q.dc rfl rfl rfl rfl ?_;(refine Q.rn ?_);(refine Q.rdn ?_);refine D.e rfl rfl rfl ?_;(refine Q.rn ?_);(refine Q.rdn ?_);(refine Q.rn ?_);exact ⟨(i0+1,j0 - 1,Sort.swp e i0 j0),zt,kZ _,⟨by dsimp only;omega,by dsimp only;omega,by dsimp only;omega,by rw[vR];exact he,k5⟩,by dsimp only;omega⟩
 rintro _ ⟨hpb,hps⟩;refine Q.rn ?_;refine Q.dgo [true] [13,15] [13] [0,1,2,3,4,5,6,7,8,9,10,11,12,13,14,15] ?_;(refine Q.rdn ?_);refine Q.dc rfl rfl rfl rfl ?_;(refine Q.rn ?_);(refine Q.rdn ?_);refine D.e rfl rfl rfl ?_;(refine Q.rn ?_);(refine Q.rdn ?_);(refine Q.rn ?_);exact N.u rfl rfl (kZ _) ⟨rfl,rfl⟩
theorem Q5 (bk n c a b pv:Nat)(d:Array Int)(rs:List Value)(L:HL)(hd:d.size=n)(ha:a≤pv)(hp:pv<b)(hb:b≤n)(hn:n≤17592186044416):
  qh kY 228 [SV bk n c,.int .i64 a,.int .i64 b,.int .i64 pv] (AR bk d rs::L)
   (λv L'=>v=.int .i64 (Sort.partitionEqual Sort.ltInt d a b pv).1∧L'=AR bk (Sort.partitionEqual Sort.ltInt d a b pv).2 rs::L):=by
 refine qg Tryz.func228 rfl rfl rfl ?_;refine Q.rn ?_;refine Q.dgo [true] [13,15] [13] [0,1,2,3,4,5,6,7,8,9,10,11,12,13,14,15] ?_;(refine Q.rdn ?_);refine Q.dc rfl rfl rfl rfl ?_;(refine Q.rn ?_);(refine Q.rdn ?_);refine D.e rfl rfl rfl ?_;(refine Q.rn ?_);(refine Q.rdn ?_);(refine Q.rn ?_);obtain ⟨pr,hpr⟩:∃pr,pr=Sort.partitionEqual Sort.ltInt d a b pv:=⟨_,rfl⟩;rw[←hpr];refine qw (σ:=Unit) (λ_=> [(9,.int .i64 pr.1)]) (λ_=>AR bk pr.2 rs::L) (λ_=>True) ?_ ?_
 ·refine ql (σ:=Nat×Nat×Array Int) (λs=> [(0,SV bk n c),(1,.int .i64 a),(9,.int .i64 s.1),(10,.int .i64 s.2.1)]) (λs=>AR bk s.2.2 rs::L)
   (λs=>a+1≤s.1∧s.1≤b+1∧s.2.1<b∧s.2.2.size=n∧Sort.partEqLoop Sort.ltInt a s.1 s.2.1 s.2.2=pr) (λs=>s.2.1+1 - s.1) (a+1,b - 1,Sort.swp d a pv) zt (kZ _) ⟨by dsimp only;omega,by dsimp only;omega,by dsimp only;omega,by rw[vR];exact hd,hpr.symm⟩ ?_
  clear hpr;rintro ⟨i1,j1,e⟩ ⟨k1,k2,k3,he,k5⟩;dsimp only at k1 k2 k3 he k5 ⊢;obtain ⟨i0,hi0⟩:∃i0,i0=Sort.scanUp (λx=> !Sort.ltInt e[a]! x) e j1 i1:=⟨_,rfl⟩;obtain ⟨j0,hj0⟩:∃j0,j0=Sort.scanDown (λx=>Sort.ltInt e[a]! x) e i0 j1:=⟨_,rfl⟩;have bi:=Wx (λx=> !Sort.ltInt e[a]! x) e j1 i1;have bj:=Jz (λx=>Sort.ltInt e[a]! x) e i0 j1;rw[←hi0] at bi;rw[←hj0] at bj;rw[Sort.partEqLoop] at k5;simp only[←hi0,←hj0] at k5;refine Q.rn ?_;refine qw (σ:=Unit) (λ_=> [(0,SV bk n c),(1,.int .i64 a),(9,.int .i64 i0),(10,.int .i64 j1)]) (λ_=>AR bk e rs::L) (λ_=>True) ?_ ?_
  ·refine ql (σ:=Nat) (λs=> [(0,SV bk n c),(1,.int .i64 a),(9,.int .i64 s),(10,.int .i64 j1)]) (λs=>AR bk e rs::L)
    (λs=>i1≤s∧Sort.scanUp (λx=> !Sort.ltInt e[a]! x) e j1 s=i0) (λs=>j1+1 - s) (i1) zt (kZ _) ⟨jz _,hi0.symm⟩ ?_
   rintro i ⟨g1,g3⟩;rw[Sort.scanUp] at g3
   by_cases hi:i≤j1
   ·refine Q.rn ?_
    refine Q.dgo [true] [12] [] [0,1,2,3,4,5,6,7,8,9,10,11,12,13,14] ?_;refine Q.rdn ?_;refine D.e rfl rfl rfl ?_;refine S.guard rfl ?_;refine S.cr rfl (wj _ _ _) ?_;rintro _ M ⟨rfl,rfl⟩;rw[show decide (i≤j1)=true by simpa using hi,jJ] at g3
    cases hl:Sort.ltInt e[a]! e[i]! with
    |false=>
     rw[hl] at g3;simp only[jD,jH,if_true] at g3;refine Q.rn ?_;refine Q.rdn ?_;refine Q.rn ?_;exact ⟨i+1,zt,kZ _,⟨by omega,g3⟩,by omega⟩
    |true=>
     rw[hl] at g3;simp only[jD,jH,kb,if_false] at g3;refine Q.rn ?_;refine Q.rdn ?_;refine Q.rn ?_;exact ⟨(),⟨rfl,rfl,by rw[g3];rfl,rfl,trivial⟩,kZ _,trivial⟩
   ·rw[show decide (i≤j1)=false by simpa using hi,jN] at g3
    simp only[kb,if_false] at g3;refine Q.rn ?_;refine Q.dgo [true] [12] [] [0,1,2,3,4,5,6,7,8,9,10,11,12,13,14] ?_;refine Q.rdn ?_;refine Q.rn ?_;exact ⟨(),⟨rfl,rfl,by rw[g3];rfl,rfl,trivial⟩,kZ _,trivial⟩
  rintro _ _;refine Q.rn ?_;refine qw (σ:=Unit) (λ_=> [(0,SV bk n c),(1,.int .i64 a),(9,.int .i64 i0),(10,.int .i64 j0)]) (λ_=>AR bk e rs::L) (λ_=>True) ?_ ?_
  ·refine ql (σ:=Nat) (λs=> [(0,SV bk n c),(1,.int .i64 a),(9,.int .i64 i0),(10,.int .i64 s)]) (λs=>AR bk e rs::L)
    (λs=>s≤j1∧Sort.scanDown (λx=>Sort.ltInt e[a]! x) e i0 s=j0) (λs=>s) (j1) zt (kZ _) ⟨jz _,hj0.symm⟩ ?_
   rintro j ⟨g1,g3⟩
   by_cases hi:i0≤j
   ·obtain ⟨k,rfl⟩:∃k,j=k+1:=⟨j - 1,by omega⟩
    rw[Sort.scanDown] at g3;refine Q.rn ?_;refine Q.dgo [true] [12] [] [0,1,2,3,4,5,6,7,8,9,10,11,12,13] ?_;refine Q.rdn ?_;refine D.e rfl rfl rfl ?_;refine S.guard rfl ?_;refine S.cr rfl (wj _ _ _) ?_;rintro _ M ⟨rfl,rfl⟩;rw[show decide (i0≤k+1)=true by simpa using hi,jJ] at g3
    cases hl:Sort.ltInt e[a]! e[k+1]! with
    |true=>
     rw[hl] at g3;simp only[jD,jH,if_true] at g3;refine Q.rn ?_;refine Q.rdn ?_;refine Q.rn ?_;exact ⟨k,zt,kZ _,⟨by omega,g3⟩,by omega⟩
    |false=>
     rw[hl] at g3;simp only[jD,jH,kb,if_false] at g3;refine Q.rn ?_;refine Q.rdn ?_;refine Q.rn ?_;exact ⟨(),⟨rfl,rfl,rfl,by rw[←g3];rfl,trivial⟩,kZ _,trivial⟩
   ·have g4:j=j0:=by
     rw[←g3]
     cases j with
     |zero=>rfl
     |succ j=>rw[Sort.scanDown,show decide (i0≤j+1)=false by simpa using hi];simp
    refine Q.rn ?_;refine Q.dgo [true] [12] [] [0,1,2,3,4,5,6,7,8,9,10,11,12,13] ?_;refine Q.rdn ?_;refine Q.rn ?_;exact ⟨(),⟨rfl,rfl,rfl,by rw[g4];rfl,trivial⟩,kZ _,trivial⟩
  rintro _ _
  by_cases hgt:i0>j0
  ·rw[jb hgt] at k5
   subst k5;refine Q.rn ?_;exact ⟨(),zt,kZ _,trivial⟩
  rw[ja hgt,dif_pos zo] at k5;refine Q.rn ?_;refine Q.dgo [true] [13,15] [13] [0,1,2,3,4,5,6,7,8,9,10,11,12,13,14,15] ?_;(refine Q.rdn ?_);refine Q.dc rfl rfl rfl rfl ?_;(refine Q.rn ?_);(refine Q.rdn ?_);refine D.e rfl rfl rfl ?_;(refine Q.rn ?_);(refine Q.rdn ?_);(refine Q.rn ?_);exact ⟨(i0+1,j0 - 1,Sort.swp e i0 j0),zt,kZ _,⟨by dsimp only;omega,by dsimp only;omega,by dsimp only;omega,by rw[vR];exact he,k5⟩,by dsimp only;omega⟩
 rintro _ _;refine Q.rn ?_;exact N.t rfl (kZ _) ⟨rfl,rfl⟩
theorem ZI (d:Array Int)(b i:Nat)(h:i≤b):i≤Sort.scanSorted Sort.ltInt d b i∧Sort.scanSorted Sort.ltInt d b i≤b:=by
 induction hk:b - i using Nat.strongRecOn generalizing i with
 |_ k ih=>
  rw[Sort.scanSorted]
  split
  ·rename_i hc
   simp only[jF,jS] at hc;have:=ih _ zo (i+1) zo rfl;omega
  ·omega
theorem Qa :∀(j:Nat) (d:Array Int),(Sort.shiftDown Sort.ltInt j d).size=d.size
 |0,d=>rfl
 |j+1,d=>by
  rw[Sort.shiftDown]
  split
  ·rfl
  ·rw[Qa j,vR]
theorem dq (b j:Nat)(d:Array Int):(Sort.shiftUp Sort.ltInt b j d).size=d.size:=by
 induction hk:b - j using Nat.strongRecOn generalizing j d with
 |_ k ih=>
  rw[Sort.shiftUp]
  split
  ·split
   ·rfl
   ·rw[ih _ zo (j+1) _ rfl,vR]
  ·rfl
theorem Jt (bk n c a b:Nat)(d:Array Int)(rs:List Value)(L:HL)(hd:d.size=n)(ha:a<b)(hb:b≤n)(hn:n≤17592186044416):
  qh kY 226 [SV bk n c,.int .i64 a,.int .i64 b] (AR bk d rs::L)
   (λv L'=>v=.bool (Sort.partialInsertionSort Sort.ltInt d a b).2∧L'=AR bk (Sort.partialInsertionSort Sort.ltInt d a b).1 rs::L):=by
 refine qg Tryz.func226 rfl rfl rfl ?_;refine Q.rn ?_;refine ql (σ:=Nat×Nat×Array Int) (λs=> [(0,SV bk n c),(1,.int .i64 a),(2,.int .i64 b),(7,.int .i64 s.2.1),(8,.int .i64 ((5 - s.1:Nat):Int))]) (λs=>AR bk s.2.2 rs::L)
  (λs=>s.1≤5∧a+1≤s.2.1∧s.2.1≤b∧s.2.2.size=n∧Sort.partialIns Sort.ltInt a b s.1 s.2.1 s.2.2=Sort.partialInsertionSort Sort.ltInt d a b) (λs=>s.1) (5,a+1,d) zt (kZ _) ⟨jz _,by dsimp only;omega,by dsimp only;omega,hd,rfl⟩ ?_
 rintro ⟨st,i0,e⟩ ⟨h1,h2,h3,h4,h5⟩;dsimp only at h1 h2 h3 h4 h5 ⊢
 cases st with
 |zero=>
  rw[Sort.partialIns] at h5;rw[←h5];refine Q.rn ?_;exact N.t rfl (kZ _) ⟨rfl,rfl⟩
 |succ st=>
 obtain ⟨k,hk⟩:∃k,k=5 - (st+1):=⟨_,rfl⟩;rw[←hk];have hk5:k<5:=by omega
 rw[Sort.partialIns] at h5;obtain ⟨i1,hi1⟩:∃i1,i1=Sort.scanSorted Sort.ltInt e b i0:=⟨_,rfl⟩;have bi:=ZI e b i0 h3;rw[←hi1] at bi;simp only[←hi1] at h5;refine Q.rn ?_;refine qw (σ:=Unit) (λ_=> [(0,SV bk n c),(1,.int .i64 a),(2,.int .i64 b),(7,.int .i64 i1),(8,.int .i64 k)]) (λ_=>AR bk e rs::L) (λ_=>True) ?_ ?_
 ·refine ql (σ:=Nat) (λs=> [(0,SV bk n c),(1,.int .i64 a),(2,.int .i64 b),(7,.int .i64 s),(8,.int .i64 k)]) (λs=>AR bk e rs::L)
   (λs=>a+1≤s∧s≤b∧Sort.scanSorted Sort.ltInt e b s=i1) (λs=>b - s) i0 zt (kZ _) ⟨h2,h3,hi1.symm⟩ ?_
  rintro i ⟨g1,g2,g3⟩;rw[Sort.scanSorted] at g3
  by_cases hi:i<b
  ·refine Q.rn ?_
   refine Q.dgo [true] [13] [] [0,1,2,3,4,5,6,7,8,9,10,11,12,13,14,15] ?_;refine Q.rdn ?_;refine D.e rfl rfl rfl ?_;refine S.guard rfl ?_;refine S.cr rfl (wj _ _ _) ?_;rintro _ M ⟨rfl,rfl⟩;rw[show decide (i<b)=true by simpa using hi,jJ] at g3
   cases hl:Sort.ltInt e[i]! e[i - 1]! with
   |false=>
    rw[hl] at g3;simp only[jD,if_true] at g3;refine Q.rn ?_;refine Q.rdn ?_;refine Q.rn ?_;exact ⟨i+1,zt,kZ _,⟨by omega,by omega,g3⟩,by omega⟩
   |true=>
    rw[hl] at g3;simp only[jH,kb,if_false] at g3;refine Q.rn ?_;refine Q.rdn ?_;refine Q.rn ?_;exact ⟨(),⟨rfl,rfl,rfl,by rw[g3];rfl,rfl,trivial⟩,kZ _,trivial⟩
  ·rw[show decide (i<b)=false by simpa using hi,jN] at g3
   simp only[kb,if_false] at g3;refine Q.rn ?_;refine Q.dgo [true] [13] [] [0,1,2,3,4,5,6,7,8,9,10,11,12,13,14,15] ?_;refine Q.rdn ?_;refine Q.rn ?_;exact ⟨(),⟨rfl,rfl,rfl,by rw[g3];rfl,rfl,trivial⟩,kZ _,trivial⟩
 rintro _ _
 by_cases hib:i1=b
 ·rw[jb hib] at h5
  rw[←h5];refine Q.rn ?_;exact N.t rfl (kZ _) ⟨rfl,rfl⟩
 rw[ja hib] at h5
 by_cases h50:b - a<50
 ·rw[jb h50] at h5
  rw[←h5];refine Q.rn ?_;exact N.t rfl (kZ _) ⟨rfl,rfl⟩
 rw[ja h50] at h5;refine Q.rn ?_;refine Q.dgo [true] [15,17] [15] [0,1,2,3,4,5,6,7,8,9,10,11,12,13,14,15,16,17] ?_;(refine Q.rdn ?_);refine Q.dc rfl rfl rfl rfl ?_;(refine Q.rn ?_);(refine Q.rdn ?_);refine D.e rfl rfl rfl ?_;(refine Q.rn ?_);(refine Q.rdn ?_);(refine Q.rn ?_);have hes:(Sort.swp e i1 (i1 - 1)).size=n:=by rw[vR];exact h4
 obtain ⟨e1,he1⟩:∃e1,e1=(if i1 - a≥2 then Sort.shiftDown Sort.ltInt (i1 - 1) (Sort.swp e i1 (i1 - 1)) else Sort.swp e i1 (i1 - 1)):=⟨_,rfl⟩;have he1s:e1.size=n:=by rw[he1];split<;>first|(rw[Qa];exact hes)|exact hes
 rw[←he1] at h5;refine vo (σ:=Unit) (λ_=> [(0,SV bk n c),(1,.int .i64 a),(2,.int .i64 b),(7,.int .i64 i1),(8,.int .i64 k)]) (λ_=>AR bk e1 rs::L) (λ_=>True) ?_ ?_
 ·by_cases h2a:i1 - a≥2
  ·rw[jb h2a] at he1
   refine Q.rn ?_;refine ql (σ:=Nat×Array Int) (λs=> [(0,SV bk n c),(1,.int .i64 a),(2,.int .i64 b),(7,.int .i64 i1),(8,.int .i64 k),(9,.int .i64 s.1)]) (λs=>AR bk s.2 rs::L)
    (λs=>s.1<b∧s.2.size=n∧Sort.shiftDown Sort.ltInt s.1 s.2=e1) (λs=>s.1) (i1 - 1,Sort.swp e i1 (i1 - 1)) zt (kZ _) ⟨by dsimp only;omega,hes,he1.symm⟩ ?_
   rintro ⟨j,g⟩ ⟨g1,g2,g3⟩;dsimp only at g1 g2 g3 ⊢
   cases j with
   |zero=>
    rw[Sort.shiftDown] at g3;subst g3;refine Q.rn ?_;exact ⟨(),zt,kZ _,trivial⟩
   |succ j=>
    rw[Sort.shiftDown] at g3;refine Q.rn ?_;refine Q.dgo [true] [9] [] [0,1,2,3,4,5,6,7,8,9,10] ?_;refine Q.rdn ?_;refine D.e rfl rfl rfl ?_;refine S.cr rfl (wj _ _ _) ?_;rintro _ M ⟨rfl,rfl⟩
    cases hl:Sort.ltInt g[j+1]! g[j]! with
    |false=>
     rw[hl] at g3;simp only[jD,if_true] at g3;rw[show j+1 - 1=j from rfl,hl];subst g3;refine Q.rn ?_;refine Q.rdn ?_;refine Q.rn ?_;exact ⟨(),zt,kZ _,trivial⟩
    |true=>
     rw[hl] at g3;simp only[jH,kb,if_false] at g3;rw[show j+1 - 1=j from rfl,hl];refine Q.rn ?_;refine Q.rdn ?_;refine Q.rn ?_;refine Q.dgo [true] [15,17] [15] [0,1,2,3,4,5,6,7,8,9,10,11,12,13,14,15,16,17] ?_;(refine Q.rdn ?_);refine Q.dc rfl rfl rfl rfl ?_;(refine Q.rn ?_);(refine Q.rdn ?_);refine D.e rfl rfl rfl ?_;(refine Q.rn ?_);(refine Q.rdn ?_);(refine Q.rn ?_);exact ⟨(j,Sort.swp g (j+1) j),zt,kZ _,⟨by dsimp only;omega,by rw[vR];exact g2,g3⟩,by dsimp only;omega⟩
  ·rw[ja h2a] at he1
   subst he1;refine Q.rn ?_
   first|refine N.tn ?_|skip
   exact ⟨(),zt,kZ _,trivial⟩
 rintro _ _;clear he1 hes;obtain ⟨e2,he2⟩:∃e2,e2=(if b - i1≥2 then Sort.shiftUp Sort.ltInt b (i1+1) e1 else e1):=⟨_,rfl⟩;have he2s:e2.size=n:=by rw[he2];split<;>first|(rw[dq];exact he1s)|exact he1s
 rw[←he2] at h5;refine Q.rn ?_;refine qw (σ:=Unit) (λ_=> [(0,SV bk n c),(1,.int .i64 a),(2,.int .i64 b),(7,.int .i64 i1),(8,.int .i64 k)]) (λ_=>AR bk e2 rs::L) (λ_=>True) ?_ ?_
 ·by_cases h2b:b - i1≥2
  ·rw[jb h2b] at he2
   refine Q.rn ?_;refine ql (σ:=Nat×Array Int) (λs=> [(0,SV bk n c),(1,.int .i64 a),(2,.int .i64 b),(7,.int .i64 i1),(8,.int .i64 k),(10,.int .i64 s.1)]) (λs=>AR bk s.2 rs::L)
    (λs=>1≤s.1∧s.1≤b∧s.2.size=n∧Sort.shiftUp Sort.ltInt b s.1 s.2=e2) (λs=>b - s.1) (i1+1,e1) zt (kZ _) ⟨by dsimp only;omega,by dsimp only;omega,he1s,he2.symm⟩ ?_
   rintro ⟨j,g⟩ ⟨g0,g1,g2,g3⟩;dsimp only at g0 g1 g2 g3 ⊢;rw[Sort.shiftUp] at g3
   by_cases hj:j<b
   ·rw[jb hj] at g3
    refine Q.rn ?_;refine Q.dgo [true] [9] [] [0,1,2,3,4,5,6,7,8,9,10] ?_;refine Q.rdn ?_;refine D.e rfl rfl rfl ?_;refine S.cr rfl (wj _ _ _) ?_;rintro _ M ⟨rfl,rfl⟩
    cases hl:Sort.ltInt g[j]! g[j - 1]! with
    |false=>
     rw[hl] at g3;simp only[jD,if_true] at g3;subst g3;refine Q.rn ?_;refine Q.rdn ?_;refine Q.rn ?_;exact ⟨(),zt,kZ _,trivial⟩
    |true=>
     rw[hl] at g3;simp only[jH,kb,if_false] at g3;refine Q.rn ?_;refine Q.rdn ?_;refine Q.rn ?_;refine Q.dgo [true] [15,17] [15] [0,1,2,3,4,5,6,7,8,9,10,11,12,13,14,15,16,17] ?_;(refine Q.rdn ?_);refine Q.dc rfl rfl rfl rfl ?_;(refine Q.rn ?_);(refine Q.rdn ?_);refine D.e rfl rfl rfl ?_;(refine Q.rn ?_);(refine Q.rdn ?_);(refine Q.rn ?_);exact ⟨(j+1,Sort.swp g j (j - 1)),zt,kZ _,⟨by dsimp only;omega,by dsimp only;omega,by rw[vR];exact g2,g3⟩,by dsimp only;omega⟩
   ·rw[ja hj] at g3
    subst g3;refine Q.rn ?_;exact ⟨(),zt,kZ _,trivial⟩
  ·rw[ja h2b] at he2
   subst he2;refine Q.rn ?_
   first|refine N.tn ?_|skip
   exact ⟨(),zt,kZ _,trivial⟩
 rintro _ _;refine Q.rn ?_;exact ⟨(st,i1,e2),⟨rfl,rfl,rfl,rfl,jj some (jj (Value.int .i64) (by dsimp only;omega)),trivial⟩,kZ _,⟨by dsimp only;omega,by dsimp only;omega,bi.2,he2s,h5⟩,by dsimp only;omega⟩
abbrev SW (p s:Nat):HP:=pt p (cl [.int .i64 s] 3)
theorem Qg (bk n c a b p sw:Nat)(d:Array Int)(rs:List Value)(L:HL)(hd:d.size=n)(ha:a<n)(hb:b<n)(hn:n≤17592186044416)(hs:sw≤1000000):
  qh kY 285 [SV bk n c,.int .i64 a,.int .i64 b,.pointer (some ⟨p,0,none⟩)] (AR bk d rs::SW p sw::L)
   (λv L'=>v=.tuple #[.int .i64 (Sort.order2 Sort.ltInt d a b sw).1,.int .i64 (Sort.order2 Sort.ltInt d a b sw).2.1]∧L'=AR bk d rs::SW p (Sort.order2 Sort.ltInt d a b sw).2.2::L):=by
 refine qg Tryz.func285 rfl rfl rfl ?_;refine Q.rn ?_;refine Q.dgo [true,false] [8] [] [0,1,2,3,4,5,6,7,8] ?_;refine Q.rdn ?_;refine D.e rfl rfl rfl ?_;refine S.cr rfl (wj _ _ _) ?_;rintro _ M ⟨rfl,rfl⟩;unfold Sort.order2
 cases hl:Sort.ltInt d[b]! d[a]! with
 |false=>
  refine Q.rn ?_;refine Q.rdn ?_;refine Q.rn ?_;exact N.u rfl rfl (kZ _) ⟨rfl,rfl⟩
 |true=>
  refine Q.rn ?_;refine Q.rdn ?_;refine Q.rn ?_;exact N.u rfl rfl (kZ _) ⟨rfl,rfl⟩
theorem Kc {n:Nat}{d:Array Int}{a b sw:Nat}(ha:a<n)(hb:b<n):(Sort.order2 Sort.ltInt d a b sw).1<n∧(Sort.order2 Sort.ltInt d a b sw).2.1<n∧(Sort.order2 Sort.ltInt d a b sw).2.2≤sw+1:=by
 unfold Sort.order2;split<;>simp_all<;>omega
theorem Qj (bk n c a b e p sw:Nat)(d:Array Int)(rs:List Value)(L:HL)(hd:d.size=n)(ha:a<n)(hb:b<n)(he:e<n)(hn:n≤17592186044416)(hs:sw≤1000):
  qh kY 257 [SV bk n c,.int .i64 a,.int .i64 b,.int .i64 e,.pointer (some ⟨p,0,none⟩)] (AR bk d rs::SW p sw::L)
   (λv L'=>v=.int .i64 (Sort.median Sort.ltInt d a b e sw).1∧L'=AR bk d rs::SW p (Sort.median Sort.ltInt d a b e sw).2::L):=by
 refine qg Tryz.func257 rfl rfl rfl ?_;refine Q.rn ?_;refine S.cr rfl (Qg bk n c a b p sw d rs L hd ha hb hn zo) ?_;rintro _ _ ⟨rfl,rfl⟩;have r1:=Kc (d:=d) (sw:=sw) ha hb;unfold Sort.median;generalize Sort.order2 Sort.ltInt d a b sw=o1 at r1;refine Q.rn ?_;refine S.cr rfl (Qg bk n c o1.2.1 e p o1.2.2 d rs L hd r1.2.1 he hn zo) ?_;rintro _ _ ⟨rfl,rfl⟩;have r2:=Kc (d:=d) (sw:=o1.2.2) r1.2.1 he;dsimp only;generalize Sort.order2 Sort.ltInt d o1.2.1 e o1.2.2=o2 at r2;refine Q.rn ?_;refine S.cr rfl (Qg bk n c o1.1 o2.1 p o2.2.2 d rs L hd r1.1 r2.1 hn zo) ?_;rintro _ _ ⟨rfl,rfl⟩;refine Q.rn ?_;exact N.t rfl (kZ _) ⟨rfl,rfl⟩
theorem WD {n:Nat}{d:Array Int}{a b e sw:Nat}(ha:a<n)(hb:b<n)(he:e<n):(Sort.median Sort.ltInt d a b e sw).1<n∧(Sort.median Sort.ltInt d a b e sw).2≤sw+3:=by
 have r1:=Kc (d:=d) (sw:=sw) ha hb;unfold Sort.median;generalize Sort.order2 Sort.ltInt d a b sw=o1 at r1;have r2:=Kc (d:=d) (sw:=o1.2.2) r1.2.1 he;dsimp only;generalize Sort.order2 Sort.ltInt d o1.2.1 e o1.2.2=o2 at r2;have r3:=Kc (d:=d) (sw:=o2.2.2) r1.1 r2.1;omega
theorem yb (bk n c a p sw:Nat)(d:Array Int)(rs:List Value)(L:HL)(hd:d.size=n)(h1:1≤a)(ha:a+1<n)(hn:n≤17592186044416)(hs:sw≤1000):
  qh kY 256 [SV bk n c,.int .i64 a,.pointer (some ⟨p,0,none⟩)] (AR bk d rs::SW p sw::L)
   (λv L'=>v=.int .i64 (Sort.medianAdjacent Sort.ltInt d a sw).1∧L'=AR bk d rs::SW p (Sort.medianAdjacent Sort.ltInt d a sw).2::L):=by
 refine qg Tryz.func256 rfl rfl rfl ?_;refine Q.rn ?_;refine S.cr rfl (Qj bk n c (a - 1) a (a+1) p sw d rs L hd zo zo zo hn hs) ?_;rintro _ _ ⟨rfl,rfl⟩;refine Q.rn ?_;exact N.t rfl (kZ _) ⟨rfl,rfl⟩
def jCE :Sort.Hint→Int
 | .unknown=>0
 | .increasing=>1
 | .decreasing=>2
theorem WP (bk n c a b:Nat)(d:Array Int)(rs:List Value)(L:HL)(hd:d.size=n)(ha:a<b)(hb:b≤n)(hn:n≤17592186044416):
  qh kY 224 [SV bk n c,.int .i64 a,.int .i64 b] (AR bk d rs::L)
   (λv L'=>v=.tuple #[.int .i64 (Sort.choosePivot Sort.ltInt d a b).1,.int .i64 (jCE (Sort.choosePivot Sort.ltInt d a b).2)]∧L'=AR bk d rs::L):=by
 refine qg Tryz.func224 rfl rfl rfl ?_;refine Q.rn ?_;(repeat (intro b1;refine Q.rn ?_));obtain ⟨p,hp⟩ : ∃ p,p = b1 := ⟨_,rfl⟩;rw [← hp];obtain ⟨r,hr⟩ : ∃ r : Nat × Nat,r = (if b - a ≥ 8 then if b - a ≥ 50 then
   Sort.median Sort.ltInt d (Sort.medianAdjacent Sort.ltInt d (a+(b - a) / 4*1) 0).1 (Sort.medianAdjacent Sort.ltInt d (a+(b - a) / 4*2) (Sort.medianAdjacent Sort.ltInt d (a+(b - a) / 4*1) 0).2).1
    (Sort.medianAdjacent Sort.ltInt d (a+(b - a) / 4*3) (Sort.medianAdjacent Sort.ltInt d (a+(b - a) / 4*2) (Sort.medianAdjacent Sort.ltInt d (a+(b - a) / 4*1) 0).2).2).1
    (Sort.medianAdjacent Sort.ltInt d (a+(b - a) / 4*3) (Sort.medianAdjacent Sort.ltInt d (a+(b - a) / 4*2) (Sort.medianAdjacent Sort.ltInt d (a+(b - a) / 4*1) 0).2).2).2
   else Sort.median Sort.ltInt d (a+(b - a) / 4*1) (a+(b - a) / 4*2) (a+(b - a) / 4*3) 0 else (a+(b - a) / 4*2,0)):=⟨_,rfl⟩
 have hc:Sort.choosePivot Sort.ltInt d a b=(r.1,if r.2=0 then .increasing else if r.2=12 then .decreasing else .unknown):=by rw[hr];rfl
 rw[hc];clear hc;refine vh (qi.perm (.swap _ _ _)) ?_;refine vo (σ:=Unit) (λ_=> [(11,.int .i64 r.1),(9,.pointer (some ⟨p,0,none⟩))]) (λ_=>AR bk d rs::SW p r.2::L) (λ_=>True) ?_ ?_
 ·by_cases h8:b - a≥8
  ·rw[jb h8] at hr
   by_cases h50:b - a≥50
   ·rw[jb h50] at hr
    refine Q.rn ?_;refine S.cr rfl (yb bk n c (a+(b - a) / 4*1) p 0 d rs L hd zo zo hn zo) ?_;rintro _ _ ⟨rfl,rfl⟩;have q1:(Sort.medianAdjacent Sort.ltInt d (a+(b - a) / 4*1) 0).1<n∧(Sort.medianAdjacent Sort.ltInt d (a+(b - a) / 4*1) 0).2≤0+3:=WD zo zo zo;generalize Sort.medianAdjacent Sort.ltInt d (a+(b - a) / 4*1) 0=ri at q1 hr;refine Q.rn ?_;refine S.cr rfl (yb bk n c (a+(b - a) / 4*2) p ri.2 d rs L hd zo zo hn zo) ?_;rintro _ _ ⟨rfl,rfl⟩;have q2:(Sort.medianAdjacent Sort.ltInt d (a+(b - a) / 4*2) ri.2).1<n∧(Sort.medianAdjacent Sort.ltInt d (a+(b - a) / 4*2) ri.2).2≤ri.2+3:=WD zo zo zo;generalize Sort.medianAdjacent Sort.ltInt d (a+(b - a) / 4*2) ri.2=rj at q2 hr;refine Q.rn ?_;refine S.cr rfl (yb bk n c (a+(b - a) / 4*3) p rj.2 d rs L hd zo zo hn zo) ?_;rintro _ _ ⟨rfl,rfl⟩;have q3:(Sort.medianAdjacent Sort.ltInt d (a+(b - a) / 4*3) rj.2).1<n∧(Sort.medianAdjacent Sort.ltInt d (a+(b - a) / 4*3) rj.2).2≤rj.2+3:=WD zo zo zo;generalize Sort.medianAdjacent Sort.ltInt d (a+(b - a) / 4*3) rj.2=rk at q3 hr;refine Q.rn ?_;refine S.cr rfl (Qj bk n c ri.1 rj.1 rk.1 p rk.2 d rs L hd q1.1 q2.1 q3.1 hn zo) ?_;rintro _ _ ⟨rfl,rfl⟩;rw[←hr];refine Q.rn ?_
    first|refine N.tn ?_|skip
    exact ⟨(),zt,kZ _,trivial⟩
   ·rw[ja h50] at hr
    refine Q.rn ?_;refine S.cr rfl (Qj bk n c (a+(b - a) / 4*1) (a+(b - a) / 4*2) (a+(b - a) / 4*3) p 0 d rs L hd zo zo zo hn zo) ?_;rintro _ _ ⟨rfl,rfl⟩;rw[←hr];refine Q.rn ?_
    first|refine N.tn ?_|skip
    exact ⟨(),zt,kZ _,trivial⟩
  ·rw[ja h8] at hr
   subst hr;refine Q.rn ?_
   first|refine N.tn ?_|skip
   exact ⟨(),zt,kZ _,trivial⟩
 rintro _ _;clear hr;obtain ⟨m,w⟩:=r
 by_cases h0:w=0
 ·subst h0
  refine Q.rn ?_;exact N.u rfl rfl (qi.cons (qi.drop (kZ _))) ⟨rfl,rfl⟩
 by_cases h12:w=12
 ·subst h12
  refine Q.rn ?_;exact N.u rfl rfl (qi.cons (qi.drop (kZ _))) ⟨rfl,rfl⟩
 refine Q.rn ?_;exact N.u rfl rfl (qi.cons (qi.drop (kZ _))) ⟨by simp only[ja h0,ja h12];rfl,rfl⟩
theorem pN (x:Nat)(hx:x<18446744073709551616)(L:HL):qh kY 219 [.int .u64 x] L (λv L'=>v=.int .i64 (Sort.bitsLen x)∧L'=L):=by
 refine qg Tryz.func219 rfl rfl rfl ?_;have h1:x<18446744073709551616:=hx;have h2:0≤0:=jz _;have h3:0+Sort.bitsLen x=Sort.bitsLen x:=by simp
 obtain ⟨y,hy⟩:∃y,y=x:=⟨_,rfl⟩;obtain ⟨m,hm⟩:∃m,m=0:=⟨_,rfl⟩;rw[←hy] at h1 ⊢;rw[←hm] at h2;have h3:m+Sort.bitsLen y=Sort.bitsLen y:=by omega
 refine Q.rn ?_;refine vo (σ:=Nat×Nat) (λs=> [(0,.int .u64 s.1),(2,.int .i64 s.2)]) (λ_=>L) (λs=>s.1<4294967296∧s.2≤32∧s.2+Sort.bitsLen s.1=Sort.bitsLen y) ?_ ?_
 ·by_cases h:4294967296≤y
  ·have hdv:y / 2^32<4294967296:=by omega
   have hbl:Sort.bitsLen y=32+Sort.bitsLen (y / 2^32):=JY zo;refine Q.rn ?_;refine S.y (Y.shr (a:=y) (b:=32) rfl rfl zd) ?_;generalize y / 2^32=z at hdv hbl;refine Q.rn ?_
   first|refine N.tn ?_|skip
   exact ⟨(z,32),zt,kZ _,hdv,by dsimp only;omega,by dsimp only;omega⟩
  ·refine Q.rn ?_
   first|refine N.tn ?_|skip
   exact ⟨(y,0),zt,kZ _,by dsimp only;omega,by dsimp only;omega,by simp⟩
 obtain ⟨x,hx2⟩:∃x,x=y:=⟨_,rfl⟩;rw[←hx2];clear h1 h2 h3 hy hm hx2 hx;rintro ⟨y,m⟩ ⟨h1,h2,h3⟩;dsimp only at h1 h2 h3 ⊢;refine Q.rn ?_;refine vo (σ:=Nat×Nat) (λs=> [(0,.int .u64 s.1),(2,.int .i64 s.2)]) (λ_=>L) (λs=>s.1<65536∧s.2≤48∧s.2+Sort.bitsLen s.1=Sort.bitsLen x) ?_ ?_
 ·by_cases h:65536≤y
  ·have hdv:y / 2^16<65536:=by omega
   have hbl:Sort.bitsLen y=16+Sort.bitsLen (y / 2^16):=JY zo;refine Q.rn ?_;refine S.y (Y.shr (a:=y) (b:=16) rfl rfl zd) ?_;generalize y / 2^16=z at hdv hbl;refine Q.rn ?_
   first|refine N.tn ?_|skip
   exact ⟨(z,m+16),zt,kZ _,hdv,by dsimp only;omega,by dsimp only;omega⟩
  ·refine Q.rn ?_
   first|refine N.tn ?_|skip
   exact ⟨(y,m),zt,kZ _,by dsimp only;omega,by dsimp only;omega,h3⟩
 clear h1 h2 h3;rintro ⟨y,m⟩ ⟨h1,h2,h3⟩;dsimp only at h1 h2 h3 ⊢;refine Q.rn ?_;refine vo (σ:=Nat×Nat) (λs=> [(0,.int .u64 s.1),(2,.int .i64 s.2)]) (λ_=>L) (λs=>s.1<256∧s.2≤56∧s.2+Sort.bitsLen s.1=Sort.bitsLen x) ?_ ?_
 ·by_cases h:256≤y
  ·have hdv:y / 2^8<256:=by omega
   have hbl:Sort.bitsLen y=8+Sort.bitsLen (y / 2^8):=JY zo;refine Q.rn ?_;refine S.y (Y.shr (a:=y) (b:=8) rfl rfl zd) ?_;generalize y / 2^8=z at hdv hbl;refine Q.rn ?_
   first|refine N.tn ?_|skip
   exact ⟨(z,m+8),zt,kZ _,hdv,by dsimp only;omega,by dsimp only;omega⟩
  ·refine Q.rn ?_
   first|refine N.tn ?_|skip
   exact ⟨(y,m),zt,kZ _,by dsimp only;omega,by dsimp only;omega,h3⟩
 clear h1 h2 h3;rintro ⟨y,m⟩ ⟨h1,h2,h3⟩;dsimp only at h1 h2 h3 ⊢;refine Q.rn ?_;have hy8:IntKind.u8.wrap (y:Int)=(y:Int):=wrap_u8 zo zo;refine S.y (Y.cvi rfl) ?_;rw[hy8];have hb8:Sort.bitsLen y≤8:=by
  have:∀y:Nat,y<256→Sort.bitsLen y≤8:=by decide+kernel
  exact this y h1
 refine S.y (Y.idx (i:=y) (b:=UInt8.ofNat (Sort.bitsLen y)) rfl rfl (by clear h2 h3 hy8 hb8 m;revert y;decide+kernel)) ?_;have e8:(UInt8.ofNat (Sort.bitsLen y)).toNat=Sort.bitsLen y:=by simp;omega
 rw[e8];refine S.y (Y.cvi rfl) ?_;rw[vl zo zo];refine Q.rn ?_;exact N.t rfl (kZ _) ⟨jj (Value.int .i64) zo,rfl⟩
theorem QE (x:Nat)(hx:x<18446744073709551616)(L:HL):qh kY 181 [.int .u64 x] L (λv L'=>v=.int .i64 (Sort.bitsLen x)∧L'=L):=by
 refine qg Tryz.func181 rfl rfl rfl ?_;refine Q.rn ?_;refine S.cr rfl (pN x hx L) ?_;rintro _ _ ⟨rfl,rfl⟩;refine Q.rn ?_;exact N.t rfl (kZ _) ⟨rfl,rfl⟩
theorem jAd (x:Nat)(hx:x≤17592186044416)(L:HL):qh kY 250 [.int .i64 x] L (λv L'=>v=.int .u64 ((1<<<Sort.bitsLen x:Nat):Int)∧L'=L):=by
 have hl:Sort.bitsLen x≤45:=(Sort.bitsLen_le_iff x 45).2 zo;have hp:2^Sort.bitsLen x≤2^45:=Nat.pow_le_pow_right zo hl;refine qg Tryz.func250 rfl rfl rfl ?_;refine Q.rn ?_;refine S.y (Y.cvi rfl) ?_;rw[wrap_u64 zo zo];refine S.cr rfl (QE x zo L) ?_;rintro _ _ ⟨rfl,rfl⟩;refine S.y (Y.shl (a:=1) (b:=Sort.bitsLen x) rfl rfl (ke hl zd)) ?_;rw[show 1*2^Sort.bitsLen x=1<<<Sort.bitsLen x by rw[Nat.one_shiftLeft,Nat.one_mul],wrap_u64 (kQ _) (by rw[Nat.one_shiftLeft];generalize 2^Sort.bitsLen x=q at hp;omega)];refine Q.rn ?_;exact N.t rfl (kZ _) ⟨rfl,rfl⟩
abbrev RN (p:Nat)(r:UInt64):HP:=pt p (cl [.int .u64 (r.toNat:Int)] 333)
theorem jAT (p:Nat)(r:UInt64)(L:HL):qh kY 251 [.pointer (some ⟨p,0,none⟩)] (RN p r::L) (λv L'=>v=.int .u64 ((Sort.xorNext r).toNat:Int)∧L'=RN p (Sort.xorNext r)::L):=by
 refine qg Tryz.func251 rfl rfl rfl ?_;refine Q.rn ?_;refine Q.dgo [true] [9] [9] [0,1,2,3,4,5,6,7,8,9] ?_
 (refine Q.rdn ?_)
 refine D.yp rfl rfl rfl (Y.shl (a:=_) (b:=13) rfl rfl zd) ?_;rw[shl64 _ 13 zd];refine D.yp rfl rfl rfl (Y.xor rfl rfl) ?_;rw[jBj]
 (refine Q.rdn ?_)
 refine Q.dc rfl rfl rfl rfl ?_
 (refine Q.rn ?_)
 (refine Q.rdn ?_)
 (refine Q.rn ?_)
 refine Q.dgo [true] [9] [9] [0,1,2,3,4,5,6,7,8,9] ?_
 (refine Q.rdn ?_)
 refine D.yp rfl rfl rfl (Y.shr (a:=_) (b:=7) rfl rfl zd) ?_;rw[jHb _ 7 zd];refine D.yp rfl rfl rfl (Y.xor rfl rfl) ?_;rw[jBj]
 (refine Q.rdn ?_)
 refine Q.dc rfl rfl rfl rfl ?_
 (refine Q.rn ?_)
 (refine Q.rdn ?_)
 (refine Q.rn ?_)
 refine Q.dgo [true] [9] [9] [0,1,2,3,4,5,6,7,8,9] ?_
 (refine Q.rdn ?_)
 refine D.yp rfl rfl rfl (Y.shl (a:=_) (b:=17) rfl rfl zd) ?_;rw[shl64 _ 17 zd];refine D.yp rfl rfl rfl (Y.xor rfl rfl) ?_;rw[jBj]
 (refine Q.rdn ?_)
 refine Q.dc rfl rfl rfl rfl ?_
 (refine Q.rn ?_)
 (refine Q.rdn ?_)
 (refine Q.rn ?_)
 exact N.t rfl (kZ _) ⟨rfl,rfl⟩
def WQ (a l m base:Nat)(d:Array Int):Nat→UInt64×Array Int
 |0=>(UInt64.ofNat l,d)
 |k+1=>Sort.breakStep a l m (WQ a l m base d k) (base+k)
theorem cu (a l m base:Nat)(d:Array Int):∀k,(WQ a l m base d k).2.size=d.size
 |0=>rfl
 |k+1=>by simp only[WQ,Sort.breakStep,vR];exact cu a l m base d k
theorem VM (bk n c a b:Nat)(d:Array Int)(rs:List Value)(L:HL)(hd:d.size=n)(h8:a+8≤b)(hb:b≤n)(hn:n≤17592186044416):
  qh kY 223 [SV bk n c,.int .i64 a,.int .i64 b] (AR bk d rs::L) (λv L'=>v=.tuple #[]∧L'=AR bk (Sort.breakPatterns d a b) rs::L):=by
 have hl:Sort.bitsLen (b - a)≤45:=(Sort.bitsLen_le_iff (b - a) 45).2 zo;have hp:1<<<Sort.bitsLen (b - a)≤2^45:=by rw[Nat.one_shiftLeft];exact Nat.pow_le_pow_right zo hl
 have hp2:1<<<Sort.bitsLen (b - a)≤2*(b - a):=by rw[Nat.one_shiftLeft];exact Sort.two_pow_bitsLen_le zo
 have hp0:0<1<<<Sort.bitsLen (b - a):=by rw[Nat.one_shiftLeft];exact Nat.two_pow_pos _
 have hres:Sort.breakPatterns d a b=(WQ a (b - a) (1<<<Sort.bitsLen (b - a)) (a+(b - a) / 4*2 - 1) d 3).2:=by
  unfold Sort.breakPatterns;rw[jb (show b - a≥8 by omega)];rfl
 rw[hres];clear hres;obtain ⟨md,hmd⟩:∃md,md=1<<<Sort.bitsLen (b - a):=⟨_,rfl⟩;have hu:IntKind.u64.wrap ((b - a:Nat):Int)=((UInt64.ofNat (b - a)).toNat:Int):=by
  rw[wrap_u64 zo zo];simp;omega
 refine qg Tryz.func223 rfl rfl rfl ?_;refine Q.rn ?_;refine S.y (Y.cvi rfl) ?_;rw[hu];refine Q.rn ?_;(repeat (intro b1;refine Q.rn ?_));refine S.cr rfl (jAd (b - a) zo _) ?_;rintro _ _ ⟨rfl,rfl⟩;rw[←hmd] at hp hp2 hp0 ⊢;refine Q.rn ?_;obtain ⟨base,hbase⟩:∃base,base=a+(b - a) / 4*2 - 1:=⟨_,rfl⟩;rw[←hbase];refine ql (σ:=Nat) (λk=> [(0,SV bk n c),(1,.int .i64 a),(6,.int .i64 (b - a:Nat)),(7,.pointer (some ⟨b1,0,none⟩)),(8,.int .u64 md),(9,.int .i64 (base+k:Nat))])
  (λk=>RN b1 (WQ a (b - a) md base d k).1::AR bk (WQ a (b - a) md base d k).2 rs::L) (λk=>k≤3) (λk=>3 - k) 0 zt (kZ _) zo ?_
 intro k hk;have hsz:=cu a (b - a) md base d k;rw[hd] at hsz
 by_cases hk3:k=3
 ·subst hk3
  refine Q.rn ?_;refine N.n0 RV.nil (qi.drop (kZ _)) ⟨rfl,rfl⟩
 ·have hnx:WQ a (b - a) md base d (k+1)=Sort.breakStep a (b - a) md (WQ a (b - a) md base d k) (base+k):=rfl
  have hgoal:∀r e,(Sort.xorNext (WQ a (b - a) md base d k).1)=r→(WQ a (b - a) md base d k).2=e→WQ a (b - a) md base d (k+1)=(r,Sort.swp e (base+k) (a+(if r.toNat&&&(md - 1)≥b - a then (r.toNat&&&(md - 1)) - (b - a) else r.toNat&&&(md - 1)))):=λr e h1 h2=>by rw[hnx,←h1,←h2];rfl
  refine Q.rn ?_;refine S.cr rfl (jAT b1 _ _) ?_;rintro _ _ ⟨rfl,rfl⟩;generalize hr:Sort.xorNext (WQ a (b - a) md base d k).1=r at hgoal;generalize he:(WQ a (b - a) md base d k).2=e at hgoal hsz;have hg:=hgoal r e rfl rfl;have hand:r.toNat&&&(md - 1)≤md - 1:=Nat.and_le_right;refine Q.rn ?_;refine S.y (Y.sub rfl rfl) ?_;rw[show ((md:Int) - 1)=((md - 1:Nat):Int) by omega,wrap_u64 zo zo];refine S.y (Y.and rfl rfl) ?_;rw[jHZ _ _ (by have:=r.toNat_lt;omega) zo];refine S.y (Y.cvi rfl) ?_;rw[vl zo zo];obtain ⟨o,ho⟩:∃o,o=r.toNat&&&(md - 1):=⟨_,rfl⟩;rw[←ho] at hand hg ⊢
  by_cases hol:o≥b - a
  ·rw[jb hol] at hg
   refine Q.rn ?_;refine Q.dgo [false,true] [17,19] [17] [0,1,2,3,4,5,6,7,8,9,10,11,12,13,14,15,16,17,18,19] ?_
   (refine Q.rdn ?_);refine Q.dc rfl rfl rfl rfl ?_;(refine Q.rn ?_);(refine Q.rdn ?_);refine D.e rfl rfl rfl ?_;(refine Q.rn ?_);(refine Q.rdn ?_);(refine Q.rn ?_)
   refine ⟨k+1,zt,?_,by omega,by omega⟩;rw[hg];exact qi.perm (.swap _ _ _)
  ·rw[ja hol] at hg
   refine Q.rn ?_;refine Q.dgo [false,true] [17,19] [17] [0,1,2,3,4,5,6,7,8,9,10,11,12,13,14,15,16,17,18,19] ?_
   (refine Q.rdn ?_);refine Q.dc rfl rfl rfl rfl ?_;(refine Q.rn ?_);(refine Q.rdn ?_);refine D.e rfl rfl rfl ?_;(refine Q.rn ?_);(refine Q.rdn ?_);(refine Q.rn ?_)
   refine ⟨k+1,zt,?_,by omega,by omega⟩;rw[hg];exact qi.perm (.swap _ _ _)
end Go.Proofs.YtlnfjhiphlfkjaaGreatDoor
