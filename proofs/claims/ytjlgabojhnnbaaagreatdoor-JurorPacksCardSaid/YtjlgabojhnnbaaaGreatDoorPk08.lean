/- The ref's juror: as it lies; Find. The document's notes and mail: are they alike? Calls whose contracts want two or three of the list's assertions in front. The ref's juror: Do. The ref's juror: Apply. Plans as the document has them; lists of notes, alike. JurorOnce: the walk. The juror's step, with the document's. JurorLocks: the walk. JurorVotes: the walk. No condition. -/
import Derived.Test.YtjlgabojhnnbaaaGreatDoorPk07
set_option linter.unusedVariables false
set_option linter.unusedSimpArgs false
set_option linter.unusedSectionVars false
set_option maxHeartbeats 8000000
namespace Go.SX
open Go
theorem S.stON {P:Program}{n:Nat}{ops rest:List Oper}{Q:Post}{f:Env}{L:HL}{ty:TypeId}{pos:String}{af:Array Edge}{x y:Operand}{t t0 s sz m c bts:Nat}{ag:Bool}{zs cs cs' ds:List Value}{b o:Nat}{v:Value}{L':HP→HL}[h:Ty P t ag s zs bts][hu:UpdS (some ⟨b,0,none⟩) L t0 sz m c cs L']
  (hx:ev f x=some (.pointer (some ⟨b,o,none⟩))) (hy:ev f y=some v) (hv:v.cells.toList=ds) (hn:ds.length=s) (h1:ds.all (·.oneCell')=true) (hl:o+s≤cs.length) (hl':putAt cs o ds=cs')
  (hk:opsS P n ops rest Q f (L' (slO t0 sz (some ⟨b,0,none⟩) m c cs'))):opsS P n ops (⟨none,.store t x y,ty,pos,af,none⟩::rest) Q f L:=by
 obtain ⟨R,p1,p2⟩:=hu.at_;refine opsS_ent (L':=slO t0 sz (some ⟨b,0,none⟩) m c cs::R) (Ent.perm p1) ?_;intro ok F a w s' t1;have hpl:(putAt cs o ds).length=cs.length:=by unfold putAt;simp;omega
 obtain ⟨hlen,hc⟩:=St.slO_open (L:=R++F) (by simpa using t1)
 rcases hc with ⟨e,_⟩|⟨b',rs,e,hmc,hcl,hs⟩
 ·cases e
 ·cases e
  have key:opsS P n ops (⟨none,.store t x y,ty,pos,af,none⟩::rest) Q f (pt b (cl (cs++rs) t0)::R):=by
   refine S.st hx hy hv hn h1 (Nat.ble_eq_true_of_le (by rw[List.length_append];omega)) rfl ?_;refine opsS_ent (Ent.trans ?_ (Ent.perm (p2 _))) hk;have e2:putAt (cs++rs) o ds=cs'++rs:=by
    rw[←hl'];unfold putAt;rw[List.take_append_of_le_length zo,List.drop_append_of_le_length zo]
    simp
   rw[e2];refine slO_shut (by rw[←hl',hpl];exact hlen) hmc (by rw[←hl'];simpa[hpl] using hcl)
  exact key ok F a w s' (by simpa using hs)
end Go.SX
namespace Go.Proofs.YtjlgabojhnnbaaaGreatDoor
open Go Go.SX
attribute [local irreducible] swp opsS thenS blockS retS CallsS St Ent YieldS anyS drawS
structure QV where
 txn:Int
 a:OA
 c:Nat
 l:List Int
abbrev QV.cells (v:QV):List Value:=[.int .u64 v.txn,.slice v.a v.l.length v.c]
abbrev QV.abs (v:QV):Int×List Int:=(v.txn,v.l)
abbrev dC (d:Int×Int):List Value:=[.int .u64 d.1,.int .u64 d.2]
abbrev rjP (p:Nat)(self:Int)(v:Nat)(pa:OA)(ps:List QV)(pc:Nat)(da:OA)(ds:List (Int×Int))(dc:Nat):HP:=pt p (cl [.int .i64 self,ptrV v,.slice pa ps.length pc,.slice da ds.length dc] 72)
structure RJOK (M:OM)(j:JS)(sf:Int)(pa:OA)(pc:Nat)(ps:List QV)(da:OA)(dc:Nat)(ds:List (Int×Int)):Prop where
 s1:1≤sf
 s2:sf=j.v.dim
 pp:(ps.map QV.abs).Perm j.parts
 po:∀u∈ps,SlM M u.a u.l.length 1 (u.l.map I64)
 pS:SlM M pa ps.length 2 (ps.flatMap QV.cells)
 dp:ds.Perm j.done
 sd:(ds.map (·.1)).Pairwise (· < ·)
 dS:SlM M da ds.length 2 (ds.flatMap dC)
 dc:ds.length≤dc
 kp:keysOK j.parts
 kd:keysOK j.done
structure RJX where
 v:Nat
 self:Int
 pa:OA
 pc:Nat
 ps:List QV
 da:OA
 dc:Nat
 ds:List (Int×Int)
 M:OM
def rjH (p:Nat)(j:JS):HP:=exH λx:RJX=>allH [pureH (RJOK x.M j x.self x.pa x.pc x.ps x.da x.dc x.ds),rjP p x.self x.v x.pa x.ps x.pc x.da x.ds x.dc,refH x.v j.v,roM x.M]
theorem rj_shut {p v:Nat}{self:Int}{M:OM}{j:JS}{pa:OA}{pc:Nat}{ps:List QV}{da:OA}{dc:Nat}{ds:List (Int×Int)}{L:HL}(h:RJOK M j self pa pc ps da dc ds):Ent (rjP p self v pa ps pc da ds dc::refH v j.v::roM M::L) (rjH p j::L):=
 Ent.trans (Ent.shut_pure h) (Ent.trans (Ent.shut_all (L:=[_,_,_,_])) (Ent.shut_ex (P:=λx:RJX=>allH [pureH (RJOK x.M j x.self x.pa x.pc x.ps x.da x.dc x.ds),rjP p x.self x.v x.pa x.ps x.pc x.da x.ds x.dc,refH x.v j.v,roM x.M]) ⟨v,self,pa,pc,ps,da,dc,ds,M⟩))
theorem calls_rj {g:FuncId}{args:List Value}{R:Value→HL→Prop}{p:Nat}{j:JS}{L:HL}
  (h:∀v self M pa pc ps da dc ds,RJOK M j self pa pc ps da dc ds→CallsS Tryz.prog g args (rjP p self v pa ps pc da ds dc::refH v j.v::roM M::L) R):CallsS Tryz.prog g args (rjH p j::L) R:=
 CallsS.ex λx=>CallsS.all (CallsS.pure λhx=>h x.v x.self x.M x.pa x.pc x.ps x.da x.dc x.ds hx)
class PickRJ (p:Nat)(L:HL)(j:outParam JS)(L0:outParam (HL)):Prop where
 ent:Ent L (rjH p j::L0)
instance PickRJ.here {p:Nat}{L:HL}{j:JS}:PickRJ p (rjH p j::L) j L:=⟨Ent.refl _⟩
instance (priority :=low) PickRJ.there {p:Nat} {A:HP} {L L0:HL} {j:JS} [h:PickRJ p L j L0]:PickRJ p (A::L) j (A::L0):=⟨(h.ent.cons).trans (Ent.perm (.swap _ _ _))⟩
section
variable {n : Nat} {ops rest : List Oper} {cd : Code} {Q : Post} {f : Env} {L L0 : HL} {j : JS}
theorem swp_rj (p:Nat)[hp:PickRJ p L j L0](h:∀v self M pa pc ps da dc ds,RJOK M j self pa pc ps da dc ds→swp Tryz.prog n cd Q f (rjP p self v pa ps pc da ds dc::refH v j.v::roM M::L0)):swp Tryz.prog n cd Q f L:=
 swp_ent hp.ent (swp_ex λx=>swp_all (swp_pure λhx=>h x.v x.self x.M x.pa x.pc x.ps x.da x.dc x.ds hx))
end
theorem rjclose {p v:Nat}{sf:Int}{M:OM}{j:JS}{pa:OA}{pc:Nat}{ps:List QV}{da:OA}{dc:Nat}{ds:List (Int×Int)}{L L0 L1 L2:HL}[h1:Pick (rjP p sf v pa ps pc da ds dc) L L0][h2:PickR v L0 j.v L1][h3:Pick (roM M) L1 L2](hq:RJOK M j sf pa pc ps da dc ds):Ent L (rjH p j::L2):=
 Ent.trans h1.ent (Ent.trans (Ent.cons (Ent.trans h2.ent (Ent.cons h3.ent))) (rj_shut hq))
theorem RJOK.lk {M:OM}{j:JS}{sf:Int}{pa:OA}{pc:Nat}{ps:List QV}{da:OA}{dc:Nat}{ds:List (Int×Int)}(h:RJOK M j sf pa pc ps da dc ds)(t:Int):lkL ds t=lkL j.done t:=lkL_perm h.kd h.dp t
theorem lkL_at {α:Type}{ds:List (Int×α)}{k:Nat}{d:Int×α}(h:ds[k]? =some d)(hn:∀u∈ds.take k,u.1≠d.1):lkL ds d.1=some d.2:=by
 have hl:k<ds.length:=(List.getElem?_eq_some_iff.1 h).1;have e:ds=ds.take k++d::ds.drop (k+1):=by
  have:=List.getElem?_eq_some_iff.1 h;rw[←this.2,List.getElem_cons_drop,List.take_append_drop]
 obtain ⟨x,y⟩:=d;rw[e];exact lkL_mid (λu hu=>hn u hu)
theorem FindD_spec (p v:Nat)(self:Int)(pa:OA)(ps:List QV)(pc:Nat)(da:OA)(ds:List (Int×Int))(dc:Nat)(t:Int)(M:OM)(A:HL)(h:SlM M da ds.length 2 (ds.flatMap dC))(hn:ds.length≤1000000):
  CallsS Tryz.prog 55 [.pointer (some ⟨p,0,none⟩),.int .u64 t] (rjP p self v pa ps pc da ds dc::roM M::A) (λr L'=>r=.int .u64 ((lkL ds t).getD 0)∧L'=rjP p self v pa ps pc da ds dc::roM M::A):=by
 refine CallsS.of_body Tryz.func55 rfl rfl rfl ?_;refine Q.r ?_;refine swp_loop (σ:=Nat) (λk=> [(1,.int .u64 t),(10,.slice da ds.length dc),(11,.int .i64 ds.length),(12,.int .i64 k)]) (λ_=>rjP p self v pa ps pc da ds dc::roM M::A)
  (λk=>k≤ds.length∧∀d∈ds.take k,d.1≠t) (λk=>ds.length - k) 0 zt (Ent.refl _) ⟨by omega,by simp⟩ ?_
 rintro k ⟨hk,hno⟩
 by_cases hlt:k<ds.length
 ·obtain ⟨d,hd⟩:=mem_get hlt
  have hrs:RdS (rjP p self v pa ps pc da ds dc::roM M::A) da ds.length 2 (ds.flatMap dC):=h.rd;obtain ⟨b,oo,hia,hr⟩:=RdS.elem (g:=dC) (λ_=>rfl) hrs hd rfl;clear hrs;rw[hia] at hr ⊢
  by_cases he:d.1=t
  ·refine Q.r ?_;(repeat (intro b1;refine Q.r ?_))
   refine N.t rfl eG ⟨?_,rfl⟩;subst he;rw[lkL_at hd hno];rfl
  ·refine Q.r ?_;(repeat (intro b1;refine Q.r ?_))
   refine ⟨k+1,zt,by exact eG,⟨by omega,?_⟩,by omega⟩;rw[take_snoc hd];intro j hj
   rcases List.mem_append.1 hj with hj|hj
   ·exact hno j hj
   ·obtain rfl:=List.mem_singleton.1 hj
    exact he
 ·have hke:k=ds.length:=by omega
  subst hke;rw[List.take_length] at hno;refine Q.r ?_;refine N.t rfl (Ent.refl _) ⟨?_,rfl⟩;rw[lkL_none hno];rfl
theorem RNew_spec (sf dim:Int)(L:HL)(s1:1≤sf)(s2:sf=dim):
  CallsS Tryz.prog 6 [.int .i64 sf,.int .i64 dim] L (λr L'=>∃p,r=.pointer (some ⟨p,0,none⟩)∧L'=rjH p ⟨⟨dim,[],[],0⟩,[],[]⟩::L):=by
 refine CallsS.of_body Tryz.func6 rfl rfl rfl ?_;refine Q.r ?_;(repeat (intro b1;refine Q.r ?_));rename_i b0;refine N.t rfl ?_ ⟨b1,rfl,rfl⟩;refine Ent.trans (M:=rP b0 dim none [] 0 none [] 0 0::roM (λ_=>none)::rjP b1 sf b0 none [] 0 none [] 0::roM (λ_=>none)::L) eG ?_;refine Ent.trans (ref_shut (p:=b0) (st:=⟨dim,[],[],0⟩) (es:=[]) (is:=[]) (a:=none) (a':=none) (c:=0) (c':=0) ⟨by simp,by simp,by simp,by simp,by simp,by simp,⟨rfl,.inl rfl⟩,⟨rfl,.inl rfl⟩,by simp,by simp,by simp[keysOK],by simp[keysOK],by simp⟩) ?_;refine Ent.trans (Ent.perm (.swap _ _ _)) ?_;exact rj_shut (j:=⟨⟨dim,[],[],0⟩,[],[]⟩) (ps:=[]) (ds:=[]) ⟨s1,s2,by simp,by simp,⟨rfl,.inl rfl⟩,by simp,by simp,⟨rfl,.inl rfl⟩,by simp,by simp[keysOK],by simp[keysOK]⟩
theorem without_spec (a:OA)(c:Nat)(ps:List QV)(t:Int)(A:HL)(h:RdS A a ps.length 2 (ps.flatMap QV.cells))(hn:ps.length≤1000000):
  CallsS Tryz.prog 79 [.slice a ps.length c,.int .u64 t] A (λr L'=>∃a' c',r=.slice a' (ps.filter λu=> !decide (u.txn=t)).length c'∧L'=slO 155 2 a' (ps.filter λu=> !decide (u.txn=t)).length c' ((ps.filter λu=> !decide (u.txn=t)).flatMap QV.cells)::A):=by
 refine CallsS.of_body Tryz.func79 rfl rfl rfl ?_;refine Q.r ?_;refine swp_loop (σ:=Nat×OA×Nat×List QV) (λs=> [(1,.int .u64 t),(8,.slice a ps.length c),(9,.int .i64 ps.length),(5,.slice s.2.1 s.2.2.2.length s.2.2.1),(10,.int .i64 s.1)])
  (λs=>slO 155 2 s.2.1 s.2.2.2.length s.2.2.1 (s.2.2.2.flatMap QV.cells)::A)
  (λs=>s.1≤ps.length∧s.2.2.2=(ps.take s.1).filter λu=> !decide (u.txn=t)) (λs=>ps.length - s.1) (0,none,0,[]) zt slO_nil ⟨by omega,by simp⟩ ?_
 rintro ⟨k,a3,c3,us⟩ ⟨hk,hus⟩;dsimp only at hk hus ⊢;have hul:us.length≤k:=by
  rw[hus];exact Nat.le_trans (List.length_filter_le _ _) (by rw[List.length_take];omega)
 by_cases hlt:k<ps.length
 ·obtain ⟨q,hq⟩:=mem_get hlt
  have hrs:RdS (slO 155 2 a3 us.length c3 (us.flatMap QV.cells)::A) a ps.length 2 (ps.flatMap QV.cells):=h.sub;obtain ⟨b,oo,hia,hr⟩:=RdS.elem (g:=QV.cells) (λ_=>rfl) hrs hq rfl;clear hrs;rw[hia]
  by_cases he:q.txn=t
  ·refine Q.r ?_;(repeat (intro b1;refine Q.r ?_))
   refine ⟨(k+1,a3,c3,us),zt,by exact eG,⟨by dsimp only;omega,?_⟩,by dsimp only;omega⟩;dsimp only;rw[take_snoc hq,List.filter_append,←hus,List.filter_cons,if_neg (by simp[he]),List.filter_nil,List.append_nil]
  ·refine Q.r ?_;(repeat (intro b1;refine Q.r ?_))
   refine S.app rfl rfl (SrcS.sl RdC.row zr zr) zr zo zo (λa7 c7=> ?_);refine Q.r ?_;refine ⟨(k+1,a7,c7,us++[q]),⟨rfl,rfl,rfl,congrArg some (by simp),rfl,trivial⟩,?_,⟨by dsimp only;omega,?_⟩,by dsimp only;omega⟩
   ·dsimp only
    rw[len_snoc,flat_snoc];exact eG
   ·dsimp only
    rw[take_snoc hq,List.filter_append,←hus,List.filter_cons,if_pos (by simp[he]),List.filter_nil]
 ·have hke:k=ps.length:=by omega
  subst hke;rw[List.take_length] at hus;subst hus;refine Q.r ?_;exact N.t rfl (Ent.refl _) ⟨a3,c3,rfl,rfl⟩
def insD (ds:List (Int×Int))(d:Int×Int):List (Int×Int):=ds.filter (λu=>decide (u.1<d.1))++d::ds.filter (λu=>decide (d.1<u.1))
theorem dC_one (xs:List (Int×Int)):(xs.flatMap dC).all (·.oneCell')=true:=by simp[Value.oneCell']
theorem insD_eq {ds:List (Int×Int)}{d:Int×Int}{k:Nat}(h1:∀u∈ds.take k,u.1<d.1)(h2:∀u∈ds.drop k,d.1≤u.1):insD ds d=ds.take k++d::(ds.drop k).filter (λu=>decide (d.1<u.1)):=by
 unfold insD;have e:ds=ds.take k++ds.drop k:=(List.take_append_drop k ds).symm
 conv=>lhs;rw[e]
 rw[List.filter_append,List.filter_append];rw[List.filter_eq_self.2 (λu hu=>by have:=h1 u hu;simp;omega),List.filter_eq_nil_iff.2 (λu hu=>by have:=h2 u hu;simp;omega),List.append_nil,List.filter_eq_nil_iff.2 (λu hu=>by have:=h1 u hu;simp;omega),List.nil_append]
theorem put_spec (a:OA)(c:Nat)(ds:List (Int×Int))(d:Int×Int)(A:HL)(h:RdS A a ds.length 2 (ds.flatMap dC))(hc:ds.length≤c)(hn:ds.length≤1000000)(hs:(ds.map (·.1)).Pairwise (· < ·)):
  CallsS Tryz.prog 81 [.slice a ds.length c,.agg (dC d).toArray] A (λr L'=>∃a' c',r=.slice a' (insD ds d).length c'∧L'=slO 157 2 a' (insD ds d).length c' ((insD ds d).flatMap dC)::A):=by
 refine CallsS.of_body Tryz.func81 rfl rfl rfl ?_;refine Q.r ?_;(repeat (intro b1;refine Q.r ?_));refine swp_cutB (σ:=Nat) (λk=> [(0,.slice a ds.length c),(3,.pointer (some ⟨b1,0,none⟩)),(5,.int .i64 k)]) (λ_=>pt b1 (cl (dC d) 157)::A)
  (λk=>k≤ds.length∧(∀u∈ds.take k,u.1<d.1)∧∀u,ds[k]? =some u→d.1≤u.1) ?_ ?_
 ·refine swp_loop (σ:=Nat) (λk=> [(0,.slice a ds.length c),(3,.pointer (some ⟨b1,0,none⟩)),(5,.int .i64 k)]) (λ_=>pt b1 (cl (dC d) 157)::A)
   (λk=>k≤ds.length∧∀u∈ds.take k,u.1<d.1) (λk=>ds.length - k) 0 zt (Ent.refl _) ⟨by omega,by simp⟩ ?_
  rintro k ⟨hk,hall⟩
  by_cases hlt:k<ds.length
  ·obtain ⟨q,hq⟩:=mem_get hlt
   obtain ⟨b,oo,hia,hr⟩:=RdS.elem (g:=dC) (λ_=>rfl) h hq rfl;rw[hia]
   by_cases he:q.1<d.1
   ·refine Q.r ?_
    refine D.start [] [] [0,1,2,3,4,5,6,7,8,9,10,11,12,13] _ [] rfl zk rfl zk NoPanic.no (Ent.refl _) ?_;refine Q.rd5 ?_;refine Q.r ?_;refine ⟨k+1,zt,Ent.refl _,⟨by omega,?_⟩,by omega⟩;rw[take_snoc hq];intro u hu
    rcases List.mem_append.1 hu with hu|hu
    ·exact hall u hu
    ·obtain rfl:=List.mem_singleton.1 hu
     exact he
   ·refine Q.r ?_
    refine D.start [] [] [0,1,2,3,4,5,6,7,8,9,10,11,12,13] _ [] rfl zk rfl zk NoPanic.no (Ent.refl _) ?_;refine Q.rd5 ?_;refine Q.r ?_;refine ⟨k,zt,Ent.refl _,hk,hall,λu hu=> ?_⟩;rw[hq] at hu
    cases hu
    omega
  ·refine Q.r ?_
   refine D.start [] [] [0,1,2,3,4,5,6,7,8,9,10,11,12,13] _ [] rfl zk rfl zk NoPanic.no (Ent.refl _) ?_;refine Q.rd5 ?_;refine Q.r ?_;refine ⟨k,zt,Ent.refl _,hk,hall,λu hu=> ?_⟩;have:=(List.getElem?_eq_some_iff.1 hu).1;omega
 rintro k ⟨hk,hall,hnx⟩;have hat:ds.length=0∨∃b o,a=some ⟨b,o,none⟩:=by
  rcases h.2 with h0|⟨b,o,h0,_⟩
  ·exact .inl h0
  ·exact .inr ⟨b,o,h0⟩
 have hge:∀u∈ds.drop k,d.1≤u.1:=by
  by_cases hlt:k<ds.length
  ·obtain ⟨q,hq⟩:=mem_get hlt
   have h1:=hnx q hq;have e:ds.drop k=q::ds.drop (k+1):=by rw[←(List.getElem?_eq_some_iff.1 hq).2,List.getElem_cons_drop]
   have h2:=hs;rw[←List.take_append_drop k ds,List.map_append,List.pairwise_append] at h2;have h3:=h2.2.1;rw[e,List.map_cons,List.pairwise_cons] at h3;intro u hu;rw[e] at hu
   rcases List.mem_cons.1 hu with rfl|hu
   ·exact h1
   ·have:=h3.1 u.1 (List.mem_map_of_mem hu)
    omega
  ·intro u hu
   rw[List.drop_eq_nil_of_le zo] at hu
   cases hu
 have hI:=insD_eq hall hge
 by_cases hx:∃q,ds[k]? =some q∧q.1=d.1
 ·obtain ⟨q,hq,he⟩:=hx
  have hlt:k<ds.length:=(List.getElem?_eq_some_iff.1 hq).1;have e:ds.drop k=q::ds.drop (k+1):=by rw[←(List.getElem?_eq_some_iff.1 hq).2,List.getElem_cons_drop]
  have hf:(ds.drop k).filter (λu=>decide (d.1<u.1))=ds.drop (k+1):=by
   have h2:=hs;rw[←List.take_append_drop k ds,List.map_append,List.pairwise_append] at h2;have h3:=h2.2.1;rw[e,List.map_cons,List.pairwise_cons] at h3;rw[e,List.filter_cons,if_neg (by simp;omega),List.filter_eq_self.2 (λu hu=>by have:=h3.1 u.1 (List.mem_map_of_mem hu);simp;omega)]
  rw[hf] at hI;have hlen:(insD ds d).length=ds.length:=by rw[hI];simp;omega
  have hcells:putAt (ds.flatMap dC) (0+k*2) (dC d)=(insD ds d).flatMap dC:=by
   unfold putAt;rw[Nat.zero_add,flat_take (sz:=2) (λ_=>rfl),show k*2+(dC d).length=(k+1)*2 by simp;omega,flat_drop (sz:=2) (λ_=>rfl),hI,List.flatMap_append,List.flatMap_cons,List.append_assoc]
  have hcl:(ds.flatMap dC).length=ds.length*2:=h.1;rw[hlen,←hcells];obtain ⟨b,oo,hia,hr⟩:=RdS.elem (g:=dC) (λ_=>rfl) h hq rfl;subst hia;refine Q.r ?_;refine D.start [] [] [0,1,2,3,4,5,6,7,8,9,10,11,12,13] _ [] rfl zk rfl zk NoPanic.no (Ent.refl _) ?_;refine Q.rd5 ?_;refine Q.r ?_;(repeat (intro b1;refine Q.r ?_));refine opsS_ent (slO_fold (sz:=2) (m:=0) rfl) ?_;refine S.app0 rfl rfl rfl (SrcS.rd h.sub (dC_one _)) zr zo zo (λa5 c5=> ?_);refine opsS_addr a5 (λha5=> ?_)
  rcases ha5 with ha5|⟨b5,rfl⟩
  ·omega
  refine Q.r ?_;refine S.stON (ds:=dC d) rfl rfl rfl rfl rfl (by show 0+k*2+2≤(ds.flatMap dC).length;omega) rfl ?_;refine Q.r ?_;refine N.t rfl ?_ ⟨_,c5,rfl,rfl⟩;exact eG
 ·have hf:(ds.drop k).filter (λu=>decide (d.1<u.1))=ds.drop k:=by
   refine List.filter_eq_self.2 λu hu=> ?_
   have h1:=hge u hu
   by_cases he:u.1=d.1
   ·exfalso
    by_cases hlt:k<ds.length
    ·obtain ⟨q,hq⟩:=mem_get hlt
     have e:ds.drop k=q::ds.drop (k+1):=by rw[←(List.getElem?_eq_some_iff.1 hq).2,List.getElem_cons_drop]
     have h2:=hs;rw[←List.take_append_drop k ds,List.map_append,List.pairwise_append] at h2;have h3:=h2.2.1;rw[e,List.map_cons,List.pairwise_cons] at h3;rw[e] at hu
     rcases List.mem_cons.1 hu with rfl|hu
     ·exact hx ⟨_,hq,he⟩
     ·have:=h3.1 u.1 (List.mem_map_of_mem hu)
      have:=hnx q hq;omega
    ·rw[List.drop_eq_nil_of_le zo] at hu
     cases hu
   ·simp;omega
  rw[hf] at hI;have hlen:(insD ds d).length=k+1+(ds.length - k):=by rw[hI];simp;omega
  have hcells:(insD ds d).flatMap dC=(ds.flatMap dC).take (k*2)++dC d++(ds.flatMap dC).drop (k*2):=by
   rw[flat_take (sz:=2) (λ_=>rfl),flat_drop (sz:=2) (λ_=>rfl),hI,List.flatMap_append,List.flatMap_cons,List.append_assoc]
  rw[hlen,hcells]
  by_cases hlt:k<ds.length
  ·obtain ⟨q,hq⟩:=mem_get hlt
   have hne:¬q.1=d.1:=λhe=>hx ⟨q,hq,he⟩
   obtain ⟨b,oo,hia,hr⟩:=RdS.elem (g:=dC) (λ_=>rfl) h hq rfl;rw[hia] at h hat ⊢;refine Q.r ?_;refine D.start [] [] [0,1,2,3,4,5,6,7,8,9,10,11,12,13] _ [] rfl zk rfl zk NoPanic.no (Ent.refl _) ?_;refine Q.rd5 ?_;refine Q.r ?_;refine Q.dgo [true] [0,4,6,7,11] [] [1,2,3,5,8,9,10,99999,0,0,0,0,0] ?_;refine Q.rd ?_;refine D.yp rfl rfl rfl (Y.slT (h:=k) rfl rfl rfl zo) ?_;refine Q.rd ?_;refine D.yp rfl rfl rfl (Y.slFa (l:=k) rfl rfl rfl hk hat) ?_;refine Q.rd ?_;refine D.two 0 6 [99999,0,0,0,0] [0,4,7,11,12] zk rfl rfl rfl rfl zk zk ?_ ?_
   ·refine GQ.a ?_
    refine Q.al (λbz=> ?_)
    repeat (first|(refine GQ.y ?_;refine Q.y ?_)|refine Q.go ?_|(refine GQ.g ?_;refine Q.gq ?_)|(refine GQ.s ?_;refine Q.st ?_))
    refine Q.rd ?_;refine D.two 4 6 [6,7,11,12] [4,7,11,12] zk rfl rfl rfl rfl zk zk ?_ ?_
    ·first|refine opsS_ent (slO_fold (sz:=2) (m:=0) rfl) ?_|refine opsS_ent (Ent.trans (Ent.perm (.swap _ _ _)) (slO_fold (sz:=2) (m:=0) rfl)) ?_
     refine S.app0 rfl rfl rfl (SrcS.rd (RdS.take (k:=k) h.sub zo) (by rw[flat_take (sz:=2) (λ_=>rfl)];exact dC_one _)) zr zo zo (λa6 c6=> ?_)
     repeat (first|(refine GQ.y ?_;refine Q.y ?_)|refine Q.go ?_|(refine GQ.g ?_;refine Q.gq ?_)|(refine GQ.s ?_;refine Q.st ?_))
     refine Q.rd ?_;(repeat (intro b1;refine Q.rd ?_));refine D.e rfl rfl rfl ?_;refine S.app rfl rfl (SrcS.sl RdC.row zr zr) zr zo zo (λa7 c7=> ?_)
     repeat (first|(refine GQ.y ?_;refine Q.y ?_)|refine Q.go ?_|(refine GQ.g ?_;refine Q.gq ?_)|(refine GQ.s ?_;refine Q.st ?_))
     refine Q.rd ?_;refine D.e rfl rfl rfl ?_;refine S.app rfl rfl (SrcS.rd (RdS.fromA (l:=k) h.sub zo hc) (by rw[flat_drop (sz:=2) (λ_=>rfl)];exact dC_one _)) zr zo zo (λa8 c8=> ?_)
     repeat (first|(refine GQ.y ?_;refine Q.y ?_)|refine Q.go ?_|(refine GQ.g ?_;refine Q.gq ?_)|(refine GQ.s ?_;refine Q.st ?_))
     refine Q.rd ?_;refine Q.r ?_;exact N.t rfl eG ⟨a8,c8,rfl,rfl⟩
    ·refine GQ.a ?_
     refine Q.al (λb8=> ?_)
     repeat (first|(refine GQ.y ?_;refine Q.y ?_)|refine Q.go ?_|(refine GQ.g ?_;refine Q.gq ?_)|(refine GQ.s ?_;refine Q.st ?_))
     refine Q.rd ?_;refine D.e rfl rfl rfl ?_
     first|refine opsS_ent (slO_fold (sz:=2) (m:=0) rfl) ?_|refine opsS_ent (Ent.trans (Ent.perm (.swap _ _ _)) (slO_fold (sz:=2) (m:=0) rfl)) ?_
     refine S.app0 rfl rfl rfl (SrcS.rd (RdS.take (k:=k) h.sub zo) (by rw[flat_take (sz:=2) (λ_=>rfl)];exact dC_one _)) zr zo zo (λa6 c6=> ?_)
     repeat (first|(refine GQ.y ?_;refine Q.y ?_)|refine Q.go ?_|(refine GQ.g ?_;refine Q.gq ?_)|(refine GQ.s ?_;refine Q.st ?_))
     refine Q.rd ?_;refine D.e rfl rfl rfl ?_;refine S.app rfl rfl (SrcS.sl RdC.row zr zr) zr zo zo (λa7 c7=> ?_)
     repeat (first|(refine GQ.y ?_;refine Q.y ?_)|refine Q.go ?_|(refine GQ.g ?_;refine Q.gq ?_)|(refine GQ.s ?_;refine Q.st ?_))
     refine Q.rd ?_;refine D.e rfl rfl rfl ?_;refine S.app rfl rfl (SrcS.rd (RdS.fromA (l:=k) h.sub zo hc) (by rw[flat_drop (sz:=2) (λ_=>rfl)];exact dC_one _)) zr zo zo (λa8 c8=> ?_)
     repeat (first|(refine GQ.y ?_;refine Q.y ?_)|refine Q.go ?_|(refine GQ.g ?_;refine Q.gq ?_)|(refine GQ.s ?_;refine Q.st ?_))
     refine Q.rd ?_;refine Q.r ?_;exact N.t rfl eG ⟨a8,c8,rfl,rfl⟩
   ·refine GQ.a ?_
    refine Q.al (λb8=> ?_)
    repeat (first|(refine GQ.y ?_;refine Q.y ?_)|refine Q.go ?_|(refine GQ.g ?_;refine Q.gq ?_)|(refine GQ.s ?_;refine Q.st ?_))
    refine Q.rd ?_;(repeat (intro b1;refine Q.rd ?_));refine D.e rfl rfl rfl ?_
    first|refine opsS_ent (slO_fold (sz:=2) (m:=0) rfl) ?_|refine opsS_ent (Ent.trans (Ent.perm (.swap _ _ _)) (slO_fold (sz:=2) (m:=0) rfl)) ?_
    refine S.app0 rfl rfl rfl (SrcS.rd (RdS.take (k:=k) h.sub zo) (by rw[flat_take (sz:=2) (λ_=>rfl)];exact dC_one _)) zr zo zo (λa6 c6=> ?_)
    repeat (first|(refine GQ.y ?_;refine Q.y ?_)|refine Q.go ?_|(refine GQ.g ?_;refine Q.gq ?_)|(refine GQ.s ?_;refine Q.st ?_))
    refine Q.rd ?_;refine D.e rfl rfl rfl ?_;refine S.app rfl rfl (SrcS.sl RdC.row zr zr) zr zo zo (λa7 c7=> ?_)
    repeat (first|(refine GQ.y ?_;refine Q.y ?_)|refine Q.go ?_|(refine GQ.g ?_;refine Q.gq ?_)|(refine GQ.s ?_;refine Q.st ?_))
    refine Q.rd ?_;refine D.e rfl rfl rfl ?_;refine S.app rfl rfl (SrcS.rd (RdS.fromA (l:=k) h.sub zo hc) (by rw[flat_drop (sz:=2) (λ_=>rfl)];exact dC_one _)) zr zo zo (λa8 c8=> ?_)
    repeat (first|(refine GQ.y ?_;refine Q.y ?_)|refine Q.go ?_|(refine GQ.g ?_;refine Q.gq ?_)|(refine GQ.s ?_;refine Q.st ?_))
    refine Q.rd ?_;refine Q.r ?_;exact N.t rfl eG ⟨a8,c8,rfl,rfl⟩
  ·refine Q.r ?_
   refine D.start [] [] [0,1,2,3,4,5,6,7,8,9,10,11,12,13] _ [] rfl zk rfl zk NoPanic.no (Ent.refl _) ?_;refine Q.rd5 ?_;refine Q.r ?_;refine Q.dgo [true] [0,4,6,7,11] [] [1,2,3,5,8,9,10,99999,0,0,0,0,0] ?_;refine Q.rd ?_;refine D.yp rfl rfl rfl (Y.slT (h:=k) rfl rfl rfl zo) ?_;refine Q.rd ?_;refine D.yp rfl rfl rfl (Y.slFa (l:=k) rfl rfl rfl hk hat) ?_;refine Q.rd ?_;refine D.two 0 6 [99999,0,0,0,0] [0,4,7,11,12] zk rfl rfl rfl rfl zk zk ?_ ?_
   ·refine GQ.a ?_
    refine Q.al (λbz=> ?_)
    repeat (first|(refine GQ.y ?_;refine Q.y ?_)|refine Q.go ?_|(refine GQ.g ?_;refine Q.gq ?_)|(refine GQ.s ?_;refine Q.st ?_))
    refine Q.rd ?_;refine D.two 4 6 [6,7,11,12] [4,7,11,12] zk rfl rfl rfl rfl zk zk ?_ ?_
    ·first|refine opsS_ent (slO_fold (sz:=2) (m:=0) rfl) ?_|refine opsS_ent (Ent.trans (Ent.perm (.swap _ _ _)) (slO_fold (sz:=2) (m:=0) rfl)) ?_
     refine S.app0 rfl rfl rfl (SrcS.rd (RdS.take (k:=k) h.sub zo) (by rw[flat_take (sz:=2) (λ_=>rfl)];exact dC_one _)) zr zo zo (λa6 c6=> ?_)
     repeat (first|(refine GQ.y ?_;refine Q.y ?_)|refine Q.go ?_|(refine GQ.g ?_;refine Q.gq ?_)|(refine GQ.s ?_;refine Q.st ?_))
     refine Q.rd ?_;(repeat (intro b1;refine Q.rd ?_));refine D.e rfl rfl rfl ?_;refine S.app rfl rfl (SrcS.sl RdC.row zr zr) zr zo zo (λa7 c7=> ?_)
     repeat (first|(refine GQ.y ?_;refine Q.y ?_)|refine Q.go ?_|(refine GQ.g ?_;refine Q.gq ?_)|(refine GQ.s ?_;refine Q.st ?_))
     refine Q.rd ?_;refine D.e rfl rfl rfl ?_;refine S.app rfl rfl (SrcS.rd (RdS.fromA (l:=k) h.sub zo hc) (by rw[flat_drop (sz:=2) (λ_=>rfl)];exact dC_one _)) zr zo zo (λa8 c8=> ?_)
     repeat (first|(refine GQ.y ?_;refine Q.y ?_)|refine Q.go ?_|(refine GQ.g ?_;refine Q.gq ?_)|(refine GQ.s ?_;refine Q.st ?_))
     refine Q.rd ?_;refine Q.r ?_;exact N.t rfl eG ⟨a8,c8,rfl,rfl⟩
    ·refine GQ.a ?_
     refine Q.al (λb8=> ?_)
     repeat (first|(refine GQ.y ?_;refine Q.y ?_)|refine Q.go ?_|(refine GQ.g ?_;refine Q.gq ?_)|(refine GQ.s ?_;refine Q.st ?_))
     refine Q.rd ?_;refine D.e rfl rfl rfl ?_
     first|refine opsS_ent (slO_fold (sz:=2) (m:=0) rfl) ?_|refine opsS_ent (Ent.trans (Ent.perm (.swap _ _ _)) (slO_fold (sz:=2) (m:=0) rfl)) ?_
     refine S.app0 rfl rfl rfl (SrcS.rd (RdS.take (k:=k) h.sub zo) (by rw[flat_take (sz:=2) (λ_=>rfl)];exact dC_one _)) zr zo zo (λa6 c6=> ?_)
     repeat (first|(refine GQ.y ?_;refine Q.y ?_)|refine Q.go ?_|(refine GQ.g ?_;refine Q.gq ?_)|(refine GQ.s ?_;refine Q.st ?_))
     refine Q.rd ?_;refine D.e rfl rfl rfl ?_;refine S.app rfl rfl (SrcS.sl RdC.row zr zr) zr zo zo (λa7 c7=> ?_)
     repeat (first|(refine GQ.y ?_;refine Q.y ?_)|refine Q.go ?_|(refine GQ.g ?_;refine Q.gq ?_)|(refine GQ.s ?_;refine Q.st ?_))
     refine Q.rd ?_;refine D.e rfl rfl rfl ?_;refine S.app rfl rfl (SrcS.rd (RdS.fromA (l:=k) h.sub zo hc) (by rw[flat_drop (sz:=2) (λ_=>rfl)];exact dC_one _)) zr zo zo (λa8 c8=> ?_)
     repeat (first|(refine GQ.y ?_;refine Q.y ?_)|refine Q.go ?_|(refine GQ.g ?_;refine Q.gq ?_)|(refine GQ.s ?_;refine Q.st ?_))
     refine Q.rd ?_;refine Q.r ?_;exact N.t rfl eG ⟨a8,c8,rfl,rfl⟩
   ·refine GQ.a ?_
    refine Q.al (λb8=> ?_)
    repeat (first|(refine GQ.y ?_;refine Q.y ?_)|refine Q.go ?_|(refine GQ.g ?_;refine Q.gq ?_)|(refine GQ.s ?_;refine Q.st ?_))
    refine Q.rd ?_;(repeat (intro b1;refine Q.rd ?_));refine D.e rfl rfl rfl ?_
    first|refine opsS_ent (slO_fold (sz:=2) (m:=0) rfl) ?_|refine opsS_ent (Ent.trans (Ent.perm (.swap _ _ _)) (slO_fold (sz:=2) (m:=0) rfl)) ?_
    refine S.app0 rfl rfl rfl (SrcS.rd (RdS.take (k:=k) h.sub zo) (by rw[flat_take (sz:=2) (λ_=>rfl)];exact dC_one _)) zr zo zo (λa6 c6=> ?_)
    repeat (first|(refine GQ.y ?_;refine Q.y ?_)|refine Q.go ?_|(refine GQ.g ?_;refine Q.gq ?_)|(refine GQ.s ?_;refine Q.st ?_))
    refine Q.rd ?_;refine D.e rfl rfl rfl ?_;refine S.app rfl rfl (SrcS.sl RdC.row zr zr) zr zo zo (λa7 c7=> ?_)
    repeat (first|(refine GQ.y ?_;refine Q.y ?_)|refine Q.go ?_|(refine GQ.g ?_;refine Q.gq ?_)|(refine GQ.s ?_;refine Q.st ?_))
    refine Q.rd ?_;refine D.e rfl rfl rfl ?_;refine S.app rfl rfl (SrcS.rd (RdS.fromA (l:=k) h.sub zo hc) (by rw[flat_drop (sz:=2) (λ_=>rfl)];exact dC_one _)) zr zo zo (λa8 c8=> ?_)
    repeat (first|(refine GQ.y ?_;refine Q.y ?_)|refine Q.go ?_|(refine GQ.g ?_;refine Q.gq ?_)|(refine GQ.s ?_;refine Q.st ?_))
    refine Q.rd ?_;refine Q.r ?_;exact N.t rfl eG ⟨a8,c8,rfl,rfl⟩
end Go.Proofs.YtjlgabojhnnbaaaGreatDoor
namespace Go.Proofs.YtjlgabojhnnbaaaGreatDoor
open Go Go.SX
attribute [local irreducible] swp opsS thenS blockS retS CallsS St Ent YieldS anyS drawS
theorem SameHitsN_spec (a:OA)(c:Nat)(xs:List HV)(a':OA)(c':Nat)(ys:List HV)(A:HL)(h:RdS A a xs.length 3 (xs.flatMap HV.cells)∧∀o∈xs,RdS A o.a o.vec.length 1 (o.vec.map I32))(h':RdS A a' ys.length 3 (ys.flatMap HV.cells)∧∀o∈ys,RdS A o.a o.vec.length 1 (o.vec.map I32))(hn:xs.length≤1000000)(hv:∀o∈xs,o.vec.length≤1000000)(he:xs.map HV.abs=ys.map HV.abs):
  CallsS Tryz.prog 91 [.slice a xs.length c,.slice a' ys.length c'] A (λv L'=>v=.bool true∧L'=A):=by
 have hl:ys.length=xs.length:=by
  have:=congrArg List.length he
  simp at this;omega
 refine CallsS.of_body Tryz.func91 rfl rfl rfl ?_;refine Q.r ?_;refine swp_loop (σ:=Nat) (λk=> [(0,.slice a xs.length c),(1,.slice a' ys.length c'),(12,.int .i64 xs.length),(13,.int .i64 k)]) (λ_=>A)
  (λk=>k≤xs.length) (λk=>xs.length - k) 0 zt (Ent.refl _) zo ?_
 intro k hk
 by_cases hlt:k<xs.length
 ·obtain ⟨x,hx⟩:=mem_get hlt
  obtain ⟨y,hy⟩:=mem_get (l:=ys) (k:=k) zo;have hxy:x.abs=y.abs:=by
   have h1:(xs.map HV.abs)[k]? =some x.abs:=by simp[hx]
   have h2:(ys.map HV.abs)[k]? =some y.abs:=by simp[hy]
   rw[he,h2] at h1;exact (Option.some.inj h1).symm
  have hid:x.id=y.id:=congrArg Prod.fst hxy;have hds:x.dist=y.dist:=congrArg (λz=>z.2.1) hxy;have hvc:x.vec=y.vec:=congrArg (λz=>z.2.2) hxy;have hmx:x∈xs:=List.mem_of_getElem? hx;have hmy:y∈ys:=List.mem_of_getElem? hy;have hrx:=h.2 x hmx;have hry:=h'.2 y hmy;have hvx:=hv x hmx;obtain ⟨b,o,rfl,hr⟩:=RdS.elem (g:=HV.cells) (l:=xs) (λ_=>rfl) h.1 hx rfl;obtain ⟨b',o',rfl,hr'⟩:=RdS.elem (g:=HV.cells) (l:=ys) (λ_=>rfl) h'.1 hy rfl;clear hx hy hmx hmy hxy he;obtain ⟨xi,xd,xa,xc,xv⟩:=x;obtain ⟨yi,yd,ya,yc,yv⟩:=y;dsimp only at hid hds hvc hrx hry hvx;subst hid hds hvc
  replace hr:RdC A b (o+k*3) [.int .u64 xi,.int .u64 xd,.slice xa xv.length xc]:=hr
  replace hr':RdC A b' (o'+k*3) [.int .u64 xi,.int .u64 xd,.slice ya xv.length yc]:=hr'
  refine Q.r ?_;refine D.start [35] [35] [0,1,2,3,4,5,6,7,8,9,10,11,12,13,14,15,16,17,18,19,20,21,22,23,24,25,26,27,28,29,30,31,32,33,34,35,36,37] _ [] rfl zk rfl zk NoPanic.no (Ent.refl _) ?_;refine Q.rd5 ?_;refine Q.dF rfl rfl rfl ?_ (by simp);refine Q.rd5 ?_;refine Q.dF rfl rfl rfl ?_ (by simp);refine Q.rd5 ?_;refine Q.dc rfl rfl rfl rfl ?_;rw[List.append_nil];refine S.guard rfl ?_;refine S.cr rfl (SameVec_spec xa xc xv ya yc xv _ hrx.sub hry.sub zo) ?_;rintro _ _ ⟨rfl,he⟩;rw[he];clear he;refine Q.r ?_;refine Q.rd5 ?_;refine Q.r ?_;exact ⟨k+1,zt,Ent.refl _,by omega,by omega⟩
 ·have hke:k=xs.length:=by omega
  subst hke;refine Q.r ?_;exact N.t rfl (Ent.refl _) ⟨rfl,rfl⟩
theorem okmap {α β:Type}{f:α→β}{xs ys:List α}(he:xs.map f=ys.map f){k:Nat}{x y:α}(hx:xs[k]? =some x)(hy:ys[k]? =some y):f x=f y:=by
 have h1:(xs.map f)[k]? =some (f x):=by simp[hx]
 have h2:(ys.map f)[k]? =some (f y):=by simp[hy]
 rw[he,h2] at h1;exact (Option.some.inj h1).symm
theorem Same12_spec (n m:NV)(A:HL)(h:RdN A n)(h':RdN A m)(hk:OkN n)(hk':OkN m)(he:n.abs=m.abs):
  CallsS Tryz.prog 23 [n.val,m.val] A (λr L'=>r=.bool true∧L'=A):=by
 obtain ⟨x0,x1,x2,x3,x4,x5,x6,x7,x8,x9,x10,x11,pa,pc,ps,oa,oc,os,va,vc,vs,ha,hc,hs⟩:=n;obtain ⟨y0,y1,y2,y3,y4,y5,y6,y7,y8,y9,y10,y11,pa',pc',ps',oa',oc',os',va',vc',vs',ha',hc',hs'⟩:=m;simp only[NA.mk.injEq] at he;obtain ⟨rfl,rfl,rfl,rfl,rfl,rfl,rfl,rfl,rfl,rfl,rfl,rfl,rfl,ho,rfl,hh⟩:=he;have p1:=hk.p;dsimp only at p1;refine CallsS.of_body Tryz.func23 rfl rfl rfl ?_;refine Q.r ?_;(repeat (intro b1;refine Q.r ?_));rename_i b0;refine swp_cutB (σ:=Unit) (λ_=> [(2,.pointer (some ⟨b0,0,none⟩)),(3,.pointer (some ⟨b1,0,none⟩))])
  (λ_=>pt b1 (cl (NV.cells ⟨x0,x1,x2,x3,x4,x5,x6,x7,x8,x9,x10,x11,pa',pc',ps,oa',oc',os',va',vc',vs,ha',hc',hs'⟩) 37)::pt b0 (cl (NV.cells ⟨x0,x1,x2,x3,x4,x5,x6,x7,x8,x9,x10,x11,pa,pc,ps,oa,oc,os,va,vc,vs,ha,hc,hs⟩) 37)::A) (λ_=>True) ?_ ?_
 ·refine swp_loop (σ:=Nat) (λk=> [(2,.pointer (some ⟨b0,0,none⟩)),(3,.pointer (some ⟨b1,0,none⟩)),(99,.int .i64 ps.length),(100,.int .i64 k)])
   (λ_=>pt b1 (cl (NV.cells ⟨x0,x1,x2,x3,x4,x5,x6,x7,x8,x9,x10,x11,pa',pc',ps,oa',oc',os',va',vc',vs,ha',hc',hs'⟩) 37)::pt b0 (cl (NV.cells ⟨x0,x1,x2,x3,x4,x5,x6,x7,x8,x9,x10,x11,pa,pc,ps,oa,oc,os,va,vc,vs,ha,hc,hs⟩) 37)::A)
   (λk=>k≤ps.length) (λk=>ps.length - k) 0 zt (Ent.refl _) zo ?_
  intro k hk1
  by_cases hlt:k<ps.length
  ·obtain ⟨p,hp⟩:=mem_get hlt
   have hp1:RdS A pa ps.length 1 (ps.map I64):=h.p;have hp2:RdS A pa' ps.length 1 (ps.map I64):=h'.p;obtain ⟨bp,op,hpa,hr⟩:=RdS.elem (g:=λz=> [I64 z]) (λ_=>rfl) (by rw[flat_I64];exact hp1) hp rfl;obtain ⟨bq,oq,hqa,hr2⟩:=RdS.elem (g:=λz=> [I64 z]) (λ_=>rfl) (by rw[flat_I64];exact hp2) hp rfl;clear hp1 hp2;subst hpa hqa;refine Q.r ?_;refine D.start [] [] [0,1,2,3,4,5,6,7,8,9,10] _ [] rfl zk rfl zk NoPanic.no (Ent.refl _) ?_;refine Q.rd5 ?_;refine Q.r ?_;exact ⟨k+1,zt,Ent.refl _,by omega,by omega⟩
  ·have hke:k=ps.length:=by omega
   subst hke;refine Q.r ?_;exact ⟨(),zt,Ent.refl _,trivial⟩
 ·rintro _ _
  refine Q.r ?_;refine S.cr rfl (SameOps_spec oa oc os oa' oc' os' _ (RdO.sub h.o) (RdO.sub h'.o) hk.o hk.ov ho) ?_;rintro _ _ ⟨rfl,rfl⟩;refine Q.r ?_;refine S.cr rfl (SameVec_spec va vc vs va' vc' vs _ (RdS.sub h.v) (RdS.sub h'.v) (by have:=hk.v;dsimp only at this;omega)) ?_;rintro _ _ ⟨rfl,rfl⟩;rw[decide_eq_true rfl];refine Q.r ?_;refine S.cr rfl (SameHitsN_spec ha hc hs ha' hc' hs' _ ⟨RdS.sub h.h,λo ho=>RdS.sub (h.hv o ho)⟩ ⟨RdS.sub h'.h,λo ho=>RdS.sub (h'.hv o ho)⟩ hk.h hk.hv hh) ?_;rintro _ _ ⟨rfl,rfl⟩;refine Q.r ?_;exact N.t rfl (Ent.drop (Ent.drop (Ent.refl _))) ⟨rfl,rfl⟩
abbrev mcells (m:Int×NV):List Value:=I64 m.1::m.2.cells
end Go.Proofs.YtjlgabojhnnbaaaGreatDoor
namespace Go.SX
open Go
section
variable {P : Program} {n : Nat} {ops rest : List Oper} {cd : Code} {Q : Post} {f : Env} {L L0 L1 L2 : HL} {d : Tmp} {ty : TypeId} {pos : String} {af : Array Edge} {A B C : HP} {g : FuncId} {xs : Array Operand} {ats : Array TypeId} {args : List Value} {R : Value → HL → Prop}
theorem S.c1 [he:Enters P g](hx:argsL f xs.toList=some args)(hc:CallsS P g args (A::L0) R)[h1:Pick A L L0](hk:∀v L',R v L'→opsS P n ops rest Q (upd f d v) L'):
  opsS P n ops (⟨some d,.call ⟨.value (.func g),xs,ats⟩,ty,pos,af,none⟩::rest) Q f L:=opsS_ent h1.ent (S.cr hx hc hk)
theorem S.c2 [he:Enters P g](hx:argsL f xs.toList=some args)(hc:CallsS P g args (A::B::L1) R)[h1:Pick A L L0][h2:Pick B L0 L1](hk:∀v L',R v L'→opsS P n ops rest Q (upd f d v) L'):
  opsS P n ops (⟨some d,.call ⟨.value (.func g),xs,ats⟩,ty,pos,af,none⟩::rest) Q f L:=opsS_ent (h1.ent.trans h2.ent.cons) (S.cr hx hc hk)
theorem S.c3 [he:Enters P g](hx:argsL f xs.toList=some args)(hc:CallsS P g args (A::B::C::L2) R)[h1:Pick A L L0][h2:Pick B L0 L1][h3:Pick C L1 L2](hk:∀v L',R v L'→opsS P n ops rest Q (upd f d v) L'):
  opsS P n ops (⟨some d,.call ⟨.value (.func g),xs,ats⟩,ty,pos,af,none⟩::rest) Q f L:=opsS_ent (h1.ent.trans (h2.ent.trans h3.ent.cons).cons) (S.cr hx hc hk)
end
end Go.SX
namespace Go.Proofs.YtjlgabojhnnbaaaGreatDoor
open Go Go.SX
attribute [local irreducible] swp opsS thenS blockS retS CallsS St Ent YieldS anyS drawS
abbrev qR :HP:=slO 37 16 none 0 0 []
abbrev qM :HP:=slO 183 17 none 0 0 []
def liftQ (n:NV)(r:NA):NV:=if r.kind=12 then ⟨12,n.txn,0,0,n.after,0,0,0,0,0,0,0,n.pa,n.pc,n.parts,n.oa,n.oc,n.ops,none,0,[],none,0,[]⟩ else r.nv
def planQ (n:NV)(p:Nat)(j:JS)(pl:PA)(L:HL)(r:Value)(L':HL):Prop:=∃(ra:OA) (rc:Nat) (ma:OA) (mc:Nat) (ea:OA) (ec:Nat),
 r=.agg #[.slice ra pl.rec_.length rc,.slice ma pl.mail.length mc,.slice ea pl.els.length ec]∧
 L'=slO 37 16 ra pl.rec_.length rc (pl.rec_.flatMap λr=>(liftQ n r).cells)::slO 183 17 ma pl.mail.length mc (pl.mail.flatMap mailC)::slO 183 17 ea pl.els.length ec (pl.els.flatMap mailC)::rjH p j::L
theorem Rvote_spec (t c:Int)(L:HL):
  CallsS Tryz.prog 86 [.int .u64 t,.int .i64 c] L (λr L'=>r=.agg (mailC (voteN t c)).toArray∧L'=L):=by
 refine CallsS.of_body Tryz.func86 rfl rfl rfl ?_;refine Q.r ?_;(repeat (intro b1;refine Q.r ?_));exact N.r1 RV.c (Ent.drop (Ent.refl _)) ⟨rfl,rfl⟩
theorem taken_ref {is:List IV}{st:VS}(hp:(is.map IV.abs).Perm st.its)(ops:List OV):takenV st (ops.map OV.abs)=is.any λi=>ops.any λo=>holdsV (i.ops.map OV.abs) o.id:=by
 unfold takenV;rw[←hp.any_eq,List.any_map]
 congr 1;funext i
 rw[Bool.eq_iff_iff];simp only[Function.comp,List.any_eq_true,List.any_map,holdsV,decide_eq_true_eq]
 constructor
 ·rintro ⟨x,hx,o,ho,h⟩;exact ⟨o,ho,x,hx,h.symm⟩
 ·rintro ⟨o,ho,x,hx,h⟩;exact ⟨x,hx,o,ho,h.symm⟩
theorem rjc {p v:Nat}{sf:Int}{M Mv:OM}{j:JS}{pa:OA}{pc:Nat}{ps:List QV}{da:OA}{dc:Nat}{ds:List (Int×Int)}{a a':OA}{c c':Nat}{es:List EV}{is:List IV}{L L0 L1 L2 L3:HL}[h1:Pick (rjP p sf v pa ps pc da ds dc) L L0][h2:Pick (rP v j.v.dim a es c a' is c' j.v.mark) L0 L1][h3:Pick (roM Mv) L1 L2][h4:Pick (roM M) L2 L3]
  (hq:RJOK M j sf pa pc ps da dc ds) (hok:ROK Mv j.v a c es a' c' is):Ent L (rjH p j::L3):=by
 refine Ent.trans (h1.ent.trans (Ent.cons (h2.ent.trans (Ent.cons (h3.ent.trans (Ent.cons h4.ent)))))) ?_;refine Ent.trans (Ent.cons (ref_shut (L:=roM M::L3) hok)) ?_;exact rj_shut hq
theorem above_ref {st:VS}{n:Nat}(hw:WFK st n)(hne:∀c∈st.ch,0<c.2.length)(s:Int)(ops:VL):aboveV st s ops= !ops.any λo=>(chV st.ch o.1).any λv=>decide (s≤v.1):=by
 unfold aboveV
 congr 1
 rw[Bool.eq_iff_iff];simp only[List.any_eq_true,Bool.and_eq_true,decide_eq_true_eq,holdsV]
 constructor
 ·rintro ⟨c,hc,hs,o,ho,hoc⟩
  have hlk:lkL st.ch c.1=some c.2:=(lkL_iff hw.k1).2 hc;have h1:=hne c hc;refine ⟨o,ho,?_⟩;unfold chV;rw[hoc,hlk,Option.getD_some];refine ⟨c.2[c.2.length - 1],List.getElem_mem _,?_⟩;unfold lastS at hs;rw[List.getLast?_eq_getElem?,List.getElem?_eq_getElem zo] at hs;exact hs
 ·rintro ⟨o,ho,v,hv,hs⟩
  unfold chV at hv
  cases hz:lkL st.ch o.1 with
  |none=>rw[hz] at hv;cases hv
  |some w=>
   rw[hz,Option.getD_some] at hv;have hm:=lk_memL hz;have hl:=sorted_last (hw.wf.co _ hm).1 v hv;exact ⟨_,hm,Int.le_trans hs hl,o,ho,rfl⟩
theorem RDo_spec (n:NV)(p:Nat)(j:JS)(k:Nat)(fr:Int)(M0:OM)(L:HL)(hj:JOW j k)(hk:k≤10000)(hn:okN M0 n)(hN:OkN n)(hoc:n.ops.length≤n.oc)(u:NumA n.abs):
  CallsS Tryz.prog 20 [.pointer (some ⟨p,0,none⟩),.int .i64 fr,n.val] (rjH p j::roM M0::L) (planQ n p j (planV j fr n.abs) (roM M0::L)):=by
 have hdl:j.done.length≤10000:=Nat.le_trans hj.dl hk;have hil:j.v.its.length≤10000:=Nat.le_trans hj.w.wf.il hk;have hcl:j.v.ch.length≤160000:=by have:=hj.w.wf.cl;omega
 have hd1:=hj.w.wf.d1;have hd2:=hj.w.wf.d2;have hno1:=hN.o;unfold planV;refine CallsS.of_body Tryz.func20 rfl rfl rfl ?_;refine Q.r ?_;(repeat (intro b1;refine Q.r ?_));rename_i b0;revert b1;intro bp;refine S.cr rfl (Right12_spec n _ hn.rd hN u) ?_;rintro _ _ ⟨rfl,rfl⟩
 cases hr:rightN n.abs with
 |false=>
  rw[if_pos rfl];refine Q.r ?_;refine N.r1 RV.c ?_ ⟨none,0,none,0,none,0,rfl,rfl⟩
  show Ent _ (qR::qM::qM::rjH p j::roM M0::L)
  exact eG
 |true=>
 rw[if_neg zd];refine Q.r ?_;refine swp_rj p (λv sf M pa pc ps da dc ds hq=> ?_);refine swp_ref v (λMv a c es a' c' is hok=> ?_);have hdl2:ds.length≤10000:=by rw[hq.dp.length_eq];exact hdl
 have hil2:is.length≤10000:=by rw[hok.len.1];exact hil
 have hel2:es.length≤160000:=by rw[hok.len.2];exact hcl
 have hopl:∀i∈is,i.ops.length≤16:=λi hi=>by
  have:=(hj.w.wf.io i.abs (hok.its.mem_iff.1 (List.mem_map_of_mem (f:=IV.abs) hi))).1
  simpa using this
 refine Q.dgo [false,false,true,false,true,true] [6] [] [0,1,2,3,4,5,6,7] ?_;refine Q.rd ?_;refine D.e rfl rfl rfl ?_;refine S.cr rfl (Find_spec v j.v.dim a es c a' is c' j.v.mark n.txn Mv _ hok.sI zo) ?_;rintro w _ ⟨hv,rfl⟩;obtain ⟨z,rfl,hz⟩:∃z,w=.int .i64 z∧((∃(ki:Nat) (i:IV),z=(ki:Int)∧is[ki]? =some i∧i.txn=n.txn∧lkL j.v.its n.txn=some (i.after,i.ops.map OV.abs))∨(z= -1∧lkL j.v.its n.txn=none)):=by
  rcases hv with ⟨ki,i,rfl,hi,hit⟩|⟨rfl,hno⟩
  ·exact ⟨_,rfl,.inl ⟨ki,i,rfl,hi,hit,by rw[←hit];exact hok.hasT hi⟩⟩
  ·exact ⟨_,rfl,.inr ⟨rfl,hok.noT hno⟩⟩
 clear hv;refine Q.r ?_;refine Q.rd ?_;refine Q.r ?_;refine S.c2 rfl (FindD_spec p v sf pa ps pc da ds dc n.txn M _ hq.dS zo) ?_;rintro _ _ ⟨rfl,rfl⟩;rw[hq.lk]
 by_cases h3:n.kind=3
 ·rw[if_pos h3]
  by_cases hf:fr=0
  ·rw[if_pos hf]
   unfold prepV
   cases hd:lkL j.done n.txn with
   |some s=>
    have hs:=hj.p _ _ hd;rw[if_pos (.inl rfl)];dsimp only[Option.getD_some];refine Q.r ?_;refine Q.dgo [true,false,true,true,true] [12] [] [0,1,2,3,4,5,6,7,8,9,10,11,12,13,14] ?_;refine Q.rd ?_;refine Q.r ?_;refine N.r1 RV.c ?_ ⟨none,0,none,0,none,0,rfl,rfl⟩;show Ent _ (qR::qM::qM::rjH p j::roM M0::L);refine Ent.trans (rjc (p:=p) (v:=v) hq hok) ?_;exact eG
   |none=>
    dsimp only[Option.getD_none];refine Q.r ?_;refine Q.dgo [true,false,true,true,true] [12] [] [0,1,2,3,4,5,6,7,8,9,10,11,12,13,14] ?_;refine Q.rd ?_;refine D.e rfl rfl rfl ?_;refine S.guard rfl ?_;refine S.cr rfl (RCheck_spec j.v.dim n.oa n.oc n.ops _ hn.rd.o hoc hN.o hN.ov zo) ?_;rintro _ _ ⟨rfl,rfl⟩
    by_cases hc:checkV j.v.dim (n.ops.map OV.abs)≠0
    ·rw[if_pos (.inr hc)]
     refine Q.r ?_;refine Q.rd ?_;refine Q.r ?_;refine N.r1 RV.c ?_ ⟨none,0,none,0,none,0,rfl,rfl⟩;show Ent _ (qR::qM::qM::rjH p j::roM M0::L);refine Ent.trans (rjc (p:=p) (v:=v) hq hok) ?_;exact eG
    rw[if_neg (by rintro (h|h);cases h;exact hc h)];have hc:=Decidable.not_not.1 hc
    rcases hz with ⟨ki,i,rfl,hi,hit,hlk⟩|⟨rfl,hlk⟩
    ·have hsm:(lkL j.v.its n.txn).isSome=true:=by rw[hlk];rfl
     rw[if_pos hsm];refine Q.r ?_;refine Q.rd ?_;refine Q.r ?_;refine S.cr rfl (Rvote_spec n.txn 0 _) ?_;rintro _ _ ⟨rfl,rfl⟩;refine Q.r ?_;(repeat (intro b1;refine Q.r ?_));refine N.r1 RV.c ?_ ⟨none,0,some ⟨b1,0,none⟩,1,none,0,rfl,rfl⟩;show Ent _ (qR::slO 183 17 (some ⟨b1,0,none⟩) 1 1 (mailC (voteN n.txn 0))::qM::rjH p j::roM M0::L);refine Ent.nilS ?_;refine Ent.trans ?_ (slO_fold rfl);refine Ent.trans (rjc (p:=p) (v:=v) hq hok) ?_;exact eG
    ·have hsm:¬(lkL j.v.its n.txn).isSome=true:=by rw[hlk];decide
     rw[if_neg hsm];refine Q.r ?_;refine Q.rd ?_;refine Q.r ?_;have ht0:=taken_ref hok.its n.ops;have hrf:RdS (roM M0::[]) n.oa n.ops.length 2 (n.ops.flatMap OV.cells):=hn.rd.o.1;clear hrf;refine swp_cutB (σ:=Unit) (λ_=> [(5,.pointer (some ⟨b0,0,none⟩)),(6,.pointer (some ⟨bp,0,none⟩))]) (λ_=>pt bp (cl [.slice none 0 0,.slice none 0 0,.slice none 0 0] 78)::pt b0 (cl n.cells 37)::rjP p sf v pa ps pc da ds dc::rP v j.v.dim a es c a' is c' j.v.mark::roM Mv::roM M::roM M0::L) (λ_=>takenV j.v n.abs.ops=false) ?_ ?_
     ·refine swp_loop (σ:=Nat) (λm=> [(5,.pointer (some ⟨b0,0,none⟩)),(6,.pointer (some ⟨bp,0,none⟩)),(74,.slice a' is.length c'),(75,.int .i64 is.length),(76,.int .i64 m)]) (λ_=>pt bp (cl [.slice none 0 0,.slice none 0 0,.slice none 0 0] 78)::pt b0 (cl n.cells 37)::rjP p sf v pa ps pc da ds dc::rP v j.v.dim a es c a' is c' j.v.mark::roM Mv::roM M::roM M0::L)
       (λm=>m≤is.length∧((is.take m).any λi=>n.ops.any λo=>holdsV (i.ops.map OV.abs) o.id)=false) (λm=>is.length - m) 0 zt eG ⟨by omega,by simp⟩ ?_
      rintro m ⟨hm1,hm2⟩
      by_cases hlt:m<is.length
      ·obtain ⟨i,hi⟩:=mem_get hlt
       have hmi:i∈is:=List.mem_of_getElem? hi;have hio:=hopl i hmi;have hrs:RdS (pt bp (cl [.slice none 0 0,.slice none 0 0,.slice none 0 0] 78)::pt b0 (cl n.cells 37)::rjP p sf v pa ps pc da ds dc::rP v j.v.dim a es c a' is c' j.v.mark::roM Mv::roM M::roM M0::L) a' is.length 3 (is.flatMap IV.cells):=hok.sI.rd;obtain ⟨bi,oi,hia,hr⟩:=RdS.elem (g:=IV.cells) (λ_=>rfl) hrs hi rfl;clear hrs;rw[hia] at hr ⊢;refine Q.r ?_;(repeat (intro b1;refine Q.r ?_));rename_i b1;refine swp_loop (σ:=Nat) (λq=> [(5,.pointer (some ⟨b0,0,none⟩)),(6,.pointer (some ⟨bp,0,none⟩)),(10,.pointer (some ⟨b1,0,none⟩)),(74,.slice (some ⟨bi,oi,none⟩) is.length c'),(75,.int .i64 is.length),(76,.int .i64 m),(81,.slice n.oa n.ops.length n.oc),(82,.int .i64 n.ops.length),(83,.int .i64 q)])
        (λ_=>pt b1 (cl i.cells 151)::pt bp (cl [.slice none 0 0,.slice none 0 0,.slice none 0 0] 78)::pt b0 (cl n.cells 37)::rjP p sf v pa ps pc da ds dc::rP v j.v.dim a es c (some ⟨bi,oi,none⟩) is c' j.v.mark::roM Mv::roM M::roM M0::L)
        (λq=>q≤n.ops.length∧((n.ops.take q).any λo=>holdsV (i.ops.map OV.abs) o.id)=false) (λq=>n.ops.length - q) 0 zt eG ⟨by omega,by simp⟩ ?_
       rintro q ⟨hq1,hq2⟩
       by_cases hqt:q<n.ops.length
       ·obtain ⟨o,ho⟩:=mem_get hqt
        have hmo:o∈n.ops:=List.mem_of_getElem? ho;have hrs:RdS (pt b1 (cl i.cells 151)::pt bp (cl [.slice none 0 0,.slice none 0 0,.slice none 0 0] 78)::pt b0 (cl n.cells 37)::rjP p sf v pa ps pc da ds dc::rP v j.v.dim a es c (some ⟨bi,oi,none⟩) is c' j.v.mark::roM Mv::roM M::roM M0::L) n.oa n.ops.length 2 (n.ops.flatMap OV.cells):=hn.rd.o.1;obtain ⟨bo,oo,hoa,hr2⟩:=RdS.elem (g:=OV.cells) (λ_=>rfl) hrs ho rfl;clear hrs hr;rw[hoa];refine Q.r ?_;(repeat (intro b1;refine Q.r ?_));refine S.cr (args:=[i.val,.int .u64 o.id]) rfl (RHolds_spec i o.id _ (hok.oi i hmi).rd zo) ?_;rintro _ _ ⟨rfl,rfl⟩
        cases hh:holdsV (i.ops.map OV.abs) o.id with
        |true=>
         have ht:takenV j.v n.abs.ops=true:=by
          show takenV j.v (n.ops.map OV.abs)=true
          rw[ht0,List.any_eq_true.2 ⟨i,hmi,List.any_eq_true.2 ⟨o,hmo,hh⟩⟩]
         rw[if_pos ht];refine Q.r ?_;refine S.cr rfl (Rvote_spec n.txn 11 _) ?_;rintro _ _ ⟨rfl,rfl⟩;refine Q.r ?_;(repeat (intro b1;refine Q.r ?_));rw[←hia];refine N.r1 RV.c ?_ ⟨none,0,some ⟨b1,0,none⟩,1,none,0,rfl,rfl⟩;show Ent _ (qR::slO 183 17 (some ⟨b1,0,none⟩) 1 1 (mailC (voteN n.txn 11))::qM::rjH p j::roM M0::L);refine Ent.nilS ?_;refine Ent.trans ?_ (slO_fold rfl);refine Ent.trans (rjc (p:=p) (v:=v) hq hok) ?_;exact eG
        |false=>
         refine Q.r ?_;refine ⟨q+1,⟨rfl,rfl,rfl,rfl,rfl,rfl,by rw[←hoa];rfl,rfl,rfl,trivial⟩,by exact eG,⟨by omega,?_⟩,by omega⟩;rw[take_snoc ho,List.any_append,hq2,List.any_cons,hh];rfl
       ·have hqe:q=n.ops.length:=by omega
        subst hqe;rw[List.take_length] at hq2;refine Q.r ?_;refine ⟨m+1,zt,by exact eG,⟨by omega,?_⟩,by omega⟩;rw[take_snoc hi,List.any_append,hm2,List.any_cons,hq2];rfl
      ·have hme:m=is.length:=by omega
       subst hme;rw[List.take_length] at hm2;refine Q.r ?_;refine ⟨(),zt,by exact eG,?_⟩
       show takenV j.v (n.ops.map OV.abs)=false
       rw[ht0];exact hm2
     ·intro _ ht
      rw[if_neg (by rw[ht];decide)];refine Q.r ?_;refine Q.dgo [false,true] [9,12,13,16,17,19] [] [0,1,2,3,4,5,6,7,8,10,11,14,15,99999,0,0,0,0,0,0] ?_;refine Q.rd ?_;refine D.two 9 12 [12,99999,0,0,0,0] [99999,0,0,0,0,0] zk rfl rfl rfl rfl zk zk ?_ ?_
      ·refine S.bs1 (cs:=(⟨12,n.txn,0,0,n.after,0,0,0,0,0,0,0,n.pa,n.pc,n.parts,n.oa,n.oc,n.ops,none,0,[],none,0,[]⟩:NV).cells) rfl rfl rfl rfl rfl (λbR=> ?_)
       refine Q.r ?_;refine Q.rd3 ?_;refine D.e rfl rfl rfl ?_;refine S.cr rfl (Rvote_spec n.txn 0 _) ?_;rintro _ _ ⟨rfl,rfl⟩;refine Q.r ?_;refine Q.rd3 ?_;refine D.two 13 16 [16,17,18,19] [99999,0,0,0] zk rfl rfl rfl rfl zk zk ?_ ?_
       ·refine S.bs1 (cs:=mailC (voteN n.txn 0)) rfl rfl rfl rfl rfl (λbM=> ?_)
        refine Q.r ?_;refine Q.rd3 ?_;refine D.e rfl rfl rfl ?_;refine S.cr rfl (Rvote_spec n.txn 8 _) ?_;rintro _ _ ⟨rfl,rfl⟩;refine Q.r ?_;refine Q.rd3 ?_;refine D.e rfl rfl rfl ?_;refine S.bs1 (cs:=mailC (voteN n.txn 8)) rfl rfl rfl rfl rfl (λbE=> ?_);refine Q.r ?_;refine Q.rd3 ?_;refine Q.rd ?_;refine Q.r ?_;refine N.r1 RV.c ?_ ⟨some ⟨bR,0,none⟩,1,some ⟨bM,0,none⟩,1,some ⟨bE,0,none⟩,1,rfl,rfl⟩;show Ent _ (slO 37 16 (some ⟨bR,0,none⟩) 1 1 (⟨12,n.txn,0,0,n.after,0,0,0,0,0,0,0,n.pa,n.pc,n.parts,n.oa,n.oc,n.ops,none,0,[],none,0,[]⟩:NV).cells::slO 183 17 (some ⟨bM,0,none⟩) 1 1 (mailC (voteN n.txn 0))::slO 183 17 (some ⟨bE,0,none⟩) 1 1 (mailC (voteN n.txn 8))::rjH p j::roM M0::L);refine Ent.trans (rjc (p:=p) (v:=v) hq hok) ?_;exact eG
       ·refine S.cr rfl (Rvote_spec n.txn 8 _) ?_
        rintro _ _ ⟨rfl,rfl⟩;refine Q.r ?_;refine Q.rd3 ?_;refine D.two 13 17 [17,18,19] [13,18,19] zk rfl rfl rfl rfl zk zk ?_ ?_
        ·refine S.bs1 (cs:=mailC (voteN n.txn 0)) rfl rfl rfl rfl rfl (λbM=> ?_)
         refine Q.r ?_;refine Q.rd3 ?_;refine D.e rfl rfl rfl ?_;refine S.bs1 (cs:=mailC (voteN n.txn 8)) rfl rfl rfl rfl rfl (λbE=> ?_);refine Q.r ?_;refine Q.rd3 ?_;refine Q.rd ?_;refine Q.r ?_;refine N.r1 RV.c ?_ ⟨some ⟨bR,0,none⟩,1,some ⟨bM,0,none⟩,1,some ⟨bE,0,none⟩,1,rfl,rfl⟩;show Ent _ (slO 37 16 (some ⟨bR,0,none⟩) 1 1 (⟨12,n.txn,0,0,n.after,0,0,0,0,0,0,0,n.pa,n.pc,n.parts,n.oa,n.oc,n.ops,none,0,[],none,0,[]⟩:NV).cells::slO 183 17 (some ⟨bM,0,none⟩) 1 1 (mailC (voteN n.txn 0))::slO 183 17 (some ⟨bE,0,none⟩) 1 1 (mailC (voteN n.txn 8))::rjH p j::roM M0::L);refine Ent.trans (rjc (p:=p) (v:=v) hq hok) ?_;exact eG
        ·refine S.bs1 (cs:=mailC (voteN n.txn 8)) rfl rfl rfl rfl rfl (λbE=> ?_)
         refine Q.r ?_;refine Q.rd3 ?_;refine D.e rfl rfl rfl ?_;refine S.bs1 (cs:=mailC (voteN n.txn 0)) rfl rfl rfl rfl rfl (λbM=> ?_);refine Q.r ?_;refine Q.rd3 ?_;refine Q.rd ?_;refine Q.r ?_;refine N.r1 RV.c ?_ ⟨some ⟨bR,0,none⟩,1,some ⟨bM,0,none⟩,1,some ⟨bE,0,none⟩,1,rfl,rfl⟩;show Ent _ (slO 37 16 (some ⟨bR,0,none⟩) 1 1 (⟨12,n.txn,0,0,n.after,0,0,0,0,0,0,0,n.pa,n.pc,n.parts,n.oa,n.oc,n.ops,none,0,[],none,0,[]⟩:NV).cells::slO 183 17 (some ⟨bM,0,none⟩) 1 1 (mailC (voteN n.txn 0))::slO 183 17 (some ⟨bE,0,none⟩) 1 1 (mailC (voteN n.txn 8))::rjH p j::roM M0::L);refine Ent.trans (rjc (p:=p) (v:=v) hq hok) ?_;exact eG
      ·refine S.cr rfl (Rvote_spec n.txn 0 _) ?_
       rintro _ _ ⟨rfl,rfl⟩;refine Q.r ?_;refine Q.rd3 ?_;refine D.three 9 13 16 [99999,0,0,0,0] [99999,0,0,0,0] [99999,0,0,0,0] zk rfl rfl rfl rfl rfl rfl zk zk zk ?_ ?_ ?_
       ·refine S.bs1 (cs:=(⟨12,n.txn,0,0,n.after,0,0,0,0,0,0,0,n.pa,n.pc,n.parts,n.oa,n.oc,n.ops,none,0,[],none,0,[]⟩:NV).cells) rfl rfl rfl rfl rfl (λbR=> ?_)
        refine Q.r ?_;refine Q.rd3 ?_;refine D.two 13 16 [16,17,18,19] [99999,0,0,0] zk rfl rfl rfl rfl zk zk ?_ ?_
        ·refine S.bs1 (cs:=mailC (voteN n.txn 0)) rfl rfl rfl rfl rfl (λbM=> ?_)
         refine Q.r ?_;refine Q.rd3 ?_;refine D.e rfl rfl rfl ?_;refine S.cr rfl (Rvote_spec n.txn 8 _) ?_;rintro _ _ ⟨rfl,rfl⟩;refine Q.r ?_;refine Q.rd3 ?_;refine D.e rfl rfl rfl ?_;refine S.bs1 (cs:=mailC (voteN n.txn 8)) rfl rfl rfl rfl rfl (λbE=> ?_);refine Q.r ?_;refine Q.rd3 ?_;refine Q.rd ?_;refine Q.r ?_;refine N.r1 RV.c ?_ ⟨some ⟨bR,0,none⟩,1,some ⟨bM,0,none⟩,1,some ⟨bE,0,none⟩,1,rfl,rfl⟩;show Ent _ (slO 37 16 (some ⟨bR,0,none⟩) 1 1 (⟨12,n.txn,0,0,n.after,0,0,0,0,0,0,0,n.pa,n.pc,n.parts,n.oa,n.oc,n.ops,none,0,[],none,0,[]⟩:NV).cells::slO 183 17 (some ⟨bM,0,none⟩) 1 1 (mailC (voteN n.txn 0))::slO 183 17 (some ⟨bE,0,none⟩) 1 1 (mailC (voteN n.txn 8))::rjH p j::roM M0::L);refine Ent.trans (rjc (p:=p) (v:=v) hq hok) ?_;exact eG
        ·refine S.cr rfl (Rvote_spec n.txn 8 _) ?_
         rintro _ _ ⟨rfl,rfl⟩;refine Q.r ?_;refine Q.rd3 ?_;refine D.two 13 17 [17,18,19] [13,18,19] zk rfl rfl rfl rfl zk zk ?_ ?_
         ·refine S.bs1 (cs:=mailC (voteN n.txn 0)) rfl rfl rfl rfl rfl (λbM=> ?_)
          refine Q.r ?_;refine Q.rd3 ?_;refine D.e rfl rfl rfl ?_;refine S.bs1 (cs:=mailC (voteN n.txn 8)) rfl rfl rfl rfl rfl (λbE=> ?_);refine Q.r ?_;refine Q.rd3 ?_;refine Q.rd ?_;refine Q.r ?_;refine N.r1 RV.c ?_ ⟨some ⟨bR,0,none⟩,1,some ⟨bM,0,none⟩,1,some ⟨bE,0,none⟩,1,rfl,rfl⟩;show Ent _ (slO 37 16 (some ⟨bR,0,none⟩) 1 1 (⟨12,n.txn,0,0,n.after,0,0,0,0,0,0,0,n.pa,n.pc,n.parts,n.oa,n.oc,n.ops,none,0,[],none,0,[]⟩:NV).cells::slO 183 17 (some ⟨bM,0,none⟩) 1 1 (mailC (voteN n.txn 0))::slO 183 17 (some ⟨bE,0,none⟩) 1 1 (mailC (voteN n.txn 8))::rjH p j::roM M0::L);refine Ent.trans (rjc (p:=p) (v:=v) hq hok) ?_;exact eG
         ·refine S.bs1 (cs:=mailC (voteN n.txn 8)) rfl rfl rfl rfl rfl (λbE=> ?_)
          refine Q.r ?_;refine Q.rd3 ?_;refine D.e rfl rfl rfl ?_;refine S.bs1 (cs:=mailC (voteN n.txn 0)) rfl rfl rfl rfl rfl (λbM=> ?_);refine Q.r ?_;refine Q.rd3 ?_;refine Q.rd ?_;refine Q.r ?_;refine N.r1 RV.c ?_ ⟨some ⟨bR,0,none⟩,1,some ⟨bM,0,none⟩,1,some ⟨bE,0,none⟩,1,rfl,rfl⟩;show Ent _ (slO 37 16 (some ⟨bR,0,none⟩) 1 1 (⟨12,n.txn,0,0,n.after,0,0,0,0,0,0,0,n.pa,n.pc,n.parts,n.oa,n.oc,n.ops,none,0,[],none,0,[]⟩:NV).cells::slO 183 17 (some ⟨bM,0,none⟩) 1 1 (mailC (voteN n.txn 0))::slO 183 17 (some ⟨bE,0,none⟩) 1 1 (mailC (voteN n.txn 8))::rjH p j::roM M0::L);refine Ent.trans (rjc (p:=p) (v:=v) hq hok) ?_;exact eG
       ·refine S.bs1 (cs:=mailC (voteN n.txn 0)) rfl rfl rfl rfl rfl (λbM=> ?_)
        refine Q.r ?_;refine Q.rd3 ?_;refine D.two 9 16 [16,17,18,19] [99999,0,0,0] zk rfl rfl rfl rfl zk zk ?_ ?_
        ·refine S.bs1 (cs:=(⟨12,n.txn,0,0,n.after,0,0,0,0,0,0,0,n.pa,n.pc,n.parts,n.oa,n.oc,n.ops,none,0,[],none,0,[]⟩:NV).cells) rfl rfl rfl rfl rfl (λbR=> ?_)
         refine Q.r ?_;refine Q.rd3 ?_;refine D.e rfl rfl rfl ?_;refine S.cr rfl (Rvote_spec n.txn 8 _) ?_;rintro _ _ ⟨rfl,rfl⟩;refine Q.r ?_;refine Q.rd3 ?_;refine D.e rfl rfl rfl ?_;refine S.bs1 (cs:=mailC (voteN n.txn 8)) rfl rfl rfl rfl rfl (λbE=> ?_);refine Q.r ?_;refine Q.rd3 ?_;refine Q.rd ?_;refine Q.r ?_;refine N.r1 RV.c ?_ ⟨some ⟨bR,0,none⟩,1,some ⟨bM,0,none⟩,1,some ⟨bE,0,none⟩,1,rfl,rfl⟩;show Ent _ (slO 37 16 (some ⟨bR,0,none⟩) 1 1 (⟨12,n.txn,0,0,n.after,0,0,0,0,0,0,0,n.pa,n.pc,n.parts,n.oa,n.oc,n.ops,none,0,[],none,0,[]⟩:NV).cells::slO 183 17 (some ⟨bM,0,none⟩) 1 1 (mailC (voteN n.txn 0))::slO 183 17 (some ⟨bE,0,none⟩) 1 1 (mailC (voteN n.txn 8))::rjH p j::roM M0::L);refine Ent.trans (rjc (p:=p) (v:=v) hq hok) ?_;exact eG
        ·refine S.cr rfl (Rvote_spec n.txn 8 _) ?_
         rintro _ _ ⟨rfl,rfl⟩;refine Q.r ?_;refine Q.rd3 ?_;refine D.two 9 17 [17,18,19] [9,18,19] zk rfl rfl rfl rfl zk zk ?_ ?_
         ·refine S.bs1 (cs:=(⟨12,n.txn,0,0,n.after,0,0,0,0,0,0,0,n.pa,n.pc,n.parts,n.oa,n.oc,n.ops,none,0,[],none,0,[]⟩:NV).cells) rfl rfl rfl rfl rfl (λbR=> ?_)
          refine Q.r ?_;refine Q.rd3 ?_;refine D.e rfl rfl rfl ?_;refine S.bs1 (cs:=mailC (voteN n.txn 8)) rfl rfl rfl rfl rfl (λbE=> ?_);refine Q.r ?_;refine Q.rd3 ?_;refine Q.rd ?_;refine Q.r ?_;refine N.r1 RV.c ?_ ⟨some ⟨bR,0,none⟩,1,some ⟨bM,0,none⟩,1,some ⟨bE,0,none⟩,1,rfl,rfl⟩;show Ent _ (slO 37 16 (some ⟨bR,0,none⟩) 1 1 (⟨12,n.txn,0,0,n.after,0,0,0,0,0,0,0,n.pa,n.pc,n.parts,n.oa,n.oc,n.ops,none,0,[],none,0,[]⟩:NV).cells::slO 183 17 (some ⟨bM,0,none⟩) 1 1 (mailC (voteN n.txn 0))::slO 183 17 (some ⟨bE,0,none⟩) 1 1 (mailC (voteN n.txn 8))::rjH p j::roM M0::L);refine Ent.trans (rjc (p:=p) (v:=v) hq hok) ?_;exact eG
         ·refine S.bs1 (cs:=mailC (voteN n.txn 8)) rfl rfl rfl rfl rfl (λbE=> ?_)
          refine Q.r ?_;refine Q.rd3 ?_;refine D.e rfl rfl rfl ?_;refine S.bs1 (cs:=(⟨12,n.txn,0,0,n.after,0,0,0,0,0,0,0,n.pa,n.pc,n.parts,n.oa,n.oc,n.ops,none,0,[],none,0,[]⟩:NV).cells) rfl rfl rfl rfl rfl (λbR=> ?_);refine Q.r ?_;refine Q.rd3 ?_;refine Q.rd ?_;refine Q.r ?_;refine N.r1 RV.c ?_ ⟨some ⟨bR,0,none⟩,1,some ⟨bM,0,none⟩,1,some ⟨bE,0,none⟩,1,rfl,rfl⟩;show Ent _ (slO 37 16 (some ⟨bR,0,none⟩) 1 1 (⟨12,n.txn,0,0,n.after,0,0,0,0,0,0,0,n.pa,n.pc,n.parts,n.oa,n.oc,n.ops,none,0,[],none,0,[]⟩:NV).cells::slO 183 17 (some ⟨bM,0,none⟩) 1 1 (mailC (voteN n.txn 0))::slO 183 17 (some ⟨bE,0,none⟩) 1 1 (mailC (voteN n.txn 8))::rjH p j::roM M0::L);refine Ent.trans (rjc (p:=p) (v:=v) hq hok) ?_;exact eG
       ·refine S.cr rfl (Rvote_spec n.txn 8 _) ?_
        rintro _ _ ⟨rfl,rfl⟩;refine Q.r ?_;refine Q.rd3 ?_;refine D.three 9 13 17 [99999,0,0,0] [99999,0,0,0] [99999,0,0,0] zk rfl rfl rfl rfl rfl rfl zk zk zk ?_ ?_ ?_
        ·refine S.bs1 (cs:=(⟨12,n.txn,0,0,n.after,0,0,0,0,0,0,0,n.pa,n.pc,n.parts,n.oa,n.oc,n.ops,none,0,[],none,0,[]⟩:NV).cells) rfl rfl rfl rfl rfl (λbR=> ?_)
         refine Q.r ?_;refine Q.rd3 ?_;refine D.two 13 17 [17,18,19] [13,18,19] zk rfl rfl rfl rfl zk zk ?_ ?_
         ·refine S.bs1 (cs:=mailC (voteN n.txn 0)) rfl rfl rfl rfl rfl (λbM=> ?_)
          refine Q.r ?_;refine Q.rd3 ?_;refine D.e rfl rfl rfl ?_;refine S.bs1 (cs:=mailC (voteN n.txn 8)) rfl rfl rfl rfl rfl (λbE=> ?_);refine Q.r ?_;refine Q.rd3 ?_;refine Q.rd ?_;refine Q.r ?_;refine N.r1 RV.c ?_ ⟨some ⟨bR,0,none⟩,1,some ⟨bM,0,none⟩,1,some ⟨bE,0,none⟩,1,rfl,rfl⟩;show Ent _ (slO 37 16 (some ⟨bR,0,none⟩) 1 1 (⟨12,n.txn,0,0,n.after,0,0,0,0,0,0,0,n.pa,n.pc,n.parts,n.oa,n.oc,n.ops,none,0,[],none,0,[]⟩:NV).cells::slO 183 17 (some ⟨bM,0,none⟩) 1 1 (mailC (voteN n.txn 0))::slO 183 17 (some ⟨bE,0,none⟩) 1 1 (mailC (voteN n.txn 8))::rjH p j::roM M0::L);refine Ent.trans (rjc (p:=p) (v:=v) hq hok) ?_;exact eG
         ·refine S.bs1 (cs:=mailC (voteN n.txn 8)) rfl rfl rfl rfl rfl (λbE=> ?_)
          refine Q.r ?_;refine Q.rd3 ?_;refine D.e rfl rfl rfl ?_;refine S.bs1 (cs:=mailC (voteN n.txn 0)) rfl rfl rfl rfl rfl (λbM=> ?_);refine Q.r ?_;refine Q.rd3 ?_;refine Q.rd ?_;refine Q.r ?_;refine N.r1 RV.c ?_ ⟨some ⟨bR,0,none⟩,1,some ⟨bM,0,none⟩,1,some ⟨bE,0,none⟩,1,rfl,rfl⟩;show Ent _ (slO 37 16 (some ⟨bR,0,none⟩) 1 1 (⟨12,n.txn,0,0,n.after,0,0,0,0,0,0,0,n.pa,n.pc,n.parts,n.oa,n.oc,n.ops,none,0,[],none,0,[]⟩:NV).cells::slO 183 17 (some ⟨bM,0,none⟩) 1 1 (mailC (voteN n.txn 0))::slO 183 17 (some ⟨bE,0,none⟩) 1 1 (mailC (voteN n.txn 8))::rjH p j::roM M0::L);refine Ent.trans (rjc (p:=p) (v:=v) hq hok) ?_;exact eG
        ·refine S.bs1 (cs:=mailC (voteN n.txn 0)) rfl rfl rfl rfl rfl (λbM=> ?_)
         refine Q.r ?_;refine Q.rd3 ?_;refine D.two 9 17 [17,18,19] [9,18,19] zk rfl rfl rfl rfl zk zk ?_ ?_
         ·refine S.bs1 (cs:=(⟨12,n.txn,0,0,n.after,0,0,0,0,0,0,0,n.pa,n.pc,n.parts,n.oa,n.oc,n.ops,none,0,[],none,0,[]⟩:NV).cells) rfl rfl rfl rfl rfl (λbR=> ?_)
          refine Q.r ?_;refine Q.rd3 ?_;refine D.e rfl rfl rfl ?_;refine S.bs1 (cs:=mailC (voteN n.txn 8)) rfl rfl rfl rfl rfl (λbE=> ?_);refine Q.r ?_;refine Q.rd3 ?_;refine Q.rd ?_;refine Q.r ?_;refine N.r1 RV.c ?_ ⟨some ⟨bR,0,none⟩,1,some ⟨bM,0,none⟩,1,some ⟨bE,0,none⟩,1,rfl,rfl⟩;show Ent _ (slO 37 16 (some ⟨bR,0,none⟩) 1 1 (⟨12,n.txn,0,0,n.after,0,0,0,0,0,0,0,n.pa,n.pc,n.parts,n.oa,n.oc,n.ops,none,0,[],none,0,[]⟩:NV).cells::slO 183 17 (some ⟨bM,0,none⟩) 1 1 (mailC (voteN n.txn 0))::slO 183 17 (some ⟨bE,0,none⟩) 1 1 (mailC (voteN n.txn 8))::rjH p j::roM M0::L);refine Ent.trans (rjc (p:=p) (v:=v) hq hok) ?_;exact eG
         ·refine S.bs1 (cs:=mailC (voteN n.txn 8)) rfl rfl rfl rfl rfl (λbE=> ?_)
          refine Q.r ?_;refine Q.rd3 ?_;refine D.e rfl rfl rfl ?_;refine S.bs1 (cs:=(⟨12,n.txn,0,0,n.after,0,0,0,0,0,0,0,n.pa,n.pc,n.parts,n.oa,n.oc,n.ops,none,0,[],none,0,[]⟩:NV).cells) rfl rfl rfl rfl rfl (λbR=> ?_);refine Q.r ?_;refine Q.rd3 ?_;refine Q.rd ?_;refine Q.r ?_;refine N.r1 RV.c ?_ ⟨some ⟨bR,0,none⟩,1,some ⟨bM,0,none⟩,1,some ⟨bE,0,none⟩,1,rfl,rfl⟩;show Ent _ (slO 37 16 (some ⟨bR,0,none⟩) 1 1 (⟨12,n.txn,0,0,n.after,0,0,0,0,0,0,0,n.pa,n.pc,n.parts,n.oa,n.oc,n.ops,none,0,[],none,0,[]⟩:NV).cells::slO 183 17 (some ⟨bM,0,none⟩) 1 1 (mailC (voteN n.txn 0))::slO 183 17 (some ⟨bE,0,none⟩) 1 1 (mailC (voteN n.txn 8))::rjH p j::roM M0::L);refine Ent.trans (rjc (p:=p) (v:=v) hq hok) ?_;exact eG
        ·refine S.bs1 (cs:=mailC (voteN n.txn 8)) rfl rfl rfl rfl rfl (λbE=> ?_)
         refine Q.r ?_;refine Q.rd3 ?_;refine D.two 9 13 [13,18,19] [9,18,19] zk rfl rfl rfl rfl zk zk ?_ ?_
         ·refine S.bs1 (cs:=(⟨12,n.txn,0,0,n.after,0,0,0,0,0,0,0,n.pa,n.pc,n.parts,n.oa,n.oc,n.ops,none,0,[],none,0,[]⟩:NV).cells) rfl rfl rfl rfl rfl (λbR=> ?_)
          refine Q.r ?_;refine Q.rd3 ?_;refine D.e rfl rfl rfl ?_;refine S.bs1 (cs:=mailC (voteN n.txn 0)) rfl rfl rfl rfl rfl (λbM=> ?_);refine Q.r ?_;refine Q.rd3 ?_;refine Q.rd ?_;refine Q.r ?_;refine N.r1 RV.c ?_ ⟨some ⟨bR,0,none⟩,1,some ⟨bM,0,none⟩,1,some ⟨bE,0,none⟩,1,rfl,rfl⟩;show Ent _ (slO 37 16 (some ⟨bR,0,none⟩) 1 1 (⟨12,n.txn,0,0,n.after,0,0,0,0,0,0,0,n.pa,n.pc,n.parts,n.oa,n.oc,n.ops,none,0,[],none,0,[]⟩:NV).cells::slO 183 17 (some ⟨bM,0,none⟩) 1 1 (mailC (voteN n.txn 0))::slO 183 17 (some ⟨bE,0,none⟩) 1 1 (mailC (voteN n.txn 8))::rjH p j::roM M0::L);refine Ent.trans (rjc (p:=p) (v:=v) hq hok) ?_;exact eG
         ·refine S.bs1 (cs:=mailC (voteN n.txn 0)) rfl rfl rfl rfl rfl (λbM=> ?_)
          refine Q.r ?_;refine Q.rd3 ?_;refine D.e rfl rfl rfl ?_;refine S.bs1 (cs:=(⟨12,n.txn,0,0,n.after,0,0,0,0,0,0,0,n.pa,n.pc,n.parts,n.oa,n.oc,n.ops,none,0,[],none,0,[]⟩:NV).cells) rfl rfl rfl rfl rfl (λbR=> ?_);refine Q.r ?_;refine Q.rd3 ?_;refine Q.rd ?_;refine Q.r ?_;refine N.r1 RV.c ?_ ⟨some ⟨bR,0,none⟩,1,some ⟨bM,0,none⟩,1,some ⟨bE,0,none⟩,1,rfl,rfl⟩;show Ent _ (slO 37 16 (some ⟨bR,0,none⟩) 1 1 (⟨12,n.txn,0,0,n.after,0,0,0,0,0,0,0,n.pa,n.pc,n.parts,n.oa,n.oc,n.ops,none,0,[],none,0,[]⟩:NV).cells::slO 183 17 (some ⟨bM,0,none⟩) 1 1 (mailC (voteN n.txn 0))::slO 183 17 (some ⟨bE,0,none⟩) 1 1 (mailC (voteN n.txn 8))::rjH p j::roM M0::L);refine Ent.trans (rjc (p:=p) (v:=v) hq hok) ?_;exact eG
  ·rw[if_neg hf]
   refine Q.r ?_;refine N.r1 RV.c ?_ ⟨none,0,none,0,none,0,rfl,rfl⟩;show Ent _ (qR::qM::qM::rjH p j::roM M0::L);refine Ent.trans (rjc (p:=p) (v:=v) hq hok) ?_;exact eG
 rw[if_neg h3]
 by_cases h5:n.kind=5
 ·rw[if_pos h5]
  unfold deciV
  by_cases hc:n.code=0
  ·rw[if_neg (λh=>h hc)]
   cases hd:lkL j.done n.txn with
   |some s=>
    have hs:=hj.p _ _ hd;dsimp only[Option.getD_some]
    by_cases he:s=n.stamp
    ·rw[if_pos he]
     refine Q.r ?_;(repeat (intro b1;refine Q.r ?_));refine N.r1 RV.c ?_ ⟨none,0,some ⟨b1,0,none⟩,1,none,0,rfl,rfl⟩;show Ent _ (qR::slO 183 17 (some ⟨b1,0,none⟩) 1 1 (mailC (ackN n.txn))::qM::rjH p j::roM M0::L);refine Ent.nilS ?_;refine Ent.trans ?_ (slO_fold rfl);refine Ent.trans (rjc (p:=p) (v:=v) hq hok) ?_;exact eG
    ·rw[if_neg he]
     refine Q.r ?_;(repeat (intro b1;refine Q.r ?_));refine N.r1 RV.c ?_ ⟨none,0,none,0,none,0,rfl,rfl⟩;show Ent _ (qR::qM::qM::rjH p j::roM M0::L);refine Ent.trans (rjc (p:=p) (v:=v) hq hok) ?_;exact eG
   |none=>
    dsimp only[Option.getD_none]
    rcases hz with ⟨ki,i,rfl,hi,hit,hlk⟩|⟨rfl,hlk⟩
    ·rw[hlk]
     dsimp only;have hki:ki<is.length:=(List.getElem?_eq_some_iff.1 hi).1;have hmi:i∈is:=List.mem_of_getElem? hi;have hio:=hopl i hmi;obtain ⟨bi,oi,hia,cr⟩:=SlM.cm (g:=IV.cells) (λ_=>rfl) hok.sI hi rfl
     by_cases g1:i.after<n.stamp
     ·by_cases g2:j.v.mark<n.stamp
      ·rw[hia]
       refine Q.r ?_;(repeat (intro b1;refine Q.r ?_));revert b1;intro bA;refine D.start [] [] [0,1,2,3,4,5,6,7,8,9,10,11,12,13,14,15,16,17,18,19,20,21,22,23,24,25,26,27,28,29] _ [] rfl zk rfl zk NoPanic.no (Ent.refl _) ?_;refine Q.rd5 ?_;refine Q.r ?_;rw[←hia];have hio2:∀o∈i.ops,(chV j.v.ch o.id).length≤10000:=λo _=>by
        unfold chV
        cases hz:lkL j.v.ch o.id with
        |none=>exact Nat.zero_le _
        |some w=>exact Nat.le_trans (hj.w.wf.co _ (lk_memL hz)).2.1 hk
       refine swp_cutB (σ:=Unit) (λ_=> [(5,.pointer (some ⟨b0,0,none⟩)),(6,.pointer (some ⟨bp,0,none⟩)),(13,.slice (some ⟨bA,0,none⟩) 1 1)]) (λ_=>pt bA (cl (mailC (ackN n.txn)) 183)::pt bp (cl [.slice none 0 0,.slice none 0 0,.slice none 0 0] 78)::pt b0 (cl n.cells 37)::rjP p sf v pa ps pc da ds dc::rP v j.v.dim a es c a' is c' j.v.mark::roM Mv::roM M::roM M0::L) (λ_=>(i.ops.any λo=>(chV j.v.ch o.id).any λv=>decide (n.stamp≤v.1))=false) ?_ ?_
       ·refine swp_loop (σ:=Nat) (λm=> [(0,.pointer (some ⟨p,0,none⟩)),(5,.pointer (some ⟨b0,0,none⟩)),(6,.pointer (some ⟨bp,0,none⟩)),(13,.slice (some ⟨bA,0,none⟩) 1 1),(195,.slice i.a i.ops.length i.c),(196,.int .i64 i.ops.length),(197,.int .i64 m)])
         (λ_=>pt bA (cl (mailC (ackN n.txn)) 183)::pt bp (cl [.slice none 0 0,.slice none 0 0,.slice none 0 0] 78)::pt b0 (cl n.cells 37)::rjP p sf v pa ps pc da ds dc::rP v j.v.dim a es c a' is c' j.v.mark::roM Mv::roM M::roM M0::L)
         (λm=>m≤i.ops.length∧((i.ops.take m).any λo=>(chV j.v.ch o.id).any λv=>decide (n.stamp≤v.1))=false) (λm=>i.ops.length - m) 0 zt eG ⟨by omega,by simp⟩ ?_
        rintro m ⟨hm1,hm2⟩
        by_cases hmt:m<i.ops.length
        ·obtain ⟨o,ho⟩:=mem_get hmt
         have hmo:o∈i.ops:=List.mem_of_getElem? ho;have hcl2:=hio2 o hmo;obtain ⟨bo,oo,hoa,cro⟩:=SlM.cm (g:=OV.cells) (λ_=>rfl) (hok.oi i hmi).1 ho rfl;rw[hoa];refine Q.r ?_;(repeat (intro b1;refine Q.r ?_));refine Q.dgo [true,true,true,true,true] [6] [] [0,1,2,3,4,5,8,6,7] ?_;refine Q.rd ?_;refine D.e rfl rfl rfl ?_;refine S.cr rfl (RChain_spec v j.v.dim a es c a' is c' j.v.mark o.id Mv _ hok.sE zo) ?_;rintro w _ ⟨hv,rfl⟩;obtain ⟨ca,cc,vs,rfl,hcs,hvs⟩:∃(ca:OA) (cc:Nat) (vs:List OV),w=.slice ca vs.length cc∧SlM Mv ca vs.length 2 (vs.flatMap OV.cells)∧vs.map OV.abs=chV j.v.ch o.id:=by
          rcases hv with ⟨e,he,hid,rfl⟩|⟨rfl,hno⟩
          ·refine ⟨_,_,_,rfl,(hok.oe e he).1,?_⟩
           unfold chV;rw[←hid,(lkL_iff hok.k1).2 (hok.ch.mem_iff.1 (List.mem_map_of_mem (f:=EV.abs) he))];rfl
          ·refine ⟨none,0,[],rfl,SlM.nil0,?_⟩
           unfold chV;rw[←lkL_perm hok.k1 hok.ch,lkL_none (λu hu=>by obtain ⟨e,he,rfl⟩:=List.mem_map.1 hu;exact hno e he)];rfl
         have hvl:vs.length≤10000:=by rw[←hvs,List.length_map] at hcl2;exact hcl2
         have hst:((chV j.v.ch o.id).any λv=>decide (n.stamp≤v.1))=vs.any λv=>decide (n.stamp≤v.id):=by rw[←hvs,List.any_map];rfl
         clear hv cro;refine Q.r ?_;refine Q.rd ?_;refine Q.r ?_;refine swp_loop (σ:=Nat) (λq=> [(0,.pointer (some ⟨p,0,none⟩)),(5,.pointer (some ⟨b0,0,none⟩)),(6,.pointer (some ⟨bp,0,none⟩)),(13,.slice (some ⟨bA,0,none⟩) 1 1),(195,.slice (some ⟨bo,oo,none⟩) i.ops.length i.c),(196,.int .i64 i.ops.length),(197,.int .i64 m),(207,.slice ca vs.length cc),(208,.int .i64 vs.length),(209,.int .i64 q)])
          (λ_=>pt bA (cl (mailC (ackN n.txn)) 183)::pt bp (cl [.slice none 0 0,.slice none 0 0,.slice none 0 0] 78)::pt b0 (cl n.cells 37)::rjP p sf v pa ps pc da ds dc::rP v j.v.dim a es c a' is c' j.v.mark::roM Mv::roM M::roM M0::L)
          (λq=>q≤vs.length∧((vs.take q).any λv=>decide (n.stamp≤v.id))=false) (λq=>vs.length - q) 0 zt eG ⟨by omega,by simp⟩ ?_
         rintro q ⟨hq1,hq2⟩
         by_cases hqt:q<vs.length
         ·obtain ⟨y,hy⟩:=mem_get hqt
          have hmy:y∈vs:=List.mem_of_getElem? hy;obtain ⟨by_,oy,hya,cry⟩:=SlM.cm (g:=OV.cells) (λ_=>rfl) hcs hy rfl;rw[hya]
          by_cases hle:n.stamp≤y.id
          ·refine Q.r ?_;(repeat (intro b1;refine Q.r ?_))
           have hab:aboveV j.v n.stamp (i.ops.map OV.abs)=false:=by
            rw[above_ref hj.w hj.ne,List.any_map];have:(i.ops.any ((λo=>(chV j.v.ch o.1).any λv=>decide (n.stamp≤v.1))∘OV.abs))=true:=List.any_eq_true.2 ⟨o,hmo,by show ((chV j.v.ch o.id).any λv=>decide (n.stamp≤v.1))=true;rw[hst];exact List.any_eq_true.2 ⟨y,hmy,decide_eq_true hle⟩⟩;rw[this];rfl
           rw[if_neg (λh=>by have:=h.2;rw[show aboveV j.v n.abs.stamp (i.ops.map OV.abs)=false from hab] at this;cases this)];refine N.r1 RV.c ?_ ⟨none,0,none,0,none,0,rfl,rfl⟩;show Ent _ (qR::qM::qM::rjH p j::roM M0::L);refine Ent.trans (rjc (p:=p) (v:=v) hq hok) ?_;exact eG
          ·refine Q.r ?_;(repeat (intro b1;refine Q.r ?_))
           refine ⟨q+1,⟨rfl,rfl,rfl,rfl,rfl,rfl,rfl,by rw[←hya];rfl,rfl,rfl,trivial⟩,by exact eG,⟨by omega,?_⟩,by omega⟩;rw[take_snoc hy,List.any_append,hq2,List.any_cons,decide_eq_false hle];rfl
         ·have hqe:q=vs.length:=by omega
          subst hqe;rw[List.take_length] at hq2;refine Q.r ?_;refine ⟨m+1,zt,by exact eG,⟨by omega,?_⟩,by omega⟩;rw[take_snoc ho,List.any_append,hm2,List.any_cons,hst,hq2];rfl
        ·have hme:m=i.ops.length:=by omega
         subst hme;rw[List.take_length] at hm2;refine Q.r ?_;exact ⟨(),zt,by exact eG,hm2⟩
       ·intro _ hall
        have hab:aboveV j.v n.stamp (i.ops.map OV.abs)=true:=by
         rw[above_ref hj.w hj.ne,List.any_map];have:(i.ops.any ((λo=>(chV j.v.ch o.1).any λv=>decide (n.stamp≤v.1))∘OV.abs))=false:=hall;rw[this];rfl
        rw[if_pos ⟨show max i.after j.v.mark<n.stamp by omega,hab⟩];refine Q.r ?_;(repeat (intro b1;refine Q.r ?_));refine N.r1 RV.c ?_ ⟨some ⟨b1,0,none⟩,1,some ⟨bA,0,none⟩,1,none,0,rfl,rfl⟩
        show Ent _ (slO 37 16 (some ⟨b1,0,none⟩) 1 1 (comN n.txn n.stamp).nv.cells::slO 183 17 (some ⟨bA,0,none⟩) 1 1 (mailC (ackN n.txn))::qM::rjH p j::roM M0::L)
        refine Ent.trans ?_ (slO_fold rfl);refine Ent.trans ?_ (Ent.cons (slO_fold rfl));refine Ent.trans (rjc (p:=p) (v:=v) hq hok) ?_;exact eG
      ·rw[if_neg (λh=>absurd h.1 (show ¬max i.after j.v.mark<n.stamp by omega)),hia]
       refine Q.r ?_;(repeat (intro b1;refine Q.r ?_));refine D.start [] [] [0,1,2,3,4,5,6,7,8,9,10,11,12,13,14,15,16,17,18,19,20,21,22,23,24,25,26,27,28,29] _ [] rfl zk rfl zk NoPanic.no (Ent.refl _) ?_;refine Q.rd5 ?_;refine Q.r ?_;rw[←hia];refine N.r1 RV.c ?_ ⟨none,0,none,0,none,0,rfl,rfl⟩;show Ent _ (qR::qM::qM::rjH p j::roM M0::L);refine Ent.trans (rjc (p:=p) (v:=v) hq hok) ?_;exact eG
     ·rw[if_neg (λh=>absurd h.1 (show ¬max i.after j.v.mark<n.stamp by omega)),hia]
      refine Q.r ?_;(repeat (intro b1;refine Q.r ?_));refine D.start [] [] [0,1,2,3,4,5,6,7,8,9,10,11,12,13,14,15,16,17,18,19,20,21,22,23,24,25,26,27,28,29] _ [] rfl zk rfl zk NoPanic.no (Ent.refl _) ?_;refine Q.rd5 ?_;refine Q.r ?_;rw[←hia];refine N.r1 RV.c ?_ ⟨none,0,none,0,none,0,rfl,rfl⟩;show Ent _ (qR::qM::qM::rjH p j::roM M0::L);refine Ent.trans (rjc (p:=p) (v:=v) hq hok) ?_;exact eG
    ·rw[hlk]
     refine Q.r ?_;(repeat (intro b1;refine Q.r ?_));refine D.start [] [] [0,1,2,3,4,5,6,7,8,9,10,11,12,13,14,15,16,17,18,19,20,21,22,23,24,25,26,27,28,29] _ [] rfl zk rfl zk NoPanic.no (Ent.refl _) ?_;refine Q.rd5 ?_;refine Q.r ?_;refine N.r1 RV.c ?_ ⟨none,0,none,0,none,0,rfl,rfl⟩;show Ent _ (qR::qM::qM::rjH p j::roM M0::L);refine Ent.trans (rjc (p:=p) (v:=v) hq hok) ?_;exact eG
  ·rw[if_pos hc]
   rcases hz with ⟨ki,i,rfl,hi,hit,hlk⟩|⟨rfl,hlk⟩
   ·have hsm:(lkL j.v.its n.txn).isSome=true:=by rw[hlk];rfl
    by_cases hf:fr=0
    ·rw[if_pos ⟨hsm,hf⟩]
     refine Q.r ?_;(repeat (intro b1;refine Q.r ?_));refine N.r1 RV.c ?_ ⟨some ⟨b1,0,none⟩,1,none,0,none,0,rfl,rfl⟩;show Ent _ (slO 37 16 (some ⟨b1,0,none⟩) 1 1 (aboN n.txn).nv.cells::qM::qM::rjH p j::roM M0::L);refine Ent.trans ?_ (slO_fold rfl);refine Ent.trans (rjc (p:=p) (v:=v) hq hok) ?_;exact eG
    ·rw[if_neg (λh=>hf h.2)]
     refine Q.r ?_;refine N.r1 RV.c ?_ ⟨none,0,none,0,none,0,rfl,rfl⟩;show Ent _ (qR::qM::qM::rjH p j::roM M0::L);refine Ent.trans (rjc (p:=p) (v:=v) hq hok) ?_;exact eG
   ·have hsm:¬(lkL j.v.its n.txn).isSome=true:=by rw[hlk];decide
    rw[if_neg (λh=>hsm h.1)];refine Q.r ?_;refine N.r1 RV.c ?_ ⟨none,0,none,0,none,0,rfl,rfl⟩;show Ent _ (qR::qM::qM::rjH p j::roM M0::L);refine Ent.trans (rjc (p:=p) (v:=v) hq hok) ?_;exact eG
 rw[if_neg h5]
 by_cases h7:n.kind=7
 ·rw[if_pos h7]
  cases hd:lkL j.done n.txn with
  |some s=>
   have hs:=hj.p _ _ hd;dsimp only[Option.getD_some];refine Q.r ?_;(repeat (intro b1;refine Q.r ?_));refine N.r1 RV.c ?_ ⟨none,0,some ⟨b1,0,none⟩,1,none,0,rfl,rfl⟩;show Ent _ (qR::slO 183 17 (some ⟨b1,0,none⟩) 1 1 (mailC ((fr,{NA.zero with kind:=5,txn:=n.txn,stamp:=s})))::qM::rjH p j::roM M0::L);refine Ent.nilS ?_;refine Ent.trans ?_ (slO_fold rfl);refine Ent.trans (rjc (p:=p) (v:=v) hq hok) ?_;exact eG
  |none=>
   dsimp only[Option.getD_none];refine Q.r ?_;refine N.r1 RV.c ?_ ⟨none,0,none,0,none,0,rfl,rfl⟩;show Ent _ (qR::qM::qM::rjH p j::roM M0::L);refine Ent.trans (rjc (p:=p) (v:=v) hq hok) ?_;exact eG
 ·rw[if_neg h7]
  refine Q.r ?_;refine N.r1 RV.c ?_ ⟨none,0,none,0,none,0,rfl,rfl⟩;show Ent _ (qR::qM::qM::rjH p j::roM M0::L);refine Ent.trans (rjc (p:=p) (v:=v) hq hok) ?_;exact eG
section
variable {n : Nat} {ops rest : List Oper} {cd : Code} {Q : Post} {f : Env} {L L0 : HL}
theorem swp_front (A:HP)[h:Pick A L L0](hk:swp Tryz.prog n cd Q f (A::L0)):swp Tryz.prog n cd Q f L:=swp_ent h.ent hk
end
theorem putL_perm {α:Type}{m:List (Int×α)}(h:keysOK m)(t:Int)(a:α):(delL m t++[(t,a)]).Perm (putL m t a):=by
 rcases keyCase m h t with ⟨p,b,q,rfl,hp,hq⟩|hn
 ·rw[putL_mid hp hq]
  have e:delL (p++(t,b)::q) t=p++q:=by
   unfold delL;rw[List.filter_append,List.filter_eq_self.2 (λu hu=>by simpa using hp u hu),List.filter_cons,if_neg (by simp),List.filter_eq_self.2 (λu hu=>by simpa using hq u hu)]
  rw[e,List.append_assoc];exact List.Perm.append_left p List.perm_append_comm
 ·rw[putL_none hn,delL_none hn]
theorem insD_perm {ds done:List (Int×Int)}(hp:ds.Perm done)(hk:keysOK done)(d:Int×Int):(insD ds d).Perm (putL done d.1 d.2):=by
 refine List.Perm.trans ?_ (putL_perm hk d.1 d.2);have h1:(delL ds d.1).Perm (delL done d.1):=hp.filter _;refine List.Perm.trans ?_ (h1.append_right _);unfold insD;refine List.Perm.trans List.perm_middle ?_;refine List.Perm.trans ?_ (List.perm_append_comm (l₁:=[(d.1,d.2)]));refine List.Perm.cons _ ?_;have h2:delL ds d.1=ds.filter λu=>decide (u.1<d.1)||decide (d.1<u.1):=by
  unfold delL;refine List.filter_congr λu _=> ?_
  by_cases h:u.1=d.1
  ·simp[h]
  ·simp[h];omega
 rw[h2];clear h1 h2 hp
 induction ds with
 |nil=>simp
 |cons u ds ih=>
  rw[List.filter_cons,List.filter_cons,List.filter_cons]
  by_cases h:u.1<d.1
  ·have h3:¬d.1<u.1:=by omega
   simp only[h,h3,decide_true,decide_false,Bool.true_or,if_true,List.cons_append];exact List.Perm.cons _ ih
  ·by_cases h3:d.1<u.1
   ·simp only[h,h3,decide_true,decide_false,Bool.or_true,if_true]
    exact List.Perm.trans List.perm_middle (List.Perm.cons _ ih)
   ·simp only[h,h3,decide_false,Bool.or_false,if_false]
    exact ih
theorem insD_sorted {ds:List (Int×Int)}(hs:(ds.map (·.1)).Pairwise (· < ·))(d:Int×Int):((insD ds d).map (·.1)).Pairwise (· < ·):=by
 unfold insD;rw[List.map_append,List.map_cons,List.pairwise_append];refine ⟨pw_filter (key:=λu:Int×Int=>u.1) hs _,?_,?_⟩
 ·rw[List.pairwise_cons]
  refine ⟨λx hx=> ?_,pw_filter (key:=λu:Int×Int=>u.1) hs _⟩;obtain ⟨u,hu,rfl⟩:=List.mem_map.1 hx
  simpa using (List.mem_filter.1 hu).2
 ·intro x hx y hy
  obtain ⟨u,hu,rfl⟩:=List.mem_map.1 hx;have h1:u.1<d.1:=by simpa using (List.mem_filter.1 hu).2
  rcases List.mem_cons.1 hy with rfl|hy
  ·exact h1
  ·obtain ⟨w,hw,rfl⟩:=List.mem_map.1 hy
   have h2:d.1<w.1:=by simpa using (List.mem_filter.1 hw).2
   omega
theorem RJOK.setP {M M2:OM}{j j':JS}{sf:Int}{pa pa2:OA}{pc pc2:Nat}{ps:List QV}{da:OA}{dc:Nat}{ds:List (Int×Int)}(h:RJOK M j sf pa pc ps da dc ds)(hl:leM M M2){t:Int}{a5:OA}{c5:Nat}{l:List Int}(h5:SlM M2 a5 l.length 1 (l.map I64))(hj:j'.parts=putL j.parts t l)(hd:j'.done=j.done)
  (hs:SlM M2 pa2 ((ps.filter λu:QV=> !decide (u.txn=t))++[(⟨t,a5,c5,l⟩:QV)]).length 2 (((ps.filter λu=> !decide (u.txn=t))++[(⟨t,a5,c5,l⟩:QV)]).flatMap QV.cells)) (hdm:j'.v.dim=j.v.dim:=by first|rfl|exact lockS_dim _ _ _ _|exact applyS_dim _ _ _|exact sweepS_dim _ _):RJOK M2 j' sf pa2 pc2 ((ps.filter λu:QV=> !decide (u.txn=t))++[(⟨t,a5,c5,l⟩:QV)]) da dc ds:=by
 refine ⟨h.s1,h.s2.trans hdm.symm,?_,λu hu=> ?_,hs,hd▸h.dp,h.sd,h.dS.mono hl,h.dc,hj▸putL_ok h.kp _ _,hd▸h.kd⟩
 ·rw[hj,List.map_append]
  refine List.Perm.trans (List.Perm.append_right _ ?_) (putL_perm h.kp t l);have:=h.pp.filter (λu:Int×List Int=> !decide (u.1=t));rw[List.filter_map] at this;exact this
 ·rcases List.mem_append.1 hu with hu|hu
  ·exact (h.po u (List.mem_filter.1 hu).1).mono hl
  ·rw[List.mem_singleton.1 hu]
   exact h5
theorem RJOK.delP {M M2:OM}{j j':JS}{sf:Int}{pa pa2:OA}{pc pc2:Nat}{ps:List QV}{da:OA}{dc:Nat}{ds:List (Int×Int)}(h:RJOK M j sf pa pc ps da dc ds)(hl:leM M M2){t:Int}(hj:j'.parts=delL j.parts t)(hd:j'.done=j.done)
  (hs:SlM M2 pa2 (ps.filter λu=> !decide (u.txn=t)).length 2 ((ps.filter λu=> !decide (u.txn=t)).flatMap QV.cells)) (hdm:j'.v.dim=j.v.dim:=by first|rfl|exact lockS_dim _ _ _ _|exact applyS_dim _ _ _|exact sweepS_dim _ _):RJOK M2 j' sf pa2 pc2 (ps.filter λu=> !decide (u.txn=t)) da dc ds:=by
 refine ⟨h.s1,h.s2.trans hdm.symm,?_,λu hu=>(h.po u (List.mem_filter.1 hu).1).mono hl,hs,hd▸h.dp,h.sd,h.dS.mono hl,h.dc,hj▸delL_ok h.kp _,hd▸h.kd⟩;rw[hj];have:=h.pp.filter (λu:Int×List Int=> !decide (u.1=t));rw[List.filter_map] at this;exact this
theorem RJOK.putD {M M2:OM}{j j':JS}{sf:Int}{pa:OA}{pc:Nat}{ps:List QV}{da da2:OA}{dc dc2:Nat}{ds:List (Int×Int)}(h:RJOK M j sf pa pc ps da dc ds)(hl:leM M M2){d:Int×Int}(hj:j'.parts=j.parts)(hd:j'.done=putL j.done d.1 d.2)
  (hs:SlM M2 da2 (insD ds d).length 2 ((insD ds d).flatMap dC)) (hc:(insD ds d).length≤dc2) (hdm:j'.v.dim=j.v.dim:=by first|rfl|exact lockS_dim _ _ _ _|exact applyS_dim _ _ _|exact sweepS_dim _ _):RJOK M2 j' sf pa pc ps da2 dc2 (insD ds d):=
 ⟨h.s1,h.s2.trans hdm.symm,hj▸h.pp,λu hu=>(h.po u hu).mono hl,h.pS.mono hl,hd▸insD_perm h.dp h.kd d,insD_sorted h.sd d,hs,hc,hj▸h.kp,hd▸putL_ok h.kd _ _⟩
theorem RJOK.same {M:OM}{j j':JS}{sf:Int}{pa:OA}{pc:Nat}{ps:List QV}{da:OA}{dc:Nat}{ds:List (Int×Int)}(h:RJOK M j sf pa pc ps da dc ds)(hj:j'.parts=j.parts)(hd:j'.done=j.done)(hdm:j'.v.dim=j.v.dim:=by first|rfl|exact lockS_dim _ _ _ _|exact applyS_dim _ _ _|exact sweepS_dim _ _):RJOK M j' sf pa pc ps da dc ds:=
 ⟨h.s1,h.s2.trans hdm.symm,hj▸h.pp,h.po,h.pS,hd▸h.dp,h.sd,h.dS,h.dc,hj▸h.kp,hd▸h.kd⟩
theorem rjclose2 {p v l:Nat}{sf:Int}{M:OM}{j:JS}{pa:OA}{pc:Nat}{ps:List QV}{da:OA}{dc:Nat}{ds:List (Int×Int)}{L L0 L1 L2:HL}[h1:Pick (pt p (cl [.int .i64 sf,ptrV v,.slice pa l pc,.slice da ds.length dc] 72)) L L0][h2:PickR v L0 j.v L1][h3:Pick (roM M) L1 L2](hl:ps.length=l)(hq:RJOK M j sf pa pc ps da dc ds):Ent L (rjH p j::L2):=by
 subst hl;exact Ent.trans h1.ent (Ent.trans (Ent.cons (Ent.trans h2.ent (Ent.cons h3.ent))) (rj_shut hq))
theorem RApp_spec (n:NV)(p:Nat)(j:JS)(k:Nat)(M0:OM)(L:HL)(hj:JOW j k)(hk:k≤10000)(hn:okN M0 n)(hN:OkN n)(hoc:n.ops.length≤n.oc)(hov:∀o∈n.ops,o.vec.length≤o.c)(u:NumA n.abs):
  CallsS Tryz.prog 19 [.pointer (some ⟨p,0,none⟩),n.val] (rjH p j::roM M0::L) (λr L'=>r=.int .i64 (appE j n.abs)∧L'=rjH p (appS j n.abs)::roM M0::L):=by
 have hdl:j.done.length≤10000:=Nat.le_trans hj.dl hk;have hpl:j.parts.length≤10000:=Nat.le_trans hj.pl hk;have hil:j.v.its.length≤10000:=Nat.le_trans hj.w.wf.il hk;have hno1:=hN.o;have hnp1:=hN.p;refine CallsS.of_body Tryz.func19 rfl rfl rfl ?_;refine Q.r ?_;(repeat (intro b1;refine Q.r ?_));refine S.cr rfl (Right12_spec n _ hn.rd hN u) ?_;rintro _ _ ⟨rfl,rfl⟩
 cases hr:rightN n.abs with
 |false=>
  have hE:appE j n.abs=4:=by unfold appE;rw[hr,if_pos rfl]
  have hS:appS j n.abs=j:=by unfold appS;rw[hE];rfl
  rw[hE,hS];refine Q.r ?_;exact N.t rfl eG ⟨rfl,rfl⟩
 |true=>
 by_cases h12:n.kind=12
 ·have hE:appE j n.abs=lockE j.v n.txn n.after (n.ops.map OV.abs):=by
   unfold appE;rw[hr,if_neg zd,if_pos (show n.abs.kind=12 from h12)]
  refine Q.r ?_;refine swp_rj p (λv sf M pa pc ps da dc ds hq=> ?_);have hpl2:ps.length≤10000:=by have:=hq.pp.length_eq;rw[List.length_map] at this;omega
  have hfl:(ps.filter λu:QV=> !decide (u.txn=n.txn)).length≤ps.length:=List.length_filter_le _ _;refine Q.dgo [true,false,false,true] [11] [] [0,1,2,3,4,5,6,7,8,9,10,11,12] ?_;refine Q.rd ?_;refine D.e rfl rfl rfl ?_;refine S.cf v rfl (RLock_spec v j.v k ⟨n.txn,n.after,n.oa,n.oc,n.ops⟩ _ hj.w.wf hk hn.rd.o hoc hov hN.o hN.ov) ?_;rintro _ _ ⟨rfl,rfl⟩;dsimp only;rw[hE]
  by_cases hz:lockE j.v n.txn n.after (n.ops.map OV.abs)=0
  ·have hS:appS j n.abs=⟨lockS j.v n.txn n.after (n.ops.map OV.abs),putL j.parts n.txn n.parts,j.done⟩:=by
    unfold appS;rw[hE,hz,if_neg zd,if_pos (show n.abs.kind=12 from h12)]
   rw[hS,hz];refine Q.r ?_;refine Q.rd ?_;refine Q.r ?_;refine Q.dgo [true,true] [7,10,13,15,16,19] [19] [0,1,2,3,4,5,6,8,9,11,12,99999,0,0,0,0,0,0,0,0] ?_;refine Q.rd2 ?_;refine D.two 7 10 [10,13,14,15,16,17,18,19] [7,13,14,15,16,17,18,19] zk rfl rfl rfl rfl zk zk ?_ ?_
   ·refine S.cr rfl (without_spec pa pc ps n.txn _ hq.pS.rd zo) ?_
    rintro _ _ ⟨a5,c5,rfl,rfl⟩;refine Q.r ?_;refine Q.rd2 ?_;refine D.e rfl rfl rfl ?_;refine GQ.a ?_;refine Q.al (λbz=> ?_);refine Q.r ?_;refine Q.rd2 ?_;refine D.e rfl rfl rfl ?_
    first|refine opsS_ent (slO_fold (sz:=1) (m:=0) rfl) ?_|refine opsS_ent (Ent.trans (Ent.perm (.swap _ _ _)) (slO_fold (sz:=1) (m:=0) rfl)) ?_
    refine S.app0 rfl rfl rfl (SrcS.rd (RdN.p hn.rd) (P_one _)) zr zo zo (λa6 c6=> ?_);refine Q.r ?_;refine Q.rd2 ?_;refine D.e rfl rfl rfl ?_;refine GQ.a ?_;refine Q.al (λb8=> ?_);refine Q.r ?_;refine Q.rd2 ?_;refine D.e rfl rfl rfl ?_;refine S.app rfl rfl (SrcS.sl RdC.row zr zr) zr zo zo (λa7 c7=> ?_);refine Q.r ?_;refine Q.rd2 ?_;refine Q.dc rfl rfl rfl rfl ?_;refine Q.r ?_;refine Q.rd2 ?_;refine Q.rd2 ?_
    repeat (first|refine N.tn ?_|refine N.tr ?_|refine N.te ?_|refine N.bn ?_|refine N.br ?_|refine N.be ?_|refine N.bx rfl ?_)
    refine swp_front (roM M) ?_;refine swp_abs a6 (λM2 hl2 hs2=> ?_);refine swp_abs a7 (λM3 hl3 hs3=> ?_);refine Q.r ?_;refine N.t rfl ?_ ⟨rfl,rfl⟩;have hs4:SlM M3 a7 ((ps.filter λu:QV=> !decide (u.txn=n.txn))++[(⟨n.txn,a6,c6,n.parts⟩:QV)]).length 2 (((ps.filter λu=> !decide (u.txn=n.txn))++[(⟨n.txn,a6,c6,n.parts⟩:QV)]).flatMap QV.cells):=by
     rw[List.length_append,flat_snoc];exact hs3
    have hq2:=hq.setP (pc2:=c7) (j':=⟨lockS j.v n.txn n.after (n.ops.map OV.abs),putL j.parts n.txn n.parts,j.done⟩) (hl2.trans hl3) (hs2.mono hl3) rfl rfl hs4;refine Ent.trans (rjclose2 (p:=p) (v:=v) (by rw[List.length_append]) hq2) ?_;exact eG
   ·refine GQ.a ?_
    refine Q.al (λbz=> ?_);refine Q.r ?_;refine Q.rd2 ?_;refine D.e rfl rfl rfl ?_;refine S.cr rfl (without_spec pa pc ps n.txn _ hq.pS.rd zo) ?_;rintro _ _ ⟨a5,c5,rfl,rfl⟩;refine Q.r ?_;refine Q.rd2 ?_;refine D.e rfl rfl rfl ?_
    first|refine opsS_ent (slO_fold (sz:=1) (m:=0) rfl) ?_|refine opsS_ent (Ent.trans (Ent.perm (.swap _ _ _)) (slO_fold (sz:=1) (m:=0) rfl)) ?_
    refine S.app0 rfl rfl rfl (SrcS.rd (RdN.p hn.rd) (P_one _)) zr zo zo (λa6 c6=> ?_);refine Q.r ?_;refine Q.rd2 ?_;refine D.e rfl rfl rfl ?_;refine GQ.a ?_;refine Q.al (λb8=> ?_);refine Q.r ?_;refine Q.rd2 ?_;refine D.e rfl rfl rfl ?_;refine S.app rfl rfl (SrcS.sl RdC.row zr zr) zr zo zo (λa7 c7=> ?_);refine Q.r ?_;refine Q.rd2 ?_;refine Q.dc rfl rfl rfl rfl ?_;refine Q.r ?_;refine Q.rd2 ?_;refine Q.rd2 ?_
    repeat (first|refine N.tn ?_|refine N.tr ?_|refine N.te ?_|refine N.bn ?_|refine N.br ?_|refine N.be ?_|refine N.bx rfl ?_)
    refine swp_front (roM M) ?_;refine swp_abs a6 (λM2 hl2 hs2=> ?_);refine swp_abs a7 (λM3 hl3 hs3=> ?_);refine Q.r ?_;refine N.t rfl ?_ ⟨rfl,rfl⟩;have hs4:SlM M3 a7 ((ps.filter λu:QV=> !decide (u.txn=n.txn))++[(⟨n.txn,a6,c6,n.parts⟩:QV)]).length 2 (((ps.filter λu=> !decide (u.txn=n.txn))++[(⟨n.txn,a6,c6,n.parts⟩:QV)]).flatMap QV.cells):=by
     rw[List.length_append,flat_snoc];exact hs3
    have hq2:=hq.setP (pc2:=c7) (j':=⟨lockS j.v n.txn n.after (n.ops.map OV.abs),putL j.parts n.txn n.parts,j.done⟩) (hl2.trans hl3) (hs2.mono hl3) rfl rfl hs4;refine Ent.trans (rjclose2 (p:=p) (v:=v) (by rw[List.length_append]) hq2) ?_;exact eG
  ·have hS:appS j n.abs=j:=by unfold appS;rw[hE,if_pos hz]
   have hS2:lockS j.v n.txn n.after (n.ops.map OV.abs)=j.v:=by unfold lockS;rw[if_neg hz]
   rw[hS,hS2];refine Q.r ?_;refine Q.rd ?_;refine Q.r ?_;refine N.t rfl ?_ ⟨rfl,rfl⟩;refine Ent.trans (rjclose (p:=p) (v:=v) (j:=j) hq) ?_;exact eG
 by_cases h13:n.kind=13
 ·have hE:appE j n.abs=applyE j.v n.txn n.stamp:=by
   unfold appE;rw[hr,if_neg zd,if_neg (show ¬n.abs.kind=12 from h12),if_pos (show n.abs.kind=13 from h13)]
  refine Q.r ?_;refine swp_rj p (λv sf M pa pc ps da dc ds hq=> ?_);have hpl2:ps.length≤10000:=by have:=hq.pp.length_eq;rw[List.length_map] at this;omega
  have hfl:(ps.filter λu:QV=> !decide (u.txn=n.txn)).length≤ps.length:=List.length_filter_le _ _;have hdl2:ds.length≤10000:=by rw[hq.dp.length_eq];exact hdl
  refine Q.dgo [true,false,false,true] [8] [] [0,1,2,3,4,5,6,7,8,9] ?_;refine Q.rd ?_;refine D.e rfl rfl rfl ?_;refine S.cf v rfl (RApply_spec v j.v k n.txn n.stamp _ hj.w.wf hk u.stamp.1) ?_;rintro _ _ ⟨rfl,rfl⟩;rw[hE]
  by_cases hz:applyE j.v n.txn n.stamp=0
  ·have hS:appS j n.abs=⟨applyS j.v n.txn n.stamp,delL j.parts n.txn,putL j.done n.txn n.stamp⟩:=by
    unfold appS;rw[hE,hz,if_neg zd,if_neg (show ¬n.abs.kind=12 from h12),if_pos (show n.abs.kind=13 from h13)]
   rw[hS,hz];refine Q.r ?_;refine Q.rd ?_;refine Q.r ?_;refine Q.dgo [true,true] [11,18,21,24] [21] [0,1,2,3,4,5,6,7,8,9,10,12,13,14,15,16,17,11,18,19,20,21,22,23,24] ?_;refine Q.rd2 ?_;refine D.e rfl rfl rfl ?_;refine S.cr rfl (put_spec da dc ds (n.txn,n.stamp) _ hq.dS.rd hq.dc zo hq.sd) ?_;rintro _ _ ⟨a6,c6,rfl,rfl⟩;refine Q.r ?_;refine Q.rd2 ?_;refine D.e rfl rfl rfl ?_;refine S.cr rfl (without_spec pa pc ps n.txn _ hq.pS.rd zo) ?_;rintro _ _ ⟨a5,c5,rfl,rfl⟩;refine Q.r ?_;refine Q.rd2 ?_;refine Q.dc rfl rfl rfl rfl ?_;refine Q.r ?_;refine Q.rd2 ?_;refine D.e rfl rfl rfl ?_;refine Q.r ?_;refine Q.rd2 ?_;refine Q.rd2 ?_
   repeat (first|refine N.tn ?_|refine N.tr ?_|refine N.te ?_|refine N.bn ?_|refine N.br ?_|refine N.be ?_|refine N.bx rfl ?_)
   refine swp_front (roM M) ?_;refine swp_cap a6 (λhc6=> ?_);refine swp_abs a6 (λM2 hl2 hs2=> ?_);refine swp_abs a5 (λM3 hl3 hs3=> ?_);refine Q.r ?_;refine N.t rfl ?_ ⟨rfl,rfl⟩;have hq1:=hq.putD (j':=⟨j.v,j.parts,putL j.done n.txn n.stamp⟩) (d:=(n.txn,n.stamp)) hl2 rfl rfl hs2 hc6;have hq2:=hq1.delP (pc2:=c5) (j':=⟨applyS j.v n.txn n.stamp,delL j.parts n.txn,putL j.done n.txn n.stamp⟩) hl3 rfl rfl hs3;refine Ent.trans (rjclose (p:=p) (v:=v) hq2) ?_;exact eG
  ·have hS:appS j n.abs=j:=by unfold appS;rw[hE,if_pos hz]
   rw[hS,applyS_ne hz];refine Q.r ?_;refine Q.rd ?_;refine Q.r ?_;refine N.t rfl ?_ ⟨rfl,rfl⟩;refine Ent.trans (rjclose (p:=p) (v:=v) (j:=j) hq) ?_;exact eG
 by_cases h14:n.kind=14
 ·have hE:appE j n.abs=if (lkL j.v.its n.txn).isSome then 0 else 6:=by
   unfold appE;rw[hr,if_neg zd,if_neg (show ¬n.abs.kind=12 from h12),if_neg (show ¬n.abs.kind=13 from h13),if_pos (show n.abs.kind=14 from h14)]
  refine Q.r ?_;refine swp_rj p (λv sf M pa pc ps da dc ds hq=> ?_);have hpl2:ps.length≤10000:=by have:=hq.pp.length_eq;rw[List.length_map] at this;omega
  have hfl:(ps.filter λu:QV=> !decide (u.txn=n.txn)).length≤ps.length:=List.length_filter_le _ _;refine Q.dgo [true,false,false,true] [6] [] [0,1,2,3,4,5,6,7] ?_;refine Q.rd ?_;refine D.e rfl rfl rfl ?_;refine S.cf v rfl (RFree_spec v j.v n.txn _ zo) ?_;rintro _ _ ⟨rfl,rfl⟩;rw[hE]
  cases hz:(lkL j.v.its n.txn).isSome with
  |true=>
   rw[hz] at hE;have hS:appS j n.abs=⟨{j.v with its:=delL j.v.its n.txn},delL j.parts n.txn,j.done⟩:=by
    unfold appS;rw[hE,if_pos rfl,if_neg zd,if_neg (show ¬n.abs.kind=12 from h12),if_neg (show ¬n.abs.kind=13 from h13),if_pos (show n.abs.kind=14 from h14)]
   rw[hS,if_pos rfl];refine Q.r ?_;refine Q.rd ?_;refine Q.r ?_;refine Q.dgo [true,true] [7,10] [10] [0,1,2,3,4,5,6,7,8,9,10] ?_;refine Q.rd2 ?_;refine D.e rfl rfl rfl ?_;refine S.cr rfl (without_spec pa pc ps n.txn _ hq.pS.rd zo) ?_;rintro _ _ ⟨a5,c5,rfl,rfl⟩;refine Q.r ?_;refine Q.rd2 ?_;refine Q.dc rfl rfl rfl rfl ?_;refine Q.r ?_;refine Q.rd2 ?_;refine Q.rd2 ?_
   repeat (first|refine N.tn ?_|refine N.tr ?_|refine N.te ?_|refine N.bn ?_|refine N.br ?_|refine N.be ?_|refine N.bx rfl ?_)
   refine swp_front (roM M) ?_;refine swp_abs a5 (λM3 hl3 hs3=> ?_);refine Q.r ?_;refine N.t rfl ?_ ⟨rfl,rfl⟩;have hq2:=hq.delP (pc2:=c5) (j':=⟨{j.v with its:=delL j.v.its n.txn},delL j.parts n.txn,j.done⟩) hl3 rfl rfl hs3;refine Ent.trans (rjclose (p:=p) (v:=v) hq2) ?_;exact eG
  |false=>
   rw[hz] at hE;have hS:appS j n.abs=j:=by unfold appS;rw[hE,if_pos zd]
   have hz2:lkL j.v.its n.txn=none:=isSome_ne (by rw[hz];decide);have hS2:({j.v with its:=delL j.v.its n.txn}:VS)=j.v:=by rw[delL_none (lk_none' hz2)]
   rw[hS,hS2,if_neg zd];refine Q.r ?_;refine Q.rd ?_;refine Q.r ?_;refine N.t rfl ?_ ⟨rfl,rfl⟩;refine Ent.trans (rjclose (p:=p) (v:=v) (j:=j) hq) ?_;exact eG
 by_cases h15:n.kind=15
 ·have hE:appE j n.abs=0:=by
   unfold appE;rw[hr,if_neg zd,if_neg (show ¬n.abs.kind=12 from h12),if_neg (show ¬n.abs.kind=13 from h13),if_neg (show ¬n.abs.kind=14 from h14),if_pos (show n.abs.kind=15 from h15)]
  have hS:appS j n.abs=⟨sweepS j.v n.mark,j.parts,j.done⟩:=by
   unfold appS;rw[hE,if_neg zd,if_neg (show ¬n.abs.kind=12 from h12),if_neg (show ¬n.abs.kind=13 from h13),if_neg (show ¬n.abs.kind=14 from h14),if_pos (show n.abs.kind=15 from h15)]
  rw[hE,hS];refine Q.r ?_;refine swp_rj p (λv sf M pa pc ps da dc ds hq=> ?_);refine Q.dgo [true,false,false,true] [6] [] [0,1,2,3,4,5,6] ?_;refine Q.rd ?_;refine D.e rfl rfl rfl ?_;refine S.cf v rfl (RSweep_spec v j.v k n.mark _ hj.w.wf hk) ?_;rintro _ _ ⟨a5,c5,rfl,rfl⟩;refine Q.r ?_;refine Q.rd ?_;refine Q.r ?_;refine N.t rfl ?_ ⟨rfl,rfl⟩;refine Ent.trans (rjclose (p:=p) (v:=v) (j:=⟨sweepS j.v n.mark,j.parts,j.done⟩) (hq.same rfl rfl)) ?_;exact eG
 ·have hE:appE j n.abs=4:=by
   unfold appE;rw[hr,if_neg zd,if_neg (show ¬n.abs.kind=12 from h12),if_neg (show ¬n.abs.kind=13 from h13),if_neg (show ¬n.abs.kind=14 from h14),if_neg (show ¬n.abs.kind=15 from h15)]
  have hS:appS j n.abs=j:=by unfold appS;rw[hE];rfl
  rw[hE,hS];refine Q.r ?_;exact N.t rfl eG ⟨rfl,rfl⟩
def RdNs (A:HL)(a:OA)(xs:List NV):Prop:=RdS A a xs.length 16 (xs.flatMap NV.cells)∧∀n∈xs,RdN A n∧OkN n
def RdMs (A:HL)(a:OA)(xs:List (Int×NV)):Prop:=RdS A a xs.length 17 (xs.flatMap mcells)∧∀n∈xs,RdN A n.2∧OkN n.2
theorem RdNs.sub {A L:HL}{a:OA}{xs:List NV}(h:RdNs A a xs)[s:Sub A L]:RdNs L a xs:=⟨h.1.sub,λn hn=>⟨(h.2 n hn).1.sub,(h.2 n hn).2⟩⟩
theorem RdMs.sub {A L:HL}{a:OA}{xs:List (Int×NV)}(h:RdMs A a xs)[s:Sub A L]:RdMs L a xs:=⟨h.1.sub,λn hn=>⟨(h.2 n hn).1.sub,(h.2 n hn).2⟩⟩
theorem SameAll_spec (a:OA)(c:Nat)(xs:List NV)(a':OA)(c':Nat)(ys:List NV)(A:HL)(h:RdNs A a xs)(h':RdNs A a' ys)(hn:xs.length≤1000000)(he:xs.map NV.abs=ys.map NV.abs):
  CallsS Tryz.prog 89 [.slice a xs.length c,.slice a' ys.length c'] A (λv L'=>v=.bool true∧L'=A):=by
 have hl:ys.length=xs.length:=by
  have:=congrArg List.length he
  simp at this;omega
 refine CallsS.of_body Tryz.func89 rfl rfl rfl ?_;refine Q.r ?_;refine swp_loop (σ:=Nat) (λk=> [(0,.slice a xs.length c),(1,.slice a' ys.length c'),(12,.int .i64 xs.length),(13,.int .i64 k)]) (λ_=>A)
  (λk=>k≤xs.length) (λk=>xs.length - k) 0 zt (Ent.refl _) zo ?_
 intro k hk
 by_cases hlt:k<xs.length
 ·obtain ⟨x,hx⟩:=mem_get hlt
  obtain ⟨y,hy⟩:=mem_get (l:=ys) (k:=k) zo;have hxy:=okmap he hx hy;have hrx:=h.2 x (List.mem_of_getElem? hx);have hry:=h'.2 y (List.mem_of_getElem? hy);obtain ⟨b,o,rfl,hr⟩:=RdS.elem (g:=NV.cells) (l:=xs) (λ_=>rfl) h.1 hx rfl;obtain ⟨b',o',rfl,hr'⟩:=RdS.elem (g:=NV.cells) (l:=ys) (λ_=>rfl) h'.1 hy rfl;clear hx hy he;refine Q.r ?_;refine D.start [8] [8] [0,1,2,3,4,5,6,7,8,9] _ [] rfl zk rfl zk NoPanic.no (Ent.refl _) ?_;refine Q.rd5 ?_;refine Q.dc rfl rfl rfl rfl ?_;rw[List.append_nil];refine S.cr (args:=[x.val,y.val]) rfl (Same12_spec x y _ hrx.1 hry.1 hrx.2 hry.2 hxy) ?_;rintro _ _ ⟨rfl,he⟩;rw[he];clear he;refine Q.r ?_;refine Q.rd5 ?_;refine Q.r ?_;exact ⟨k+1,zt,Ent.refl _,by omega,by omega⟩
 ·have hke:k=xs.length:=by omega
  subst hke;refine Q.r ?_;exact N.t rfl (Ent.refl _) ⟨rfl,rfl⟩
theorem SameMail_spec (a:OA)(c:Nat)(xs:List (Int×NV))(a':OA)(c':Nat)(ys:List (Int×NV))(A:HL)(h:RdMs A a xs)(h':RdMs A a' ys)(hn:xs.length≤1000000)(he:xs.map (λm=>(m.1,m.2.abs))=ys.map (λm=>(m.1,m.2.abs))):
  CallsS Tryz.prog 45 [.slice a xs.length c,.slice a' ys.length c'] A (λv L'=>v=.bool true∧L'=A):=by
 have hl:ys.length=xs.length:=by
  have:=congrArg List.length he
  simp at this;omega
 refine CallsS.of_body Tryz.func45 rfl rfl rfl ?_;refine Q.r ?_;refine swp_loop (σ:=Nat) (λk=> [(0,.slice a xs.length c),(1,.slice a' ys.length c'),(12,.int .i64 xs.length),(13,.int .i64 k)]) (λ_=>A)
  (λk=>k≤xs.length) (λk=>xs.length - k) 0 zt (Ent.refl _) zo ?_
 intro k hk
 by_cases hlt:k<xs.length
 ·obtain ⟨x,hx⟩:=mem_get hlt
  obtain ⟨y,hy⟩:=mem_get (l:=ys) (k:=k) zo;have hxy:=okmap he hx hy;have hrx:=h.2 x (List.mem_of_getElem? hx);have hry:=h'.2 y (List.mem_of_getElem? hy);obtain ⟨b,o,rfl,hr⟩:=RdS.elem (g:=mcells) (l:=xs) (λ_=>rfl) h.1 hx rfl;obtain ⟨b',o',rfl,hr'⟩:=RdS.elem (g:=mcells) (l:=ys) (λ_=>rfl) h'.1 hy rfl;clear hx hy he;obtain ⟨x1,x2⟩:=x;obtain ⟨y1,y2⟩:=y;dsimp only at hrx hry hxy;obtain ⟨hx1,hx2⟩:=Prod.mk.inj hxy;subst hx1;have ht:RdC A b (o+k*17+1) x2.cells:=hr.tail;have ht':RdC A b' (o'+k*17+1) y2.cells:=hr'.tail;have hh:RdC A b (o+k*17) [I64 x1]:=hr.head;have hh':RdC A b' (o'+k*17) [I64 x1]:=hr'.head;clear hr hr';refine Q.r ?_;refine D.start [22] [22] [0,1,2,3,4,5,6,7,8,9,10,11,12,13,14,15,16,17,18,19,20,21,22,23,24] _ [] rfl zk rfl zk NoPanic.no (Ent.refl _) ?_;refine Q.rd5 ?_;refine Q.dF rfl rfl rfl ?_ (by simp);refine Q.rd5 ?_;refine Q.dc rfl rfl rfl rfl ?_;rw[List.append_nil];refine S.guard rfl ?_;refine S.cr (args:=[x2.val,y2.val]) rfl (Same12_spec x2 y2 _ hrx.1 hry.1 hrx.2 hry.2 hx2) ?_;rintro _ _ ⟨rfl,he⟩;rw[he];clear he;refine Q.r ?_;refine Q.rd5 ?_;refine Q.r ?_;exact ⟨k+1,zt,Ent.refl _,by omega,by omega⟩
 ·have hke:k=xs.length:=by omega
  subst hke;refine Q.r ?_;exact N.t rfl (Ent.refl _) ⟨rfl,rfl⟩
theorem SamePlan_spec (ra rb:OA)(rc rd:Nat)(xs ys:List NV)(ma mb ea eb:OA)(mc md ec ed:Nat)(ms ns es fs:List (Int×NV))(A:HL)(h:RdNs A ra xs)(h':RdNs A rb ys)(hm:RdMs A ma ms)(hm':RdMs A mb ns)(he:RdMs A ea es)(he':RdMs A eb fs)
  (hn:xs.length≤1000000) (hn2:ms.length≤1000000) (hn3:es.length≤1000000) (e1:xs.map NV.abs=ys.map NV.abs) (e2:ms.map (λm=>(m.1,m.2.abs))=ns.map (λm=>(m.1,m.2.abs))) (e3:es.map (λm=>(m.1,m.2.abs))=fs.map (λm=>(m.1,m.2.abs))):
  CallsS Tryz.prog 21 [.agg #[.slice ra xs.length rc,.slice ma ms.length mc,.slice ea es.length ec],.agg #[.slice rb ys.length rd,.slice mb ns.length md,.slice eb fs.length ed]] A (λv L'=>v=.bool true∧L'=A):=by
 refine CallsS.of_body Tryz.func21 rfl rfl rfl ?_;refine Q.r ?_;(repeat (intro b1;refine Q.r ?_));refine S.cr rfl (SameAll_spec ra rc xs rb rd ys _ h.sub h'.sub hn e1) ?_;rintro _ _ ⟨rfl,rfl⟩;refine Q.r ?_;refine S.cr rfl (SameMail_spec ma mc ms mb md ns _ hm.sub hm'.sub hn2 e2) ?_;rintro _ _ ⟨rfl,rfl⟩;refine Q.r ?_;refine S.cr rfl (SameMail_spec ea ec es eb ed fs _ he.sub he'.sub hn3 e3) ?_;rintro _ _ ⟨rfl,rfl⟩;refine Q.r ?_;exact N.t rfl (Ent.drop (Ent.drop (Ent.refl _))) ⟨rfl,rfl⟩
theorem back_spec (a:OA)(c:Nat)(ms:List (Int×NV))(A:HL)(h:RdS A a ms.length 17 (ms.flatMap mcells))(hn:ms.length≤1000000):
  CallsS Tryz.prog 46 [.slice a ms.length c] A (λr L'=>∃a' c',r=.slice a' ms.length c'∧L'=slO 183 17 a' ms.length c' (ms.flatMap mcells)::A):=by
 refine CallsS.of_body Tryz.func46 rfl rfl rfl ?_;refine Q.r ?_;refine swp_loop (σ:=Nat×OA×Nat×List (Int×NV)) (λs=> [(6,.slice a ms.length c),(7,.int .i64 ms.length),(3,.slice s.2.1 s.2.2.2.length s.2.2.1),(8,.int .i64 s.1)])
  (λs=>slO 183 17 s.2.1 s.2.2.2.length s.2.2.1 (s.2.2.2.flatMap mcells)::A)
  (λs=>s.1≤ms.length∧s.2.2.2=ms.take s.1) (λs=>ms.length - s.1) (0,none,0,[]) zt slO_nil ⟨by omega,by simp⟩ ?_
 rintro ⟨k,a3,c3,us⟩ ⟨hk,hus⟩;dsimp only at hk hus ⊢;have hul:us.length=k:=by rw[hus,List.length_take];omega
 by_cases hlt:k<ms.length
 ·obtain ⟨q,hq⟩:=mem_get hlt
  have hrs:RdS (slO 183 17 a3 us.length c3 (us.flatMap mcells)::A) a ms.length 17 (ms.flatMap mcells):=h.sub;obtain ⟨b,oo,hia,hr⟩:=RdS.elem (g:=mcells) (λ_=>rfl) hrs hq rfl;clear hrs;rw[hia];refine Q.r ?_;(repeat (intro b1;refine Q.r ?_));refine S.app rfl rfl (SrcS.sl RdC.row zr zr) zr zo zo (λa7 c7=> ?_);refine Q.r ?_;refine ⟨(k+1,a7,c7,us++[q]),⟨rfl,rfl,congrArg some (by simp),rfl,trivial⟩,?_,⟨by dsimp only;omega,?_⟩,by dsimp only;omega⟩
  ·dsimp only
   rw[len_snoc,flat_snoc];exact eG
  ·dsimp only
   rw[take_snoc hq,←hus]
 ·have hke:k=ms.length:=by omega
  subst hke;rw[List.take_length] at hus;subst hus;refine Q.r ?_;exact N.t rfl (Ent.refl _) ⟨a3,c3,rfl,rfl⟩
theorem plan_spec (ra:OA)(rc:Nat)(xs:List NV)(ma:OA)(mc:Nat)(ms:List (Int×NV))(ea:OA)(ec:Nat)(es:List (Int×NV))(A:HL)(h:RdS A ra xs.length 16 (xs.flatMap NV.cells))(hm:RdS A ma ms.length 17 (ms.flatMap mcells))(he:RdS A ea es.length 17 (es.flatMap mcells))(h1:xs.length≤1000000)(h2:ms.length≤1000000)(h3:es.length≤1000000):
  CallsS Tryz.prog 22 [.agg #[.slice ra xs.length rc,.slice ma ms.length mc,.slice ea es.length ec]] A (fun r L' => ∃ a1 c1 a2 c2 a3 c3,r = .agg #[.slice a1 xs.length c1,.slice a2 ms.length c2,.slice a3 es.length c3] ∧
   L'=slO 37 16 a1 xs.length c1 (xs.flatMap NV.cells)::slO 183 17 a2 ms.length c2 (ms.flatMap mcells)::slO 183 17 a3 es.length c3 (es.flatMap mcells)::A):=by
 refine CallsS.of_body Tryz.func22 rfl rfl rfl ?_;refine Q.r ?_;(repeat (intro b1;refine Q.r ?_));rename_i b0;refine swp_cutB (σ:=OA×Nat) (λs=> [(1,.pointer (some ⟨b0,0,none⟩)),(2,.pointer (some ⟨b1,0,none⟩)),(3,.slice s.1 xs.length s.2)])
  (λs=>pt b1 (cl [.slice none 0 0,.slice none 0 0,.slice none 0 0] 78)::pt b0 (cl [.slice ra xs.length rc,.slice ma ms.length mc,.slice ea es.length ec] 50)::slO 37 16 s.1 xs.length s.2 (xs.flatMap NV.cells)::A) (λ_=>True) ?_ ?_
 ·refine swp_loop (σ:=Nat×OA×Nat×List NV) (λs=> [(1,.pointer (some ⟨b0,0,none⟩)),(2,.pointer (some ⟨b1,0,none⟩)),(7,.slice ra xs.length rc),(8,.int .i64 xs.length),(3,.slice s.2.1 s.2.2.2.length s.2.2.1),(9,.int .i64 s.1)])
   (λs=>slO 37 16 s.2.1 s.2.2.2.length s.2.2.1 (s.2.2.2.flatMap NV.cells)::pt b1 (cl [.slice none 0 0,.slice none 0 0,.slice none 0 0] 78)::pt b0 (cl [.slice ra xs.length rc,.slice ma ms.length mc,.slice ea es.length ec] 50)::A)
   (λs=>s.1≤xs.length∧s.2.2.2=xs.take s.1) (λs=>xs.length - s.1) (0,none,0,[]) zt slO_nil ⟨by omega,by simp⟩ ?_
  rintro ⟨k,a3,c3,us⟩ ⟨hk,hus⟩;dsimp only at hk hus ⊢;have hul:us.length=k:=by rw[hus,List.length_take];omega
  by_cases hlt:k<xs.length
  ·obtain ⟨q,hq⟩:=mem_get hlt
   have hrs:RdS (slO 37 16 a3 us.length c3 (us.flatMap NV.cells)::pt b1 (cl [.slice none 0 0,.slice none 0 0,.slice none 0 0] 78)::pt b0 (cl [.slice ra xs.length rc,.slice ma ms.length mc,.slice ea es.length ec] 50)::A) ra xs.length 16 (xs.flatMap NV.cells):=h.sub;obtain ⟨b,oo,hia,hr⟩:=RdS.elem (g:=NV.cells) (λ_=>rfl) hrs hq rfl;clear hrs;subst hia;refine Q.r ?_;(repeat (intro b1;refine Q.r ?_));refine S.app rfl rfl (SrcS.sl RdC.row zr zr) zr zo zo (λa7 c7=> ?_);refine Q.r ?_;refine ⟨(k+1,a7,c7,us++[q]),⟨rfl,rfl,rfl,rfl,congrArg some (by simp),rfl,trivial⟩,?_,⟨by dsimp only;omega,?_⟩,by dsimp only;omega⟩
   ·dsimp only
    rw[len_snoc,flat_snoc];exact eG
   ·dsimp only
    rw[take_snoc hq,←hus]
  ·have hke:k=xs.length:=by omega
   subst hke;rw[List.take_length] at hus;subst hus;refine Q.r ?_;exact ⟨(a3,c3),zt,by exact eG,trivial⟩
 rintro ⟨a1,c1⟩ _;refine Q.r ?_;refine Q.dgo [false,true] [3,6,8] [] [0,1,2,4,5,3,6,7,8] ?_;refine Q.rd ?_;refine D.e rfl rfl rfl ?_;refine S.cr rfl (back_spec ma mc ms _ hm.sub h2) ?_;rintro _ _ ⟨a2,c2,rfl,rfl⟩;refine Q.r ?_;refine Q.rd ?_;refine D.e rfl rfl rfl ?_;refine S.cr rfl (back_spec ea ec es _ he.sub h3) ?_;rintro _ _ ⟨a3,c3,rfl,rfl⟩;refine Q.r ?_;refine Q.rd ?_;refine Q.r ?_;refine N.r1 RV.c ?_ ⟨a1,c1,a2,c2,a3,c3,rfl,rfl⟩;exact eG
structure EO where
 fr:Int
 n:NV
 w:Bool
 r:Bool
 ask:Int
 id:Int
abbrev EO.cells (o:EO):List Value:=[.int .i64 o.fr,.int .u8 o.n.kind,.int .u64 o.n.txn,.int .u64 o.n.batch,.int .u64 o.n.stamp,.int .u64 o.n.after,.int .u64 o.n.mark,.int .u64 o.n.query,.int .u64 o.n.id,.int .i64 o.n.k,.int .i64 o.n.ef,.int .i64 o.n.code,.int .i64 o.n.who,
 .slice o.n.pa o.n.parts.length o.n.pc,.slice o.n.oa o.n.ops.length o.n.oc,.slice o.n.va o.n.vec.length o.n.vc,.slice o.n.ha o.n.hits.length o.n.hc,.bool o.w,.bool o.r,.int .u64 o.ask,.int .u64 o.id]
structure EOK (M:OM)(o:EO):Prop where
 n:okN M o.n
 c:CapN o.n
 u:NumN o.n
 uu:NumA o.n.abs
theorem EOK.mono {M M':OM}{o:EO}(h:EOK M o)(hl:leM M M'):EOK M' o:=⟨h.n.mono hl,h.c,h.u,h.uu⟩
theorem NumN.few {n':NV}{n:NV}(h:NumN n)(e:n'.abs=n.abs.few):NumN n':=by
 have e1:n'.kind=n.kind:=congrArg NA.kind e;have e2:n'.txn=n.txn:=congrArg NA.txn e;have e3:n'.stamp=n.stamp:=congrArg NA.stamp e;have e4:n'.mark=n.mark:=congrArg NA.mark e;have e5:n'.after=n.after:=congrArg NA.after e;exact ⟨by rw[e1];exact h.kind,by rw[e2];exact h.txn,by rw[e3];exact h.stamp,by rw[e4];exact h.mark,by rw[e5];exact h.after⟩
section
variable {n : Nat} {ops rest : List Oper} {Q : Post} {f : Env} {L L0 : HL} {M : OM}
theorem S.cm {d:Tmp}{ty:TypeId}{pos:String}{af:Array Edge}{g:FuncId}{xs:Array Operand}{ats:Array TypeId}{args:List Value}{R:Value→HL→Prop}[hm:PickM L M L0][he:Enters Tryz.prog g](hx:argsL f xs.toList=some args)(hc:CallsS Tryz.prog g args (roM M::L0) R)(hk:∀v L',R v L'→opsS Tryz.prog n ops rest Q (upd f d v) L'):
  opsS Tryz.prog n ops (⟨some d,.call ⟨.value (.func g),xs,ats⟩,ty,pos,af,none⟩::rest) Q f L:=opsS_ent hm.ent (S.cr hx hc hk)
end
structure OnceI (j:JS)(k:Nat)(P:List (Int×Bool)):Prop where
 ok:JOK j k
 kP:keysOK P
 pr:∀t,(lkL j.v.its t).isSome=true→lkL P t=some true
structure S5 where
 b9:Nat
 b10:Nat
 ra:OA
 rc:Nat
 ma:OA
 mc:Nat
 ea:OA
 ec:Nat
 qa:OA
 qc:Nat
 qb:OA
 qd:Nat
 qe:OA
 qf:Nat
 M:OM
theorem NumA.few {n':NV}{n:NV}(h:NumA n.abs)(e:n'.abs=n.abs.few):NumA n'.abs:=by
 rw[e];exact ⟨h.kind,h.txn,h.batch,h.stamp,h.after,h.mark,h.query,h.id,h.k,h.ef,h.code,h.who⟩
structure RecOK (n2 n1:NV)(r:NA):Prop where
 e1:(liftN n2 r).abs=r
 e2:(liftQ n1 r).abs=r
 n2:NumN (liftN n2 r)
 u1:NumA (liftQ n1 r).abs
theorem rec_ok {n2 n1:NV}(he:n2.abs=n1.abs)(u:NumA n1.abs){r:NA}{f:Int}(hr:rightN r=true)(h:(r={n1.abs with kind:=12}∧n1.abs.kind=3∧f=0)∨r=comN n1.abs.txn n1.abs.stamp∨r=aboN n1.abs.txn):RecOK n2 n1 r:=by
 have z0:(0:Int)≤0∧(0:Int)≤18446744073709551615:=by decide
 have z1:(0:Int)≤9223372036854775807:=by decide
 rcases h with ⟨rfl,h3,_⟩|rfl|rfl
 ·have hr1:rightN n1.abs=true:=by
   unfold rightN at hr ⊢;rw[h3];exact hr
  have hz:=right3 u hr1 h3;refine ⟨?_,?_,?_,?_⟩
  ·unfold liftN
   rw[if_pos rfl]
   show ({n2.abs with kind:=12}:NA)=_
   rw[he]
  ·unfold liftQ
   rw[if_pos rfl];have:=congrArg (λz:NA=>({z with kind:=12}:NA)) hz;exact this.symm
  ·unfold liftN
   rw[if_pos rfl];have a1:n2.txn=n1.txn:=congrArg NA.txn he;have a2:n2.stamp=n1.stamp:=congrArg NA.stamp he;have a3:n2.mark=n1.mark:=congrArg NA.mark he;have a4:n2.after=n1.after:=congrArg NA.after he;exact ⟨by show (0:Int)≤12∧(12:Int)≤255;decide,by show 0≤n2.txn;rw[a1];exact u.txn.1,by show 0≤n2.stamp;rw[a2];exact u.stamp.1,by show 0≤n2.mark;rw[a3];exact u.mark.1,by show 0≤n2.after;rw[a4];exact u.after.1⟩
  ·unfold liftQ
   rw[if_pos rfl];exact ⟨by show (0:Int)≤12∧(12:Int)≤255;decide,u.txn,z0,z0,u.after,z0,z0,z0,z1,z1,z1,z1⟩
 ·exact ⟨rfl,rfl,⟨by show (0:Int)≤13∧(13:Int)≤255;decide,u.txn.1,u.stamp.1,Int.le_refl _,Int.le_refl _⟩,⟨by show (0:Int)≤13∧(13:Int)≤255;decide,u.txn,z0,u.stamp,z0,z0,z0,z0,z1,z1,z1,z1⟩⟩
 ·exact ⟨rfl,rfl,⟨by show (0:Int)≤14∧(14:Int)≤255;decide,u.txn.1,Int.le_refl _,Int.le_refl _,Int.le_refl _⟩,⟨by show (0:Int)≤14∧(14:Int)≤255;decide,u.txn,z0,z0,z0,z0,z0,z0,z1,z1,z1,z1⟩⟩
theorem okN.lift {M:OM}{n:NV}(h:okN M n)(r:NA):okN M (liftN n r):=by
 unfold liftN
 split
 ·exact ⟨h.p,h.o,h.v,h.h,h.hv⟩
 ·exact okN.nv r
theorem OkN.lift {n:NV}(h:OkN n)(r:NA):OkN (liftN n r):=by
 unfold liftN
 split
 ·exact ⟨h.p,h.o,h.ov,h.v,h.h,h.hv⟩
 ·exact OkN.nv r
theorem okN.liftQ {M:OM}{n:NV}(h:okN M n)(r:NA):okN M (liftQ n r):=by
 unfold Go.Proofs.YtjlgabojhnnbaaaGreatDoor.liftQ
 split
 ·exact ⟨h.p,h.o,SlM.nil0,SlM.nil0,λo ho=>by cases ho⟩
 ·exact okN.nv r
theorem OkN.liftQ {n:NV}(h:OkN n)(r:NA):OkN (liftQ n r):=by
 unfold Go.Proofs.YtjlgabojhnnbaaaGreatDoor.liftQ
 split
 ·exact ⟨h.p,h.o,h.ov,Nat.zero_le _,Nat.zero_le _,λo ho=>by cases ho⟩
 ·exact OkN.nv r
abbrev nvm (m:Int×NA):Int×NV:=(m.1,m.2.nv)
theorem flat_mail (l:List (Int×NA)):l.flatMap mailC=(l.map nvm).flatMap mcells:=by rw[List.flatMap_map]
theorem flat_rec (g:NA→NV)(l:List NA):(l.flatMap λr=>(g r).cells)=(l.map g).flatMap NV.cells:=by rw[List.flatMap_map]
theorem mail_rd {M:OM}{L:HL}[HasM M L]{a:OA}{l:List (Int×NA)}(h:SlM M a l.length 17 (l.flatMap mailC)):RdMs L a (l.map nvm):=by
 rw[flat_mail,←List.length_map (f:=nvm)] at h;refine ⟨h.rd,λm hm=> ?_⟩;obtain ⟨u,hu,rfl⟩:=List.mem_map.1 hm;exact ⟨(okN.nv (M:=M) u.2).rd,OkN.nv u.2⟩
theorem rec_rd {M:OM}{L:HL}[HasM M L]{a:OA}{l:List NA}{g:NA→NV}(h:SlM M a l.length 16 (l.flatMap λr=>(g r).cells))(hg:∀r,okN M (g r)∧OkN (g r)):RdNs L a (l.map g):=by
 rw[flat_rec,←List.length_map (f:=g)] at h;refine ⟨h.rd,λm hm=> ?_⟩;obtain ⟨u,hu,rfl⟩:=List.mem_map.1 hm;exact ⟨(hg u).1.rd,(hg u).2⟩
theorem recs_rd {M:OM}{L:HL}[HasM M L]{a:OA}{l:List NA}{g:NA→NV}(h:SlM M a l.length 16 ((l.map g).flatMap NV.cells))(hg:∀r,okN M (g r)∧OkN (g r)):RdNs L a (l.map g):=rec_rd (by rw[flat_rec];exact h) hg
theorem mails_rd {M:OM}{L:HL}[HasM M L]{a:OA}{l:List (Int×NA)}(h:SlM M a l.length 17 ((l.map nvm).flatMap mcells)):RdMs L a (l.map nvm):=mail_rd (by rw[flat_mail];exact h)
theorem rec_rdS {M:OM}{L:HL}[HasM M L]{a:OA}{l:List NA}{g:NA→NV}(h:SlM M a l.length 16 (l.flatMap λr=>(g r).cells)):RdS L a (l.map g).length 16 ((l.map g).flatMap NV.cells):=by
 rw[flat_rec,←List.length_map (f:=g)] at h;exact h.rd
theorem mail_rdS {M:OM}{L:HL}[HasM M L]{a:OA}{l:List (Int×NA)}(h:SlM M a l.length 17 (l.flatMap mailC)):RdS L a (l.map nvm).length 17 ((l.map nvm).flatMap mcells):=(mail_rd h).1
theorem capQ {n:NV}(h:n.ops.length≤n.oc)(hv:∀o∈n.ops,o.vec.length≤o.c)(r:NA):(liftQ n r).ops.length≤(liftQ n r).oc∧∀o∈(liftQ n r).ops,o.vec.length≤o.c:=by
 unfold liftQ
 split
 ·exact ⟨h,hv⟩
 ·exact ⟨Nat.le_refl _,λo ho=>by cases ho⟩
theorem plan_len {j:JS}{f:Int}{n:NA}:(planV j f n).mail.length≤1∧(planV j f n).els.length≤1∧∀m∈(planV j f n).mail++(planV j f n).els,m.2.nv.abs=m.2:=by
 unfold planV prepV deciV
 repeat' split
 all_goals refine ⟨by simp[PA.none],by simp[PA.none],?_⟩
 all_goals simp[PA.none]
theorem planL_spec (ra:OA)(rc l1 l2 l3:Nat)(xs:List NV)(ma:OA)(mc:Nat)(ms:List (Int×NV))(ea:OA)(ec:Nat)(es:List (Int×NV))(A:HL)(e1:l1=xs.length)(e2:l2=ms.length)(e3:l3=es.length)(h:RdS A ra xs.length 16 (xs.flatMap NV.cells))(hm:RdS A ma ms.length 17 (ms.flatMap mcells))(he:RdS A ea es.length 17 (es.flatMap mcells))(h1:l1≤1)(h2:l2≤1)(h3:l3≤1):
  CallsS Tryz.prog 22 [.agg #[.slice ra l1 rc,.slice ma l2 mc,.slice ea l3 ec]] A (fun r L' => ∃ a1 c1 a2 c2 a3 c3,r = .agg #[.slice a1 l1 c1,.slice a2 l2 c2,.slice a3 l3 c3] ∧
   L'=slO 37 16 a1 l1 c1 (xs.flatMap NV.cells)::slO 183 17 a2 l2 c2 (ms.flatMap mcells)::slO 183 17 a3 l3 c3 (es.flatMap mcells)::A):=by
 subst e1 e2 e3;exact plan_spec ra rc xs ma mc ms ea ec es A h hm he zo zo zo
theorem SamePlanL_spec (ra rb:OA)(rc rd l1 l2 l3:Nat)(xs ys:List NV)(ma mb ea eb:OA)(mc md ec ed:Nat)(ms ns es fs:List (Int×NV))(A:HL)(h:RdNs A ra xs)(h':RdNs A rb ys)(hm:RdMs A ma ms)(hm':RdMs A mb ns)(he:RdMs A ea es)(he':RdMs A eb fs)
  (k1:l1=xs.length) (k2:l2=ms.length) (k3:l3=es.length) (hn:l1≤1) (hn2:l2≤1) (hn3:l3≤1) (e1:xs.map NV.abs=ys.map NV.abs) (e2:ms.map (λm=>(m.1,m.2.abs))=ns.map (λm=>(m.1,m.2.abs))) (e3:es.map (λm=>(m.1,m.2.abs))=fs.map (λm=>(m.1,m.2.abs))):
  CallsS Tryz.prog 21 [.agg #[.slice ra l1 rc,.slice ma l2 mc,.slice ea l3 ec],.agg #[.slice rb l1 rd,.slice mb l2 md,.slice eb l3 ed]] A (λv L'=>v=.bool true∧L'=A):=by
 subst k1 k2 k3;have a1:ys.length=xs.length:=by have:=congrArg List.length e1;simp at this;omega
 have a2:ns.length=ms.length:=by have:=congrArg List.length e2;simp at this;omega
 have a3:fs.length=es.length:=by have:=congrArg List.length e3;simp at this;omega
 have:=SamePlan_spec ra rb rc rd xs ys ma mb ea eb mc md ec ed ms ns es fs A h h' hm hm' he he' zo zo zo e1 e2 e3;rw[a1,a2,a3] at this;exact this
theorem step_spec (o:EO)(p x:Nat)(j:JS)(k:Nat)(M:OM)(L:HL)(hj:JOW j k)(hk:k≤9000)(ho:EOK M o)(hT:TabM M):
  CallsS Tryz.prog 7 [ptrJ p,.pointer (some ⟨x,0,none⟩),.agg o.cells.toArray] (jurH M p j::rjH x j::roM M::L) (λr L'=>∃M',r=.bool true∧leM M M'∧L'=jurH M' p (stepS j o.fr o.n.abs.few o.w o.r)::rjH x (stepS j o.fr o.n.abs.few o.w o.r)::roM M'::L):=by
 refine CallsS.of_body Tryz.func7 rfl rfl rfl ?_;refine Q.r ?_;(repeat (intro b1;refine Q.r ?_));revert b1;intro bo;refine S.cm (args:=[o.n.val]) rfl (NFew_spec o.n M _ ho.n ho.c) ?_;rintro _ _ ⟨n1,M1,rfl,hl1,hn1,hc1,hoc1,he1,rfl⟩;have hN1:=few_OkN he1;have hu1:=ho.u.few he1;have hua1:NumA n1.abs:=NumA.few ho.uu he1;refine opsS_jm p hl1 ?_
 cases hraw:o.r with
 |true=>
  rw[show stepS j o.fr o.n.abs.few o.w true=appS j o.n.abs.few from rfl];refine Q.r ?_;(repeat (intro b1;refine Q.r ?_));refine Q.dgo [true] [2,3,6] [] [0,1,4,5,2,3,6,7,8] ?_;refine Q.rd ?_;refine D.e rfl rfl rfl ?_;refine S.cm (args:=[n1.val]) rfl (NFew_spec n1 M1 _ hn1 hc1) ?_;rintro _ _ ⟨n2,M2,rfl,hl2,hn2,hc2,hoc2,he2,rfl⟩;have he21:n2.abs=n1.abs:=by rw[he2,he1,few_few]
  refine opsS_jm p hl2 ?_;refine Q.r ?_;refine Q.rd ?_;refine D.e rfl rfl rfl ?_;refine S.cj p rfl (Apply_spec' n2 M2 p j k _ hj.w zo hn2 (few_OkN he2) (hT.mono (hl1.trans hl2)) (hu1.few he2)) ?_;rintro _ _ ⟨M3,rfl,hl3,rfl⟩;refine Q.r ?_;refine Q.rd ?_;refine D.e rfl rfl rfl ?_;refine S.c2 rfl (RApp_spec n1 x j k M3 _ hj zo (hn1.mono (hl2.trans hl3)) hN1 hoc1 hc1.ov hua1) ?_;rintro _ _ ⟨rfl,rfl⟩;rw[he21,he1];refine Q.r ?_;refine Q.rd ?_;refine Q.r ?_;exact N.t rfl eG ⟨M3,by rw[decide_eq_true rfl],hl1.trans (hl2.trans hl3),rfl⟩
 |false=>
  refine Q.r ?_;(repeat (intro b1;refine Q.r ?_));revert b1;intro b7;refine S.cm (args:=[n1.val]) rfl (NFew_spec n1 M1 _ hn1 hc1) ?_;rintro _ _ ⟨n2,M2,rfl,hl2,hn2,hc2,hoc2,he2,rfl⟩;have he21:n2.abs=n1.abs:=by rw[he2,he1,few_few]
  have hN2:=few_OkN he2;have hu2:=hu1.few he2;refine opsS_jm p hl2 ?_;refine Q.r ?_;(repeat (intro b1;refine Q.r ?_));revert b1;intro b8;have hone:=plan_one hj (n:=o.n.abs.few) ho.uu.txn.1 o.fr;have hpl:=plan_len (j:=j) (f:=o.fr) (n:=o.n.abs.few);have hstw:stepS j o.fr o.n.abs.few true false=(planV j o.fr o.n.abs.few).rec_.foldl appS j:=rfl;have hstf:stepS j o.fr o.n.abs.few false false=j:=rfl;have e1:planV j o.fr n1.abs=planV j o.fr o.n.abs.few:=by rw[he1]
  have e2:planV j o.fr n2.abs=planV j o.fr o.n.abs.few:=by rw[he21,he1]
  generalize planV j o.fr o.n.abs.few=pl at hone hpl hstw e1 e2;have hM2:leM M M2:=hl1.trans hl2;refine swp_cutT (σ:=S5) (λs=> [(0,ptrJ p),(1,.pointer (some ⟨x,0,none⟩)),(5,.pointer (some ⟨bo,0,none⟩)),(7,.pointer (some ⟨b7,0,none⟩)),(8,.pointer (some ⟨b8,0,none⟩)),(9,.pointer (some ⟨s.b9,0,none⟩)),(10,.pointer (some ⟨s.b10,0,none⟩))])
   (fun s => pt s.b9 (cl [.slice s.ra pl.rec_.length s.rc,.slice s.ma pl.mail.length s.mc,.slice s.ea pl.els.length s.ec] 50) :: pt s.b10 (cl [.slice s.qa pl.rec_.length s.qc,.slice s.qb pl.mail.length s.qd,.slice s.qe pl.els.length s.qf] 78) ::
    pt b8 (cl n2.cells 53)::pt b7 (cl n1.cells 37)::pt bo (cl ({o with r:=false}:EO).cells 39)::
    slO 53 16 s.ra pl.rec_.length s.rc (pl.rec_.flatMap λr=>(liftN n2 r).cells)::slO 55 17 s.ma pl.mail.length s.mc (pl.mail.flatMap mailC)::slO 55 17 s.ea pl.els.length s.ec (pl.els.flatMap mailC)::
    slO 37 16 s.qa pl.rec_.length s.qc (pl.rec_.flatMap λr=>(liftQ n1 r).cells)::slO 183 17 s.qb pl.mail.length s.qd (pl.mail.flatMap mailC)::slO 183 17 s.qe pl.els.length s.qf (pl.els.flatMap mailC)::jurH s.M p j::rjH x j::roM s.M::L) (λs=>leM M2 s.M) ?_ ?_
  ·refine Q.dgo [true,false,false,true,true] [4,9,10,11,12,13] [] [0,1,2,3,5,6,7,8,99999,0,0,0,0,0] ?_
   refine Q.rd2 ?_;refine D.three 4 10 11 [99999,0,0,0,0] [99999,0,0,0,0] [99999,0,0,0,0] zk rfl rfl rfl rfl rfl rfl zk zk zk ?_ ?_ ?_
   ·refine S.cj p rfl (Plan_spec n2 M2 p j k o.fr _ hj.w zo hj.ne hn2 hN2 (hT.mono hM2) hu2.kind) ?_
    rintro _ _ ⟨ra,rc,ma,mc,ea,ec,M3,rfl,hl3,rfl⟩;rw[e2];refine Q.r ?_;refine Q.rd2 ?_;refine D.three 9 10 11 [99999,0,0,0] [99999,0,0,0] [99999,0,0,0] zk rfl rfl rfl rfl rfl rfl zk zk zk ?_ ?_ ?_
    ·refine S.c2 rfl (RDo_spec n1 x j k o.fr M3 _ hj zo (hn1.mono (hl2.trans hl3)) hN1 hoc1 hua1) ?_
     rintro _ _ ⟨qa,qc,qb,qd,qe,qf,rfl,rfl⟩;rw[e1];refine Q.r ?_;refine Q.rd2 ?_;refine D.two 10 11 [11,12,13] [10,12,13] zk rfl rfl rfl rfl zk zk ?_ ?_
     ·refine GQ.a ?_
      refine Q.al (λb9=> ?_);refine Q.r ?_;refine Q.rd2 ?_;refine D.e rfl rfl rfl ?_;refine GQ.a ?_;refine Q.al (λb10=> ?_);refine Q.r ?_;refine Q.rd2 ?_;refine D.e rfl rfl rfl ?_;refine Q.r ?_;refine Q.rd2 ?_;refine D.e rfl rfl rfl ?_;refine Q.r ?_;refine Q.rd2 ?_;refine Q.rd2 ?_;refine N.tn ⟨⟨b9,b10,ra,rc,ma,mc,ea,ec,qa,qc,qb,qd,qe,qf,M3⟩,zt,?_,hl3⟩
      (try dsimp only);exact eG
     ·refine GQ.a ?_
      refine Q.al (λb10=> ?_);refine Q.r ?_;refine Q.rd2 ?_;refine D.e rfl rfl rfl ?_;refine GQ.a ?_;refine Q.al (λb9=> ?_);refine Q.r ?_;refine Q.rd2 ?_;refine D.e rfl rfl rfl ?_;refine Q.r ?_;refine Q.rd2 ?_;refine D.e rfl rfl rfl ?_;refine Q.r ?_;refine Q.rd2 ?_;refine Q.rd2 ?_;refine N.tn ⟨⟨b9,b10,ra,rc,ma,mc,ea,ec,qa,qc,qb,qd,qe,qf,M3⟩,zt,?_,hl3⟩
      (try dsimp only);exact eG
    ·refine GQ.a ?_
     refine Q.al (λb9=> ?_);refine Q.r ?_;refine Q.rd2 ?_;refine D.two 9 11 [11,12,13] [9,12,13] zk rfl rfl rfl rfl zk zk ?_ ?_
     ·refine S.c2 rfl (RDo_spec n1 x j k o.fr M3 _ hj zo (hn1.mono (hl2.trans hl3)) hN1 hoc1 hua1) ?_
      rintro _ _ ⟨qa,qc,qb,qd,qe,qf,rfl,rfl⟩;rw[e1];refine Q.r ?_;refine Q.rd2 ?_;refine D.e rfl rfl rfl ?_;refine GQ.a ?_;refine Q.al (λb10=> ?_);refine Q.r ?_;refine Q.rd2 ?_;refine D.e rfl rfl rfl ?_;refine Q.r ?_;refine Q.rd2 ?_;refine D.e rfl rfl rfl ?_;refine Q.r ?_;refine Q.rd2 ?_;refine Q.rd2 ?_;refine N.tn ⟨⟨b9,b10,ra,rc,ma,mc,ea,ec,qa,qc,qb,qd,qe,qf,M3⟩,zt,?_,hl3⟩
      (try dsimp only);exact eG
     ·refine GQ.a ?_
      refine Q.al (λb10=> ?_);refine Q.r ?_;refine Q.rd2 ?_;refine D.e rfl rfl rfl ?_;refine S.c2 rfl (RDo_spec n1 x j k o.fr M3 _ hj zo (hn1.mono (hl2.trans hl3)) hN1 hoc1 hua1) ?_;rintro _ _ ⟨qa,qc,qb,qd,qe,qf,rfl,rfl⟩;rw[e1];refine Q.r ?_;refine Q.rd2 ?_;refine D.e rfl rfl rfl ?_;refine Q.r ?_;refine Q.rd2 ?_;refine D.e rfl rfl rfl ?_;refine Q.r ?_;refine Q.rd2 ?_;refine Q.rd2 ?_;refine N.tn ⟨⟨b9,b10,ra,rc,ma,mc,ea,ec,qa,qc,qb,qd,qe,qf,M3⟩,zt,?_,hl3⟩
      (try dsimp only);exact eG
    ·refine GQ.a ?_
     refine Q.al (λb10=> ?_);refine Q.r ?_;refine Q.rd2 ?_;refine D.two 9 10 [10,12,13] [9,12,13] zk rfl rfl rfl rfl zk zk ?_ ?_
     ·refine S.c2 rfl (RDo_spec n1 x j k o.fr M3 _ hj zo (hn1.mono (hl2.trans hl3)) hN1 hoc1 hua1) ?_
      rintro _ _ ⟨qa,qc,qb,qd,qe,qf,rfl,rfl⟩;rw[e1];refine Q.r ?_;refine Q.rd2 ?_;refine D.e rfl rfl rfl ?_;refine GQ.a ?_;refine Q.al (λb9=> ?_);refine Q.r ?_;refine Q.rd2 ?_;refine D.e rfl rfl rfl ?_;refine Q.r ?_;refine Q.rd2 ?_;refine D.e rfl rfl rfl ?_;refine Q.r ?_;refine Q.rd2 ?_;refine Q.rd2 ?_;refine N.tn ⟨⟨b9,b10,ra,rc,ma,mc,ea,ec,qa,qc,qb,qd,qe,qf,M3⟩,zt,?_,hl3⟩
      (try dsimp only);exact eG
     ·refine GQ.a ?_
      refine Q.al (λb9=> ?_);refine Q.r ?_;refine Q.rd2 ?_;refine D.e rfl rfl rfl ?_;refine S.c2 rfl (RDo_spec n1 x j k o.fr M3 _ hj zo (hn1.mono (hl2.trans hl3)) hN1 hoc1 hua1) ?_;rintro _ _ ⟨qa,qc,qb,qd,qe,qf,rfl,rfl⟩;rw[e1];refine Q.r ?_;refine Q.rd2 ?_;refine D.e rfl rfl rfl ?_;refine Q.r ?_;refine Q.rd2 ?_;refine D.e rfl rfl rfl ?_;refine Q.r ?_;refine Q.rd2 ?_;refine Q.rd2 ?_;refine N.tn ⟨⟨b9,b10,ra,rc,ma,mc,ea,ec,qa,qc,qb,qd,qe,qf,M3⟩,zt,?_,hl3⟩
      (try dsimp only);exact eG
   ·refine GQ.a ?_
    refine Q.al (λb9=> ?_);refine Q.r ?_;refine Q.rd2 ?_;refine D.two 4 11 [99999,0,0,0] [4,9,12,13] zk rfl rfl rfl rfl zk zk ?_ ?_
    ·refine S.cj p rfl (Plan_spec n2 M2 p j k o.fr _ hj.w zo hj.ne hn2 hN2 (hT.mono hM2) hu2.kind) ?_
     rintro _ _ ⟨ra,rc,ma,mc,ea,ec,M3,rfl,hl3,rfl⟩;rw[e2];refine Q.r ?_;refine Q.rd2 ?_;refine D.two 9 11 [11,12,13] [9,12,13] zk rfl rfl rfl rfl zk zk ?_ ?_
     ·refine S.c2 rfl (RDo_spec n1 x j k o.fr M3 _ hj zo (hn1.mono (hl2.trans hl3)) hN1 hoc1 hua1) ?_
      rintro _ _ ⟨qa,qc,qb,qd,qe,qf,rfl,rfl⟩;rw[e1];refine Q.r ?_;refine Q.rd2 ?_;refine D.e rfl rfl rfl ?_;refine GQ.a ?_;refine Q.al (λb10=> ?_);refine Q.r ?_;refine Q.rd2 ?_;refine D.e rfl rfl rfl ?_;refine Q.r ?_;refine Q.rd2 ?_;refine D.e rfl rfl rfl ?_;refine Q.r ?_;refine Q.rd2 ?_;refine Q.rd2 ?_;refine N.tn ⟨⟨b9,b10,ra,rc,ma,mc,ea,ec,qa,qc,qb,qd,qe,qf,M3⟩,zt,?_,hl3⟩
      (try dsimp only);exact eG
     ·refine GQ.a ?_
      refine Q.al (λb10=> ?_);refine Q.r ?_;refine Q.rd2 ?_;refine D.e rfl rfl rfl ?_;refine S.c2 rfl (RDo_spec n1 x j k o.fr M3 _ hj zo (hn1.mono (hl2.trans hl3)) hN1 hoc1 hua1) ?_;rintro _ _ ⟨qa,qc,qb,qd,qe,qf,rfl,rfl⟩;rw[e1];refine Q.r ?_;refine Q.rd2 ?_;refine D.e rfl rfl rfl ?_;refine Q.r ?_;refine Q.rd2 ?_;refine D.e rfl rfl rfl ?_;refine Q.r ?_;refine Q.rd2 ?_;refine Q.rd2 ?_;refine N.tn ⟨⟨b9,b10,ra,rc,ma,mc,ea,ec,qa,qc,qb,qd,qe,qf,M3⟩,zt,?_,hl3⟩
      (try dsimp only);exact eG
    ·refine GQ.a ?_
     refine Q.al (λb10=> ?_);refine Q.r ?_;refine Q.rd2 ?_;refine D.e rfl rfl rfl ?_;refine S.cj p rfl (Plan_spec n2 M2 p j k o.fr _ hj.w zo hj.ne hn2 hN2 (hT.mono hM2) hu2.kind) ?_;rintro _ _ ⟨ra,rc,ma,mc,ea,ec,M3,rfl,hl3,rfl⟩;rw[e2];refine Q.r ?_;refine Q.rd2 ?_;refine D.e rfl rfl rfl ?_;refine S.c2 rfl (RDo_spec n1 x j k o.fr M3 _ hj zo (hn1.mono (hl2.trans hl3)) hN1 hoc1 hua1) ?_;rintro _ _ ⟨qa,qc,qb,qd,qe,qf,rfl,rfl⟩;rw[e1];refine Q.r ?_;refine Q.rd2 ?_;refine D.e rfl rfl rfl ?_;refine Q.r ?_;refine Q.rd2 ?_;refine D.e rfl rfl rfl ?_;refine Q.r ?_;refine Q.rd2 ?_;refine Q.rd2 ?_;refine N.tn ⟨⟨b9,b10,ra,rc,ma,mc,ea,ec,qa,qc,qb,qd,qe,qf,M3⟩,zt,?_,hl3⟩
     (try dsimp only);exact eG
   ·refine GQ.a ?_
    refine Q.al (λb10=> ?_);refine Q.r ?_;refine Q.rd2 ?_;refine D.two 4 10 [99999,0,0,0] [4,9,12,13] zk rfl rfl rfl rfl zk zk ?_ ?_
    ·refine S.cj p rfl (Plan_spec n2 M2 p j k o.fr _ hj.w zo hj.ne hn2 hN2 (hT.mono hM2) hu2.kind) ?_
     rintro _ _ ⟨ra,rc,ma,mc,ea,ec,M3,rfl,hl3,rfl⟩;rw[e2];refine Q.r ?_;refine Q.rd2 ?_;refine D.two 9 10 [10,12,13] [9,12,13] zk rfl rfl rfl rfl zk zk ?_ ?_
     ·refine S.c2 rfl (RDo_spec n1 x j k o.fr M3 _ hj zo (hn1.mono (hl2.trans hl3)) hN1 hoc1 hua1) ?_
      rintro _ _ ⟨qa,qc,qb,qd,qe,qf,rfl,rfl⟩;rw[e1];refine Q.r ?_;refine Q.rd2 ?_;refine D.e rfl rfl rfl ?_;refine GQ.a ?_;refine Q.al (λb9=> ?_);refine Q.r ?_;refine Q.rd2 ?_;refine D.e rfl rfl rfl ?_;refine Q.r ?_;refine Q.rd2 ?_;refine D.e rfl rfl rfl ?_;refine Q.r ?_;refine Q.rd2 ?_;refine Q.rd2 ?_;refine N.tn ⟨⟨b9,b10,ra,rc,ma,mc,ea,ec,qa,qc,qb,qd,qe,qf,M3⟩,zt,?_,hl3⟩
      (try dsimp only);exact eG
     ·refine GQ.a ?_
      refine Q.al (λb9=> ?_);refine Q.r ?_;refine Q.rd2 ?_;refine D.e rfl rfl rfl ?_;refine S.c2 rfl (RDo_spec n1 x j k o.fr M3 _ hj zo (hn1.mono (hl2.trans hl3)) hN1 hoc1 hua1) ?_;rintro _ _ ⟨qa,qc,qb,qd,qe,qf,rfl,rfl⟩;rw[e1];refine Q.r ?_;refine Q.rd2 ?_;refine D.e rfl rfl rfl ?_;refine Q.r ?_;refine Q.rd2 ?_;refine D.e rfl rfl rfl ?_;refine Q.r ?_;refine Q.rd2 ?_;refine Q.rd2 ?_;refine N.tn ⟨⟨b9,b10,ra,rc,ma,mc,ea,ec,qa,qc,qb,qd,qe,qf,M3⟩,zt,?_,hl3⟩
      (try dsimp only);exact eG
    ·refine GQ.a ?_
     refine Q.al (λb9=> ?_);refine Q.r ?_;refine Q.rd2 ?_;refine D.e rfl rfl rfl ?_;refine S.cj p rfl (Plan_spec n2 M2 p j k o.fr _ hj.w zo hj.ne hn2 hN2 (hT.mono hM2) hu2.kind) ?_;rintro _ _ ⟨ra,rc,ma,mc,ea,ec,M3,rfl,hl3,rfl⟩;rw[e2];refine Q.r ?_;refine Q.rd2 ?_;refine D.e rfl rfl rfl ?_;refine S.c2 rfl (RDo_spec n1 x j k o.fr M3 _ hj zo (hn1.mono (hl2.trans hl3)) hN1 hoc1 hua1) ?_;rintro _ _ ⟨qa,qc,qb,qd,qe,qf,rfl,rfl⟩;rw[e1];refine Q.r ?_;refine Q.rd2 ?_;refine D.e rfl rfl rfl ?_;refine Q.r ?_;refine Q.rd2 ?_;refine D.e rfl rfl rfl ?_;refine Q.r ?_;refine Q.rd2 ?_;refine Q.rd2 ?_;refine N.tn ⟨⟨b9,b10,ra,rc,ma,mc,ea,ec,qa,qc,qb,qd,qe,qf,M3⟩,zt,?_,hl3⟩
     (try dsimp only);exact eG
  rintro ⟨b9,b10,ra,rc,ma,mc,ea,ec,qa,qc,qb,qd,qe,qf,M3⟩ hl3;dsimp only at hl3 ⊢;refine swp_abs ra (λM4 hl4 hs4=> ?_);refine swp_abs ma (λM5 hl5 hs5=> ?_);refine swp_abs ea (λM6 hl6 hs6=> ?_);refine swp_abs qa (λM7 hl7 hs7=> ?_);refine swp_abs qb (λM8 hl8 hs8=> ?_);refine swp_abs qe (λM9 hl9 hs9=> ?_);have hl59:=hl6.trans (hl7.trans (hl8.trans hl9));have hl49:=hl5.trans hl59;have hl39:=hl4.trans hl49;refine swp_jm p hl39 ?_;refine Q.r ?_;have hlr:pl.rec_.length≤1:=by rcases hone with h|⟨r,h,_⟩<;>(rw[h];simp)
  have hl93:leM M2 M9:=hl3.trans hl39;have hn19:okN M9 n1:=hn1.mono (hl2.trans hl93);have hn29:okN M9 n2:=hn2.mono hl93;refine Q.dgo [false,false,true,true,true,true] [1,3,8] [] [0,2,1,3,4,5,6,7,8,9,10] ?_;refine Q.rd ?_;refine D.e rfl rfl rfl ?_;refine S.cr rfl (planL_spec ra rc pl.rec_.length pl.mail.length pl.els.length (pl.rec_.map (liftN n2)) ma mc (pl.mail.map nvm) ea ec (pl.els.map nvm) _ (List.length_map ..).symm (List.length_map ..).symm (List.length_map ..).symm (rec_rdS (M:=M9) (hs4.mono hl49)) (mail_rdS (M:=M9) (hs5.mono hl59)) (mail_rdS (M:=M9) (hs6.mono (hl7.trans (hl8.trans hl9)))) hlr hpl.1 hpl.2.1) ?_;rintro _ _ ⟨a1,c1',a2,c2,a3,c3,rfl,rfl⟩;refine opsS_abs a1 (λMa hla hsa=> ?_);refine opsS_abs a2 (λMb hlb hsb=> ?_);refine opsS_abs a3 (λMc hlc hsc=> ?_);have hl9c:leM M9 Mc:=hla.trans (hlb.trans hlc);refine opsS_jm p hl9c ?_;have hn1c:okN Mc n1:=hn19.mono hl9c;have hn2c:okN Mc n2:=hn29.mono hl9c;have hrr:∀r∈pl.rec_,(liftN n2 r).abs=r∧(liftQ n1 r).abs=r:=λr hr=>by
   rcases hone with h|⟨r',h,_,_,hrt,hsh⟩
   ·rw[h] at hr;cases hr
   ·rw[h] at hr
    obtain rfl:=List.mem_singleton.1 hr;have:=rec_ok he21 hua1 hrt (f:=o.fr) (by rw[he1];exact hsh);exact ⟨this.e1,this.e2⟩
  refine Q.r ?_;refine Q.rd ?_;refine D.e rfl rfl rfl ?_;refine S.cr rfl (SamePlanL_spec a1 qa c1' qc pl.rec_.length pl.mail.length pl.els.length (pl.rec_.map (liftN n2)) (pl.rec_.map (liftQ n1)) a2 qb a3 qe c2 qd c3 qf (pl.mail.map nvm) (pl.mail.map nvm) (pl.els.map nvm) (pl.els.map nvm) _
   (recs_rd (M:=Mc) (g:=liftN n2) (hsa.mono (hlb.trans hlc)) (λr=>⟨hn2c.lift r,hN2.lift r⟩))
   (rec_rd (M:=Mc) (g:=liftQ n1) (hs7.mono (hl8.trans (hl9.trans hl9c))) (λr=>⟨hn1c.liftQ r,hN1.liftQ r⟩))
   (mails_rd (M:=Mc) (hsb.mono hlc)) (mail_rd (M:=Mc) (hs8.mono (hl9.trans hl9c))) (mails_rd (M:=Mc) hsc) (mail_rd (M:=Mc) (hs9.mono hl9c))
   (List.length_map ..).symm (List.length_map ..).symm (List.length_map ..).symm hlr hpl.1 hpl.2.1
   (by rw[List.map_map,List.map_map];exact List.map_congr_left λr hr=>by show (liftN n2 r).abs=(liftQ n1 r).abs;rw[(hrr r hr).1,(hrr r hr).2]) rfl rfl) ?_
  rintro _ _ ⟨rfl,rfl⟩;refine Q.r ?_;refine Q.rd ?_;refine D.e rfl rfl rfl ?_;refine S.guard rfl ?_;refine S.cr (args:=[n2.val,n1.val]) rfl (Same12_spec n2 n1 _ hn2c.rd hn1c.rd hN2 hN1 he21) ?_;rintro _ _ ⟨rfl,rfl⟩;refine Q.r ?_;refine Q.rd ?_;refine Q.r ?_;have hlMc:leM M Mc:=hM2.trans (hl93.trans hl9c);have hs4c:=hs4.mono (hl49.trans hl9c);have hs7c:=hs7.mono (hl8.trans (hl9.trans hl9c));clear hs4 hs5 hs6 hs7 hs8 hs9 hsa hsb hsc;refine swp_cutB (σ:=JS×(OM)) (λ_=> []) (λs=>jurH s.2 p s.1::rjH x s.1::roM s.2::L) (λs=>s.1=stepS j o.fr o.n.abs.few o.w false∧leM M s.2) ?_ ?_
  ·refine swp_loop (σ:=Nat×JS×(OM)) (λs=> [(0,ptrJ p),(1,.pointer (some ⟨x,0,none⟩)),(5,.pointer (some ⟨bo,0,none⟩)),(9,.pointer (some ⟨b9,0,none⟩)),(10,.pointer (some ⟨b10,0,none⟩)),(50,.int .i64 pl.rec_.length),(51,.int .i64 s.1)])
    (λs=>pt b9 (cl [.slice ra pl.rec_.length rc,.slice ma pl.mail.length mc,.slice ea pl.els.length ec] 50)::pt b10 (cl [.slice qa pl.rec_.length qc,.slice qb pl.mail.length qd,.slice qe pl.els.length qf] 78)::pt bo (cl ({o with r:=false}:EO).cells 39)::jurH s.2.2 p s.2.1::rjH x s.2.1::roM s.2.2::L)
    (λs=>s.1≤pl.rec_.length∧((s.1=0∧s.2=(j,Mc))∨(s.1=1∧s.2.1=stepS j o.fr o.n.abs.few o.w false∧leM M s.2.2))) (λs=>pl.rec_.length - s.1) (0,j,Mc) zt eG ⟨Nat.zero_le _,.inl ⟨rfl,rfl⟩⟩ ?_
   rintro ⟨q,j2,M6⟩ ⟨hq1,hq2⟩;dsimp only at hq1 hq2 ⊢
   by_cases hqt:q<pl.rec_.length
   ·have hq0:q=0:=by omega
    subst hq0
    rcases hq2 with ⟨_,hq2⟩|⟨h,_⟩
    case inr=>cases h
    cases hq2
    cases hw:o.w with
    |false=>
     refine Q.r ?_;refine ⟨(1,j,Mc),zt,?_,⟨hqt,.inr ⟨rfl,hstf.symm,hlMc⟩⟩,by dsimp only;omega⟩;dsimp only;exact eG
    |true=>
     rcases hone with h|⟨r,h,hE,htx,hrt,hsh⟩
     ·rw[h] at hqt;cases hqt
     obtain ⟨br,or,hra,cr⟩:=SlM.cm (g:=λr=>(liftN n2 r).cells) (k:=0) (x:=r) (λ_=>rfl) hs4c (by rw[h];rfl) rfl;obtain ⟨bq,oq,hqa,cq⟩:=SlM.cm (g:=λr=>(liftQ n1 r).cells) (k:=0) (x:=r) (λ_=>rfl) hs7c (by rw[h];rfl) rfl;rw[hra,hqa];have hro:=rec_ok he21 hua1 hrt (f:=o.fr) (by rw[he1];exact hsh);have hcap:=capQ hoc1 hc1.ov r;refine Q.r ?_;refine S.cj p rfl (Apply_spec' (liftN n2 r) Mc p j k _ hj.w zo (hn2c.lift r) (hN2.lift r) (hT.mono hlMc) hro.n2) ?_;rintro _ _ ⟨M7,rfl,hl7',rfl⟩;rw[hro.e1,hE];have cq7:=cq.mono hl7';refine Q.r ?_;refine S.c2 rfl (RApp_spec (liftQ n1 r) x j k M7 _ hj zo ((hn1c.liftQ r).mono hl7') (hN1.liftQ r) hcap.1 hcap.2 hro.u1) ?_;rintro _ _ ⟨rfl,rfl⟩;rw[hro.e2,hE];refine Q.r ?_;refine ⟨(1,appS j r,M7),zt,?_,⟨hqt,.inr ⟨rfl,by dsimp only;rw[hstw,h,foldl_one],hlMc.trans hl7'⟩⟩,by dsimp only;omega⟩;dsimp only;exact eG
   ·refine Q.r ?_
    refine ⟨(j2,M6),trivial,by exact eG,?_⟩;dsimp only
    rcases hq2 with ⟨h0,hq2⟩|⟨_,hq2⟩
    ·cases hq2
     refine ⟨?_,hlMc⟩;have hr0:pl.rec_=[]:=List.eq_nil_of_length_eq_zero zo
     cases hw:o.w with
     |false=>exact hstf.symm
     |true=>rw[hstw,hr0];rfl
    ·exact hq2
  ·rintro ⟨j2,M6⟩ ⟨rfl,hl6⟩
   dsimp only at hl6 ⊢;refine Q.r ?_;exact N.t rfl eG ⟨M6,rfl,hl6,rfl⟩
theorem JOW.zero {dim:Int}(h1:1≤dim)(h2:dim≤8):JOW ⟨⟨dim,[],[],0⟩,[],[]⟩ 0:=
 ⟨⟨⟨h1,h2,Nat.le_refl _,(λi hi=>by cases hi),Nat.le_refl _,(λc hc=>by cases hc)⟩,by simp[keysOK],by simp[keysOK]⟩,by simp[keysOK],by simp[keysOK],(λt s h=>by cases h),Int.le_refl _,(λc hc=>by cases hc),(λi hi=>by cases hi),Nat.le_refl _,Nat.le_refl _⟩
end Go.Proofs.YtjlgabojhnnbaaaGreatDoor
