/- Walks of functions, and plain laws, that the last text rests on. No condition. -/
import Derived.ChangeSame
import Derived.RowKit
import Derived.OpenShut
import Derived.ReadAgain
import Derived.MapKept
import Derived.KernelRfl
import Derived.Maps.RangeRun
import Derived.RangeFuncLeaves
import Derived.RangeFuncSeq
import Derived.Test.YtlnfjhiphlfkjaaGreatDoorProg
import Derived.Test.YtlnfjhiphlfkjaaGreatDoorPk01
set_option linter.unusedVariables false
set_option linter.unusedSimpArgs false
set_option linter.unusedSectionVars false
namespace Go.SX
open Go Go.ChangeShapes Go.RowKit
def jCA (g0:Ext):HP:=λg _=>g=g0
def zQ (W:World):OM:=λb=>W.heap[b]?
theorem St.start (W:World):St W [qp (zQ W),jCA (ext W)]:=by
 refine ⟨λb=>(W.heap[b]?).map (false,·),λb p o e=> ?_,λb=>(W.heap[b]?).map (false,·),(λ_=>none:Nat→Option (Bool×Obj)),λb p o q o' _ e=>by simp at e,by funext b;simp[Hp.add],λb o e=> ?_,
  (λ_=>none:Nat→Option (Bool×Obj)),(λ_=>none:Nat→Option (Bool×Obj)),λb p o q o' _ e=>by simp at e,by funext b;simp[Hp.add],rfl,trivial⟩
 ·cases h:W.heap[b]? with
  |none=>simp[h] at e
  |some x=>simp[h] at e;rw[e.2]
 ·simp[zQ] at e;simp[e]
def XX (W W':World):Prop:=W'.os=W.os∧W'.output=W.output∧∀(i:Nat) (o:Obj),W.heap[i]? =some o→W'.heap[i]? =some o
theorem qh.kept {P:Program}{g:FuncId}{args:List Value}{W:World}{v:Value}(h:qh P g args [qp (zQ W)] (λr _=>r=v)):
  Calls P g args.toArray W λe W'=>e=.returned v∧XX W W':=by
 have h0:St W ([qp (zQ W)]++[qp (zQ W),jCA (ext W)]):=qi.roM_dup (L:=[]) W [jCA (ext W)] (St.start W);refine (h _ W h0).mono λe W' ⟨v',L',he,hs,hv⟩=> ?_
 subst hv;have h1:=St.drop_left hs;have h2:ext W'=ext W:=by
  obtain ⟨h,f,a⟩:=h1.tail.read_cons;exact a
 exact ⟨he,jj Prod.fst h2,jj Prod.snd h2,λi o e=>St.roM_read h1 e⟩
theorem XX.but {W W':World}(h:XX W W')(may:MemPlace→Prop):W.keptBut W' may:=by
 refine ⟨h.1,h.2.1,λi hi=> ?_⟩;have e1:W.heap[i]? =some W.heap[i]:=Array.getElem?_eq_getElem hi;have e2:=h.2.2 i _ e1;rw[e1,e2]
 cases W.heap[i] with
 |cells c t fr=>exact ⟨rfl,rfl,rfl,λ_ _=>rfl⟩
 |map es cl=>exact .inr ⟨rfl,rfl⟩
 |_=>rfl
theorem tM {H:Type}{enc:TypeId×Value→H}{P:Program}{f:Func}{s:ChangeSpec}{apart fresh handsOn again:Bool}{W W':World}{args:Array Value}{v:Value}{ds gs:List (DataW H)}{before pa pv:List MemPlace}
  (hW:DataW.Whole enc P f.params.toList s.vars apart W args.toList ds gs before)
  (hres:∀(b:Nat) (sp:Nat→Bool) (hd:Bool),DataW.TrodAll enc P W' b sp hd f.resultTypes.toList (v.resultList f.resultTypes.size) (s.fn H (ds++gs)).results [])
  (hargs:∀sp:Nat→Bool,(∀p∈before,sp p.block=true)→DataW.TrodAll enc P W' 0 sp true f.params.toList args.toList (s.fn H (ds++gs)).args pa)
  (hvars:∀sp:Nat→Bool,(∀p∈before,sp p.block=true)→DataW.TrodVars enc P W' sp s.vars (s.fn H (ds++gs)).vars pv)
  (hps:before=pa++pv) (hk:XX W W')
  (hok:∀(j:Nat) (t:TypeId) (r:Value),f.resultTypes[j]? =some t→(v.resultList f.resultTypes.size)[j]? =some r→Value.okWide P W' .any 0 t r):
  s.post enc P f apart fresh handsOn again W args v W':=by
 have hold:∀p∈before,(λb=>decide (b<W.heap.size)) p.block=true:=λp hp=>by simpa using hW.lt p hp
 have hlt:=hW.lt;refine ⟨ds,gs,before,[],pa,pv,hW,hres _ _ _,hargs _ hold,hvars _ hold,World.keptBut_mono (λp hp=>⟨hp,?_⟩) (hk.but (· ∈before)),λ_=> ?_⟩
 ·rw[hps,jy] at hp
  exact Or.inr hp
 ·obtain ⟨_,_,_,_,_,hz,hn⟩:=hW
  refine ⟨hok,_,_,([]++pa)++pv,⟨[]++pa,pv,trodAll_append (hargs _ (λ_ _=>rfl)) (hres _ _ _),hvars _ (λ_ _=>rfl),rfl,?_,?_⟩,?_⟩
  ·intro b off hp
   have hb:MemPlace.cell b off∈before:=by rw[hps];simpa using hp
   have hl:b<W.heap.size:=hlt _ hb;have e1:W.heap[b]? =some W.heap[b]:=Array.getElem?_eq_getElem hl;have e2:=hk.2.2 b _ e1;have:=hz b off hb;simp only[World.frozen?,e1,e2] at this ⊢;exact this
  ·intro ha
   have:=hn ha;rw[hps] at this
   simpa using this
  ·intro p hp _
   rw[hps]
   simpa using hp
theorem XX.cell {W W':World}(hk:XX W W'){a:Addr}{v:Value}(h:W.cell? a=some v):W'.cell? a=some v:=by
 unfold World.cell? at h ⊢
 cases hb:W.heap[a.block]? with
 |none=>rw[hb] at h;simp at h
 |some o=>rw[hk.2.2 _ _ hb];rw[hb] at h;exact h
theorem XX.cells {W W':World}(hk:XX W W'){base:Nat}{a:Addr}{n:Nat}{cs:List Value}(h:W.cells? base a n=some cs):W'.cells? base a n=some cs:=by
 unfold World.cells? at h ⊢
 split at h
 ·rename_i hb
  rw[jb hb];exact mapM_carry h (λi y _ _ e=>hk.cell e)
 ·cases h
section
variable {H : Type} {enc : TypeId × Value → H} {P : Program} {W W' : World} {base : Nat} {spare : Nat → Bool} {held : Bool}
theorem ZH (hk:XX W W'){r r':TypeId→List Value→Option (DataW H×List MemPlace)}
  (hr:∀t cs x,r t cs=some x→r' t cs=some x) {t:TypeId} {cs:List Value} {x:DataW H×List MemPlace}
  (h:DataW.trodStep enc P W base spare held r t cs=some x):DataW.trodStep enc P W' base spare held r' t cs=some x:=by
 unfold DataW.trodStep at h ⊢
 split at h
 case h_1=>exact h
 case h_2=>exact h
 case h_3=>exact h
 case h_4=>exact h
 case h_5=>exact h
 case h_6 e a _=>
  simp only[Option.map_eq_some_iff,Option.bind_eq_some_iff] at h ⊢;obtain ⟨y,⟨cs',hc,hy⟩,rfl⟩:=h;exact ⟨y,⟨cs',hk.cells hc,hr _ _ _ hy⟩,rfl⟩
 case h_7=>exact h
 case h_8 e a len cap _=>
  simp only at h ⊢
  split at h
  ·rename_i hc
   rw[jb hc];simp only[Option.map_eq_some_iff,Option.bind_eq_some_iff] at h ⊢;obtain ⟨elems,he,rest,hrest,rfl⟩:=h;have one:∀(i:Nat) (y:DataW H×List MemPlace),(W.cells? base (a.add (i*P.cellsOf e)) (P.cellsOf e)).bind (r e)=some y→(W'.cells? base (a.add (i*P.cellsOf e)) (P.cellsOf e)).bind (r' e)=some y:=by
    intro i y hv;simp only[Option.bind_eq_some_iff] at hv ⊢;obtain ⟨cs',hc',hy'⟩:=hv;exact ⟨cs',hk.cells hc',hr _ _ _ hy'⟩
   refine ⟨elems,mapM_carry he (λi y _ _ hv=>one i y hv),rest,?_,rfl⟩
   split at hrest
   ·rename_i hs
    rw[jb hs];exact mapM_carry hrest (λj y _ _ hv=>one (len+j) y hv)
   ·rename_i hs
    rw[ja hs];exact hrest
  ·cases h
 case h_9=>
  split at h
  ·rename_i hc
   rw[jb hc];simp only[Option.map_eq_some_iff] at h ⊢;obtain ⟨xs,hx,rfl⟩:=h;exact ⟨xs,mapM_carry hx (λf y _ _ hv=>hr _ _ _ hv),rfl⟩
  ·cases h
 case h_10=>
  split at h
  ·rename_i hc
   rw[jb hc];simp only[Option.map_eq_some_iff] at h ⊢;obtain ⟨xs,hx,rfl⟩:=h;exact ⟨xs,mapM_carry hx (λf y _ _ hv=>hr _ _ _ hv),rfl⟩
  ·cases h
 case h_11=>exact h
 case h_12=>
  split at h
  ·exact h
  ·simp only[Option.map_eq_some_iff] at h ⊢
   obtain ⟨q,hq,rfl⟩:=h;exact ⟨q,hr _ _ _ hq,rfl⟩
  ·cases h
 case h_13=>exact h
 case h_14 k e b _=>
  split at h
  ·rename_i es clock hb
   rw[hk.2.2 _ _ hb]
   split at h
   ·rename_i hc
    simp only[Option.bind_eq_some_iff] at h;obtain ⟨entries,he,hd⟩:=h
    split at hd
    ·rename_i hris
     have hx:=Option.some.inj hd;subst hx;simp only[jb hc,Option.bind_eq_some_iff];refine ⟨entries,mapM_carry he (λx y _ hy hv=> ?_),by simp[hris]⟩;simp only[Option.bind_eq_some_iff] at hv ⊢;obtain ⟨key,hk2,hz⟩:=hv;refine ⟨key,hk2,?_⟩
     split at hz
     ·rename_i hf
      rw[jb hf];simp only[Option.map_eq_some_iff] at hz ⊢;obtain ⟨q,hq,rfl⟩:=hz;exact ⟨q,hr _ _ _ hq,rfl⟩
     ·cases hz
    ·cases hd
   ·cases h
  ·cases h
 case h_15=>exact h
 case h_16=>exact h
 case h_17=>exact h
 case h_18=>exact h
 case h_19=>exact h
 case h_20=>exact h
 case h_21=>cases h
theorem ti (hk:XX W W'):∀(n:Nat) (t:TypeId) (cs:List Value) (x:DataW H×List MemPlace),
  DataW.trod enc P W base spare held n t cs=some x→DataW.trod enc P W' base spare held n t cs=some x:=by
 intro n
 induction n with
 |zero=>intro t cs x h;simp[DataW.trod] at h
 |succ n ih=>
  intro t cs x h;rw[DataW.trod_step] at h ⊢;exact ZH hk ih h
theorem VZ (hk:XX W W'):∀{ts:List TypeId} {vs:List Value} {ds:List (DataW H)} {ps:List MemPlace},DataW.TrodAll enc P W base spare held ts vs ds ps→DataW.TrodAll enc P W' base spare held ts vs ds ps
 | [],[],[],_,h=>h
 |_::_,_::_,_::_,_,⟨p,q,⟨n,h1⟩,h2,e⟩=>⟨p,q,⟨n,ti hk n _ _ _ h1⟩,VZ hk h2,e⟩
end
theorem qx {α:Type}{l:List α}{k:Nat}(h:k<l.length):∃x,l[k]? =some x:=⟨l[k],jY h⟩
theorem qA {α:Type}{l:List α}{k:Nat}{x:α}(h:l[k]? =some x):l.take (k+1)=l.take k++[x]:=by
 rw[List.take_add_one,h];rfl
theorem qG {α:Type}(l:List α)(x:α):(l++[x]).length=l.length+1:=by simp
theorem vK {α β:Type}(l:List α)(x:α)(g:α→List β):(l++[x]).flatMap g=l.flatMap g++g x:=by simp
theorem vi.take {L:HL}{b o k:Nat}{cs:List Value}(h:vi L b o cs):vi L b o (cs.take k):=h.part (k:=0) λj v e=>by
 rw[kR]
 by_cases hj:j<k
 ·rwa [List.getElem?_take_of_lt hj] at e
 ·rw[List.getElem?_take_eq_none zo] at e;cases e
theorem qY.take {L:HL}{a:OA}{m sz k:Nat}{cs:List Value}(h:qY L a m sz cs)(hk:k≤m):qY L a k sz (cs.take (k*sz)):=by
 refine ⟨by rw[jP,h.1];exact Nat.min_eq_left (Nat.mul_le_mul_right _ hk),?_⟩
 rcases h.2 with h0|⟨b,o,e,r⟩
 ·exact .inl zo
 ·exact .inr ⟨b,o,e,r.take⟩
def CM (M:OM)(b o:Nat)(cs:List Value):Prop:=∀j v,cs[j]? =some v→∃l t fz,M b=some (.cells l t fz)∧l[o+j]? =some v
theorem CM.mono {M M':OM}{b o:Nat}{cs:List Value}(h:CM M b o cs)(hl:qV M M'):CM M' b o cs:=λj v e=>let ⟨l,t,fz,h1,h2⟩:=h j v e;⟨l,t,fz,hl _ _ h1,h2⟩
theorem CM.rd {M:OM}{b o:Nat}{cs:List Value}(h:CM M b o cs){L:HL}[hM:xq M L]:vi L b o cs:=λw F H j v e=>by
 obtain ⟨l,t,fz,h1,h2⟩:=h j v e;have:=hM.at_ w F H b _ h1
 simp[World.cell?,this,h2]
theorem CM.at {M:OM}{b o j:Nat}{v:Value}{cs:List Value}(h:CM M b o cs)(hj:cs[j]? =some v):CM M b (o+j) [v]:=λi u e=>by
 cases i with
 |zero=>simp at e;subst e;simpa using h j v hj
 |succ i=>simp at e
theorem qI.cm {α:Type}{g:α→List Value}{sz:Nat}(hg:∀x,(g x).length=sz){M:OM}{a:OA}{m:Nat}{l:List α}{k:Nat}{x:α}(h:qI M a m sz (l.flatMap g))(hk:l[k]? =some x)(hm:m=l.length):∃b o,a=some ⟨b,o,none⟩∧CM M b (o+k*sz) (g x):=by
 have hlt:k<l.length:=(jm.1 hk).1
 rcases h.2 with h0|⟨b,o,l',t,fz,e,e1,e2⟩
 ·omega
 ·refine ⟨b,o,e,λj v hv=>⟨l',t,fz,e1,?_⟩⟩
  rw[Nat.add_assoc];exact e2 _ _ (Ko hg l k j x v hk hv)
theorem qI.cm1 {α:Type}{g:α→Value}{M:OM}{a:OA}{m:Nat}{l:List α}{k:Nat}{x:α}(h:qI M a m 1 (l.map g))(hk:l[k]? =some x)(hm:m=l.length):∃b o,a=some ⟨b,o,none⟩∧CM M b (o+k*1) [g x]:=by
 have e:l.map g=l.flatMap λx=> [g x]:=by
  clear h hk hm
  induction l with
  |nil=>rfl
  |cons y l ih=>rw[jL,ih];rfl
 rw[e] at h;exact qI.cm (g:=λx=> [g x]) (sz:=1) (λ_=>rfl) h hk hm
section
variable {P : Program} {n : Nat} {ops : List Oper} {f : vL} {A : HL} {d : Tmp} {ty : TypeId} {pos : String} {af : Array Edge}
theorem Y.ldM {x:Operand}{t:TypeId}{sz bts:Nat}{zs:List Value}{b o j:Nat}{v:Value}{M:OM}{cs:List Value}[h:Ty P t false sz zs bts][hM:xq M A](hx:ev f x=some (.pointer (some ⟨b,o+j,none⟩)))(hr:CM M b o cs)(hj:cs[j]? =some v):qk P n ops ⟨some d,.load t x,ty,pos,af,none⟩ f A v:=
 Y.ldR hx (hr.at hj).rd
theorem Y.ldM0 {x:Operand}{t:TypeId}{sz bts:Nat}{zs:List Value}{b o:Nat}{v:Value}{M:OM}[h:Ty P t false sz zs bts][hM:xq M A](hx:ev f x=some (.pointer (some ⟨b,o,none⟩)))(hr:CM M b o [v]):qk P n ops ⟨some d,.load t x,ty,pos,af,none⟩ f A v:=
 Y.ldR hx hr.rd
theorem Y.ldMN {x:Operand}{t:TypeId}{sz bts:Nat}{zs:List Value}{b o:Nat}{cs:List Value}{M:OM}[h:Ty P t true sz zs bts][hM:xq M A](hx:ev f x=some (.pointer (some ⟨b,o,none⟩)))(hr:CM M b o cs)(hn:cs.length=sz):qk P n ops ⟨some d,.load t x,ty,pos,af,none⟩ f A (.agg cs.toArray):=
 Y.ldRN hx hr.rd hn
end
theorem qI.take {M:OM}{a:OA}{m sz k:Nat}{cs:List Value}(h:qI M a m sz cs)(hk:k≤m):qI M a k sz (cs.take (k*sz)):=by
 refine ⟨by rw[jP,h.1];exact Nat.min_eq_left (Nat.mul_le_mul_right _ hk),?_⟩
 rcases h.2 with h0|⟨b,o,l,t,fz,e,e1,e2⟩
 ·exact .inl zo
 ·refine .inr ⟨b,o,l,t,fz,e,e1,λj v hv=>e2 j v ?_⟩
  rw[List.getElem?_take] at hv;split at hv
  ·exact hv
  ·cases hv
theorem nG {P:Program}{n:Nat}{cd:Code}{Q:vm}{f:vL}{t sz m c:Nat}{a:OA}{cs:List Value}{L L0:HL}{M:OM}[h:xw L M L0]
  (hk:∀M',qV M M'→qI M' a m sz cs→swp P n cd Q f (qp M'::L0)):swp P n cd Q f (SX.slO t sz a m c cs::L):=by
 refine vh qi.absorb (nD λM'=>de (K8 λh=>hk M' h.1 h.2))
theorem vo {P:Program}{n:Nat}{x y:Code}{Q:vm}{f:vL}{L:HL}{σ:Type}(sl:σ→List (Nat×Value))(H:σ→HL)(φ:σ→Prop)
  (h:swp P n x (qL (λf L=>∃s,Vd f (sl s)∧qi L (H s)∧φ s) Q) f L)
  (hk:∀s,φ s→swp P n y Q (v7 (sl s)) (H s)):swp P n x (qL (λf L=>swp P n y Q f L) Q) f L:=by
 refine ga h ?_;intro e f L q
 cases e<;>first|exact q|(obtain ⟨s,h1,h2,h3⟩:=q;exact Yp _ h1 (vh h2 (hk s h3)))
section
variable {P : Program} {n : Nat} {ops : List Oper} {Q : vm} {f : vL} {A L : HL} {E cs σ : List Nat} {listed : Array Bool}
theorem A.oneK (i:Nat){k:Nat}{o:Oper}(hr:Region.ready .any ops.toArray listed=[i])(hi:ops[i]? =some o)
    (h:xg P n ops o (λf L2=>∃L',qi L2 (L'++A)∧vu P n ops Q cs A k (listed.setIfInBounds i true) true f L') f (L++A)):vu P n ops Q cs A (k+1) listed true f L:=by
  intro ok F a w s hsh t hh;refine ⟨λh0=>(by rw[h0] at hr;cases hr),λj hj=> ?_⟩;have hri:i∈Region.ready .any ops.toArray listed:=by rw[hr];simp
  rw[hr] at hj;obtain rfl:j=i:=by simpa using hj
  have hsh:=hsh.set hri;have t':St w ((L++A)++F):=by simpa using t
  have h2:=h (by simpa[wA] using Qh ok hi) F a w s t';simp only[wpList] at h2;unfold wpOp;have hi':ops.toArray[j]? =some o:=by simpa using hi
  simp only[hi'];have key:∀a w,lift n F (λe f L=>match e with| .normal=>(∃L',qi L (L'++A)∧vu P n ops Q cs A k (listed.setIfInBounds j true) true f L')|_=>False) .normal a w→
      xE cs (λw=>∃L,St w (L++(A++F))) (listed.setIfInBounds j true) w∧ZV P ops.toArray (lift n F Q) (xE cs λw=>∃L,St w (L++(A++F))) k (listed.setIfInBounds j true) a w:=by
    rintro a w ⟨f,L,s,t,L',e,q⟩;have t:=e w F t;exact ⟨.inr ⟨L',by simpa using t⟩,q ok F a w s hsh (by simpa using t) (λh=>by cases h)⟩
  by_cases hw:Region.wanted o (yielded ops.toArray a.tmps)=true
  · rw[jb hw] at h2 ⊢
    refine .inl ?_
    rcases h2 with h2|⟨_,a',w',f,L,_,_,q⟩
    · unfold Oper.wp at h2 ⊢
      generalize (execOp a.eval o).run P w=r at*
      cases r with
      |ok m w'=>
        cases m<;>simp only[Oper.upon] at h2 ⊢ <;>first
          |exact key _ _ h2
          |exact h2
          | (refine Calls.mono h2 fun e w'' he => ?_
             cases e with
             |returned u=>exact key _ _ he
             |panicked c=>obtain ⟨_,_,_,_,q⟩:=he;exact q.elim
             |outgrown=>obtain ⟨_,_,_,_,_,_,q⟩:=he;exact q.elim)
          |exact Rows.mono h2 λ_ _ he=>key _ _ he
      |halt x w'=>cases x<;>simp only[Oper.upon] at h2 ⊢ <;>first|exact h2|(obtain ⟨_,_,_,_,q⟩:=h2;exact q.elim)
    · exact q.elim
  · rw[ja hw] at h2 ⊢
    exact key _ _ h2
theorem D.k {i:Nat}{o:Oper}{L2:HL}(hi:ops[i]? =some o)(h9:Nat.beq i 99999=false)(hE:E.contains i=true)(hL:L++A=L2)
  (h:qq P n ops [o] (qL (λf L2=>∃L',qi L2 (L'++A)∧qH P n ops E cs A σ Q (listed.setIfInBounds i true) true f L') (λ_ _ _=>False)) f L2):qH P n ops E cs A (i::σ) Q listed true f L:=by
 intro ho hs hQ;simp only[Jd,h9,hE,cond_true,cond_false,jF,beq_iff_eq] at ho;refine _root_.Go.SX.A.oneK i ho.1 hi (hL▸λok F a w s t=>wc (h ok F a w s t) ?_);rintro e a w ⟨f,L,s,t,q⟩
 cases e<;>first|exact ⟨f,L,s,t,q.imp λL' q=>⟨q.1,q.2 ho.2 hs hQ⟩⟩|exact q.elim
end
class mD (d:TypeDesc){κ:Type}[DecidableEq κ](g:κ→Value):Prop where
 same:∀x y,Instr.sameNow d (g x) (g y)=some (decide (x=y))
 bits:∀x,Instr.sameBits 10000 (g x) (g x)=true
 plain:∀(P:Program) (t:TypeId),P.underlying t=some d→∀(e:Bool) x w,(Instr.checkKey e 10000 t (g x)).run P w=.ok () w
theorem gG {d:TypeDesc}{v:Value}(h1:∀ms,d≠.interface ms)(h2:∀n e,d≠.array n e)(h3:∀fs,d≠.struct fs)(P:Program)(t:TypeId)(ht:P.underlying t=some d)(e:Bool)(w:World):(Instr.checkKey e 10000 t v).run P w=.ok () w:=by
 show (Instr.checkKey e (9999+1) t v).run P w=.ok () w
 unfold Instr.checkKey;simp only[Sem.run_bind,run_underlying ht,Result.andThen_ok]
 cases d<;>simp_all
abbrev iK (k:IntKind):Int→Value:=Value.int k
instance {k :IntKind}:mD (.int k) (iK k) where
 same x y:=by
  simp only[iK,Instr.sameNow]
  by_cases h:x=y<;>simp[h]
 bits x:=by simp[iK,Instr.sameBits]
 plain P t h e x w:=gG (by simp) (by simp) (by simp) P t h e w
theorem l6 (x y:List UInt8):((⟨x.toArray⟩:ByteArray)==⟨y.toArray⟩)=decide (x=y):=by
 show (x.toArray==y.toArray)=_
 by_cases h:x=y<;>simp[h]
instance : mD .string str where
 same x y:=by simp only[str,Instr.sameNow,l6]
 bits x:=by simp[str,Instr.sameBits,l6]
 plain P t h e x w:=gG (by simp) (by simp) (by simp) P t h e w
def qm {κ α:Type}(m:List (κ×α)):Prop:=(m.map (·.1)).Nodup
def zf {κ α:Type}(g:κ→Value)(r:α→Value)(m:List (κ×α))(es:List MapEntry)(clock:Nat):Prop:=
 es.map (λe=>(e.key,e.val))=m.map (λp=>(g p.1,r p.2))∧qm m∧(es.map (·.born)).Pairwise (· < ·)∧∀e∈es,e.born<clock
def VX {κ α:Type}(g:κ→Value)(r:α→Value)(b:Nat)(m:List (κ×α)):HP:=λ_ h=>∃(es:Array MapEntry) (clock:Nat),zf g r m es.toList clock∧h b=some (true,.map es clock)
section
variable {κ α : Type} [DecidableEq κ]
def qE (m:List (κ×α))(x:κ):Option α:=(m.find? λp=>decide (p.1=x)).map (·.2)
def qN (m:List (κ×α))(x:κ)(a:α):List (κ×α):=if m.any (λp=>decide (p.1=x)) then m.map λp=>if p.1=x then (x,a) else p else m++[(x,a)]
def qO (m:List (κ×α))(x:κ):List (κ×α):=m.filter λp=> !decide (p.1=x)
theorem Kq {d:TypeDesc}{g:κ→Value}[K:mD d g](x:κ):∀(es:List MapEntry) (i:Nat),(∀e∈es,∃y,e.key=g y∧y≠x)→Instr.findNow d (g x) es i=some none
 | [],i,_=>rfl
 |e::es,i,h=>by
  obtain ⟨y,h1,h2⟩:=h e (by simp);simp only[Instr.findNow,h1,K.same,Ne.symm h2,decide_false];exact Kq x es (i+1) λe he=>h e (by simp[he])
theorem Kp {d:TypeDesc}{g:κ→Value}[K:mD d g](x:κ):∀(p:List MapEntry) (e:MapEntry) (q:List MapEntry) (i:Nat),(∀e∈p,∃y,e.key=g y∧y≠x)→e.key=g x→Instr.findNow d (g x) (p++e::q) i=some (some (i+p.length,e.val))
 | [],e,q,i,_,h=>by simp[Instr.findNow,h,K.same]
 |u::p,e,q,i,hp,h=>by
  obtain ⟨y,h1,h2⟩:=hp u (by simp);simp only[List.cons_append,Instr.findNow,h1,K.same,Ne.symm h2,decide_false];rw[Kp x p e q (i+1) (λe he=>hp e (by simp[he])) h]
  simp;omega
theorem YS {β:Type}(f:β→β)(e:β)(q:List β):∀p:List β,(p++e::q).modify p.length f=p++f e::q
 | []=>rfl
 |u::p=>by
  have:=YS f e q p
  simpa using this
theorem Wj {g:κ→Value}{r:α→Value}{m1 m2:List (κ×α)}{es:List MapEntry}(h:es.map (λe=>(e.key,e.val))=(m1++m2).map (λp=>(g p.1,r p.2))):
  ∃p q,es=p++q∧p.map (λe=>(e.key,e.val))=m1.map (λp=>(g p.1,r p.2))∧q.map (λe=>(e.key,e.val))=m2.map (λp=>(g p.1,r p.2)):=by
 refine ⟨es.take m1.length,es.drop m1.length,(kJ ..).symm,?_,?_⟩
 ·rw[List.map_take,h,jq,List.take_left' (by simp)]
 ·rw[List.map_drop,h,jq,List.drop_left' (by simp)]
theorem yE {g:κ→Value}{r:α→Value}{m:List (κ×α)}{es:List MapEntry}(h:es.map (λe=>(e.key,e.val))=m.map (λp=>(g p.1,r p.2))){x:κ}(hx:∀p∈m,p.1≠x):∀e∈es,∃y,e.key=g y∧y≠x:=by
 intro e he;have:(e.key,e.val)∈m.map (λp=>(g p.1,r p.2)):=by rw[←h];exact jA (f:=λe:MapEntry=>(e.key,e.val)) he
 obtain ⟨p,hp,e1⟩:=jM.1 this;exact ⟨p.1,(Prod.mk.inj e1).1.symm,hx p hp⟩
theorem wJ (m:List (κ×α))(hk:qm m)(x:κ):(∃p a q,m=p++(x,a)::q∧(∀u∈p,u.1≠x)∧(∀u∈q,u.1≠x))∨∀u∈m,u.1≠x:=by
 by_cases h:x∈m.map (·.1)
 ·obtain ⟨u,hu,rfl⟩:=jM.1 h
  obtain ⟨p,q,rfl⟩:=List.append_of_mem hu;unfold qm at hk;rw[jq,jL,List.nodup_append] at hk;obtain ⟨_,h2,h3⟩:=hk;refine .inl ⟨p,u.2,q,rfl,λv hv e=> ?_,λv hv e=> ?_⟩
  ·exact h3 _ (jA hv) _ (by simp) e
  ·exact (List.nodup_cons.1 h2).1 (e▸jA hv)
 ·exact .inr λu hu e=>h (e▸jA hu)
theorem JJ {p q:List (κ×α)}{x:κ}{a:α}(hp:∀u∈p,u.1≠x):qE (p++(x,a)::q) x=some a:=by
 have:p.find? (λu=>decide (u.1=x))=none:=by simp;exact λa b h=>hp (a,b) h
 simp[qE,List.find?_append,this]
theorem wX {m:List (κ×α)}{x:κ}(h:∀u∈m,u.1≠x):qE m x=none:=by
 have:m.find? (λu=>decide (u.1=x))=none:=by simp;exact λa b hh=>h (a,b) hh
 simp[qE,this]
theorem rY {m:List (κ×α)}{x:κ}{a:α}(h:∀u∈m,u.1≠x):(m.map λu=>if u.1=x then (x,a) else u)=m:=by
 conv=>rhs;rw[←List.map_id m]
 exact List.map_congr_left λu hu=>by simp[h u hu]
theorem wv {p q:List (κ×α)}{x:κ}{a c:α}(hp:∀u∈p,u.1≠x)(hq:∀u∈q,u.1≠x):qN (p++(x,a)::q) x c=p++(x,c)::q:=by
 have:((p++(x,a)::q).any λu=>decide (u.1=x))=true:=by simp
 rw[qN,jb this,jq,jL,rY hp,rY hq];simp
theorem vJ {m:List (κ×α)}{x:κ}{c:α}(h:∀u∈m,u.1≠x):qN m x c=m++[(x,c)]:=by
 have:¬(m.any λu=>decide (u.1=x))=true:=by
  simp only[ku,jS,not_exists,not_and];exact h
 rw[qN,ja this]
theorem Qt {p q:List (κ×α)}{x:κ}{a:α}(hp:∀u∈p,u.1≠x)(hq:∀u∈q,u.1≠x):qO (p++(x,a)::q) x=p++q:=by
 unfold qO;rw[jU,kI];simp only[decide_true,jH,kb,if_false];rw[List.filter_eq_self.2,List.filter_eq_self.2]
 ·intro u hu;simp[hq u hu]
 ·intro u hu;simp[hp u hu]
theorem WO {m:List (κ×α)}{x:κ}(h:∀u∈m,u.1≠x):qO m x=m:=List.filter_eq_self.2 λu hu=>by simp[h u hu]
theorem YY {p q:List (κ×α)}{x:κ}{a c:α}(h:qm (p++(x,a)::q)):qm (p++(x,c)::q):=by simpa[qm] using h
theorem vy {m:List (κ×α)}(h:qm m)(x:κ)(a:α):qm (qN m x a):=by
 rcases wJ m h x with ⟨p,b,q,rfl,hp,hq⟩|hn
 ·rw[wv hp hq];exact YY h
 ·rw[vJ hn]
  unfold qm at*;rw[jq,List.nodup_append];refine ⟨h,by simp,λy hy z hz=> ?_⟩;obtain ⟨u,hu,rfl⟩:=jM.1 hy
  simp at hz;subst hz;exact hn u hu
theorem yo {m:List (κ×α)}(h:qm m)(x:κ):qm (qO m x):=by
 unfold qm qO at*;exact List.Sublist.nodup (List.Sublist.map _ List.filter_sublist) h
end
class zI (b:Nat)(L:HL){κ α:outParam Type}(g:outParam (κ→Value))(r:outParam (α→Value))(m:outParam (List (κ×α)))(L':outParam (HP→HL)):Prop where
 at_:∃R,L.Perm (VX g r b m::R)∧∀x,(x::R).Perm (L' x)
instance zI.here {κ α:Type}{b:Nat}{g:κ→Value}{r:α→Value}{m:List (κ×α)}{L:HL}:zI b (VX g r b m::L) g r m (λx=>x::L):=⟨L,.refl _,λ_=>.refl _⟩
instance (priority :=low) zI.there {κ α:Type} {b:Nat} {g:κ→Value} {r:α→Value} {m:List (κ×α)} {A:HP} {L:HL} {L':HP→HL} [h:zI b L g r m L']:zI b (A::L) g r m (λx=>A::L' x):=by
 obtain ⟨R,h1,h2⟩:=h.at_;exact ⟨A::R,(h1.cons A).trans (.swap _ _ _),λx=>List.Perm.trans (.swap _ _ _) ((h2 x).cons A)⟩
section
variable {κ α : Type} {g : κ → Value} {r : α → Value} {m : List (κ × α)}
theorem St.mp_open {w:World}{b:Nat}{L:HL}(H:St w (VX g r b m::L)):∃es clock,zf g r m es.toList clock∧St w (pt b (.map es clock)::L):=by
 obtain ⟨h,f,h1,h2,o,e,⟨es,clock,k,hb⟩,l⟩:=H;exact ⟨es,clock,k,h,f,h1,h2,o,e,hb,l⟩
theorem St.mp_shut {w:World}{b:Nat}{L:HL}{es:Array MapEntry}{clock:Nat}(k:zf g r m es.toList clock)(H:St w (pt b (.map es clock)::L)):St w (VX g r b m::L):=
 St.of_sep (L:=pt b (.map es clock)::L) (λhh ⟨h1,h2,o,e,p,l⟩=>⟨h1,h2,o,e,⟨es,clock,k,p⟩,l⟩) H
theorem zI.open_ {b:Nat}{L F:HL}{L':HP→HL}(h:zI b L g r m L'){w:World}(H:St w (L++F)):∃R es clock,zf g r m es.toList clock∧St w (pt b (.map es clock)::(R++F))∧∀x w,St w (x::(R++F))→St w (L' x++F):=by
 obtain ⟨R,p1,p2⟩:=h.at_;have H1:St w (VX g r b m::(R++F)):=by simpa using St.perm (p1.append_right F) H
 obtain ⟨es,clock,k,H2⟩:=St.mp_open H1;exact ⟨R,es,clock,k,H2,λx w H=>St.perm ((p2 x).append_right F) (by simpa using H)⟩
end
class KTy (P:Program)(t:TypeId)(d:outParam TypeDesc):Prop where
 und:P.underlying t=some d
instance (priority :=low) KTy.ofInt {P:Program} {t:TypeId} {k:IntKind} [h:Jp P t k]:KTy P t (.int k):=⟨h.raw⟩
instance (priority :=low) KTy.ofStr {P:Program} {t:TypeId} [h:Wn P t]:KTy P t .string:=⟨h.raw⟩
section
variable {κ α : Type} [DecidableEq κ] {g : κ → Value} {r : α → Value} {m : List (κ × α)}
variable {P : Program} {n : Nat} {ops rest : List Oper} {Q : vm} {f : vL} {L : HL}
variable {d : Tmp} {ty : TypeId} {pos : String} {af : Array Edge}
theorem wZ {kt:TypeId}{dd:TypeDesc}{k:Value}{es:List MapEntry}{o:Option (Nat×Value)}(hk:P.underlying kt=some dd)(h:Instr.findNow dd k es 0=some o)(w:World):(Instr.findKey kt k es).run P w=.ok o w:=by
 simp[Instr.findKey,run_underlying hk,h]
theorem jEk {w:World}{L:HL}(g:κ→Value)(r:α→Value)(H:St w L):St {w with heap:=w.heap.push (.map #[] 0)} (VX g r w.heap.size []::L):=
 St.mp_shut (es:= #[]) (clock:=0) ⟨rfl,by simp[qm],by simp,by simp⟩ (St.pt_new H rfl)
theorem S.mkm {t:TypeId}(g:κ→Value)(r:α→Value)(hk:∀b,qq P n ops rest Q (upd f d (.map (some b))) (VX g r b []::L)):
  qq P n ops (⟨some d,.makeMap t none,ty,pos,af,none⟩::rest) Q f L:=by
 refine vF (R:=λv L'=>∃b,v=.map (some b)∧L'=VX g r b []::L) (λF a w s t0=> ?_) (by rintro _ _ ⟨b,rfl,rfl⟩;exact hk b);exact ⟨.map (some w.heap.size),_,_,by simp[execOp,Instr.makeMap],jEk g r t0,_,rfl,rfl⟩
theorem Y.lk {A:HL}{x y:Operand}{t kt e:TypeId}{dd:TypeDesc}{b:Nat}{q:κ}{sz bts:Nat}{ag:Bool}{zs:List Value}{z:Value}{A':HP→HL}[h:Vm P t kt e][h1:KTy P kt dd][K:mD dd g][h2:Ty P e ag sz zs bts][hm:zI b A g r m A'](ok:Bool)
  (hx:ev f x=some (.map (some b))) (hy:ev f y=some (g q)) (hz:∀w,(zeroValue e).run P w=.ok z w):
  qk P n ops ⟨some d,.lookup t x y ok,ty,pos,af,none⟩ f A (let v:=(match qE m q with|some u=>(r u,true)|none=>(z,false));bif ok then .tuple #[v.1,.bool v.2] else v.1):=by
 refine Y.of' λa w F s t0=> ?_
 obtain ⟨R,es,clock,⟨he,hk,_,_⟩,H,_⟩:=hm.open_ t0;have hb:=St.pt_read H;have hget:(getObj b).run P w=.ok (.map es clock) w:=MapKept.run_getObj_map hb;have hpl:=K.plain P kt h1.und es.isEmpty q w;have hm':(m.map λp=>(g p.1,r p.2))=es.toList.map λe=>(e.key,e.val):=he.symm
 rcases wJ m hk q with ⟨p,u,q',rfl,hp,hq⟩|hn
 ·obtain ⟨ep,eq,e1,e2,e3⟩:=Wj he
  cases eq with
  |nil=>simp at e3
  |cons ee eq=>
   simp only[jL,List.cons.injEq,js] at e3;have hf:=Kp (d:=dd) q ep ee eq 0 (yE e2 hp) e3.1.1;rw[←e1,kR] at hf;have hfk:=wZ (P:=P) (kt:=kt) h1.und hf w;rw[JJ hp]
   cases ok<;>simp[execOp,s.eval hx,s.eval hy,Instr.lookup,h.und,hget,hpl,hfk,e3.1.2]
 ·have hf:=Kq (d:=dd) q es.toList 0 (yE he hn)
  have hfk:=wZ (P:=P) (kt:=kt) h1.und hf w;rw[wX hn]
  cases ok<;>simp[execOp,s.eval hx,s.eval hy,Instr.lookup,h.und,hget,hpl,hfk,hz]
theorem Y.mlen {A:HL}{x:Operand}{t kt e:TypeId}{b:Nat}{A':HP→HL}[h:Vm P t kt e][hm:zI b A g r m A'](hx:ev f x=some (.map (some b))):
  qk P n ops ⟨some d,.call ⟨.builtin .len,#[x],#[t]⟩,ty,pos,af,none⟩ f A (.int .i64 m.length):=by
 refine Y.of' λa w F s t0=> ?_
 obtain ⟨R,es,clock,⟨he,hk,_,_⟩,H,_⟩:=hm.open_ t0;have hb:=St.pt_read H;have hget:(getObj b).run P w=.ok (.map es clock) w:=MapKept.run_getObj_map hb;have hl:es.size=m.length:=by have:=jj List.length he;simpa using this
 simp[execOp,resolve,invoke,s.eval hx,builtin,Builtin.len_,h.und,hget,goInt,hl]
theorem St.mp_set {w:World}{b:Nat}{L:HL}{es es':Array MapEntry}{clock clock':Nat}{m':List (κ×α)}(H:St w (pt b (.map es clock)::L))(k:zf g r m' es'.toList clock'):
  St {w with heap:=w.heap.setIfInBounds b (.map es' clock')} (VX g r b m'::L):=by
 have hb:=St.pt_read H;have hlt:b<w.heap.size:=(kj.1 hb).1;refine St.mp_shut k (St.pt_write H ?_ (λj hj=> ?_))
 ·simp[hlt]
 ·simp[Ne.symm hj]
theorem S.mu {x y z:Operand}{t kt e:TypeId}{dd:TypeDesc}{b:Nat}{q:κ}{u:α}{L':HP→HL}[h:Vm P t kt e][h1:KTy P kt dd][K:mD dd g][hm:zI b L g r m L']
  (hx:ev f x=some (.map (some b))) (hy:ev f y=some (g q)) (hz:ev f z=some (r u)) (hk:qq P n ops rest Q f (L' (VX g r b (qN m q u)))):
  qq P n ops (⟨none,.mapUpdate t x y z,ty,pos,af,none⟩::rest) Q f L:=by
 refine YJ (L':=L' (VX g r b (qN m q u))) (λF a w s t0=> ?_) hk;obtain ⟨R,es,clock,⟨he,hkk,hbo,hcl⟩,H,hback⟩:=hm.open_ t0;have hb:=St.pt_read H;have hget:(getObj b).run P w=.ok (.map es clock) w:=MapKept.run_getObj_map hb;have hset:∀o,(setObj b o).run P w=.ok () {w with heap:=w.heap.setIfInBounds b o}:=λo=>MapKept.run_setObj_map o hb
 have hpl:=K.plain P kt h1.und false q w
 rcases wJ m hkk q with ⟨p,v,q',rfl,hp,hq⟩|hn
 ·obtain ⟨ep,eq,e1,e2,e3⟩:=Wj he
  cases eq with
  |nil=>simp at e3
  |cons ee eq=>
   simp only[jL,List.cons.injEq,js] at e3;have hf:=Kp (d:=dd) q ep ee eq 0 (yE e2 hp) e3.1.1;rw[←e1,kR] at hf;have hfk:=wZ (P:=P) (kt:=kt) h1.und hf w;have hat:es[ep.length]? =some ee:=by rw[←Array.getElem?_toList,e1];simp
   have hks:(Instr.keyThatStays ee.key (g q)).run P w=.ok (g q) w:=by simp[Instr.keyThatStays,e3.1.1,K.bits]
   refine ⟨_,?_,hback _ _ (St.mp_set (es':=es.modify (ep.length) λe=>{e with key:=g q,val:=r u}) (clock':=clock) (m':=qN (p++(q,v)::q') q u) H ?_)⟩
   ·simp[execOp,s.eval hx,s.eval hy,s.eval hz,Instr.mapUpdate,h.und,hget,hpl,hfk,hat,hks,hset]
   ·have el:(es.modify (ep.length) λe=>{e with key:=g q,val:=r u}).toList=ep++{ee with key:=g q,val:=r u}::eq:=by
     rw[Array.toList_modify,e1,YS]
    rw[el,wv hp hq];refine ⟨?_,YY hkk,?_,λe' he'=> ?_⟩
    ·simp only[jq,jL,e2,e3.2]
    ·rw[e1] at hbo;simpa using hbo
    ·rw[e1] at hcl
     simp only[jy,j9] at he' hcl
     rcases he' with h'|rfl|h'
     ·exact hcl _ (.inl h')
     ·exact hcl ee (.inr (.inl rfl))
     ·exact hcl _ (.inr (.inr h'))
 ·have hf:=Kq (d:=dd) q es.toList 0 (yE he hn)
  have hfk:=wZ (P:=P) (kt:=kt) h1.und hf w;refine ⟨_,?_,hback _ _ (St.mp_set (es':=es.push {key:=g q,val:=r u,born:=clock}) (clock':=clock+1) (m':=qN m q u) H ?_)⟩
  ·simp[execOp,s.eval hx,s.eval hy,s.eval hz,Instr.mapUpdate,h.und,hget,hpl,hfk,hset]
  ·rw[vJ hn]
   refine ⟨by simp[he],by rw[←vJ hn];exact vy hkk q u,?_,?_⟩
   ·simp only[Array.toList_push,jq,jL,kC]
    rw[List.pairwise_append];refine ⟨hbo,by simp,λa ha c hc=> ?_⟩;obtain ⟨e',he',rfl⟩:=jM.1 ha
    simp at hc;subst hc;exact hcl e' he'
   ·intro e' he'
    simp only[Array.toList_push,jy,ji] at he'
    rcases he' with h'|rfl
    ·have:=hcl e' h';omega
    ·simp
theorem S.dl {x y:Operand}{t t' kt e:TypeId}{dd:TypeDesc}{b:Nat}{q:κ}{L':HP→HL}[h:Vm P t kt e][h1:KTy P kt dd][K:mD dd g][hm:zI b L g r m L']
  (hx:ev f x=some (.map (some b))) (hy:ev f y=some (g q)) (hk:qq P n ops rest Q f (L' (VX g r b (qO m q)))):
  qq P n ops (⟨none,.call ⟨.builtin .delete,#[x,y],#[t,t']⟩,ty,pos,af,none⟩::rest) Q f L:=by
 intro ok F a w s t0;simp only[wA,List.all_cons,jF] at ok;refine wpList_plain rfl λK' hK=> ?_
 obtain ⟨R,es,clock,⟨he,hkk,hbo,hcl⟩,H,hback⟩:=hm.open_ t0;have hb:=St.pt_read H;have hget:(getObj b).run P w=.ok (.map es clock) w:=MapKept.run_getObj_map hb;have hset:∀o,(setObj b o).run P w=.ok () {w with heap:=w.heap.setIfInBounds b o}:=λo=>MapKept.run_setObj_map o hb
 have hpl:=K.plain P kt h1.und es.isEmpty q w;have key:∃w',(execOp a.eval ⟨none,.call ⟨.builtin .delete,#[x,y],#[t,t']⟩,ty,pos,af,none⟩).run P w=.ok (.value (.tuple #[])) w'∧St w' (L' (VX g r b (qO m q))++F):=by
  rcases wJ m hkk q with ⟨p,v,q',rfl,hp,hq⟩|hn
  ·obtain ⟨ep,eq,e1,e2,e3⟩:=Wj he
   cases eq with
   |nil=>simp at e3
   |cons ee eq=>
    simp only[jL,List.cons.injEq,js] at e3;have hf:=Kp (d:=dd) q ep ee eq 0 (yE e2 hp) e3.1.1;rw[←e1,kR] at hf;have hfk:=wZ (P:=P) (kt:=kt) h1.und hf w;refine ⟨_,?_,hback _ _ (St.mp_set (es':=es.eraseIdxIfInBounds (ep.length)) (clock':=clock) (m':=qO (p++(q,v)::q') q) H ?_)⟩
    ·simp[execOp,resolve,invoke,builtin,s.eval hx,s.eval hy,Builtin.delete_,h.und,hget,hpl,hfk,hset]
    ·have el:(es.eraseIdxIfInBounds (ep.length)).toList=ep++eq:=by
      have hl:ep.length<es.size:=by have:=jj List.length e1;simp at this;omega
      rw[Array.eraseIdxIfInBounds,dif_pos hl,Array.toList_eraseIdx,e1,List.eraseIdx_append_of_length_le (jz _)]
      simp
     rw[el];refine ⟨?_,yo hkk q,?_,λe' he'=> ?_⟩
     ·rw[Qt hp hq];simp only[jq,e2,e3.2]
     ·rw[e1] at hbo
      refine List.Pairwise.sublist ?_ hbo;exact List.Sublist.map _ (List.Sublist.append_left (List.sublist_cons_self _ _) _)
     ·rw[e1] at hcl
      simp only[jy] at he';exact hcl _ (by simp only[jy,j9];exact he'.imp id .inr)
  ·have hf:=Kq (d:=dd) q es.toList 0 (yE he hn)
   have hfk:=wZ (P:=P) (kt:=kt) h1.und hf w;refine ⟨_,?_,hback _ _ (St.mp_set (es':=es) (clock':=clock) (m':=qO m q) H ?_)⟩
   ·simp[execOp,resolve,invoke,builtin,s.eval hx,s.eval hy,Builtin.delete_,h.und,hget,hpl,hfk,hset]
   ·rw[WO hn];exact ⟨he,hkk,hbo,hcl⟩
 obtain ⟨w',hr,ht⟩:=key;simp only[Oper.wp,hr,Oper.upon];exact hK _ _ (hk ok.2 F _ _ (s.put ok.1 _) ht)
end
theorem qw {P:Program}{n:Nat}{x y:Code}{Q:vm}{f:vL}{L:HL}{σ:Type}{i:Nat}(sl:σ→List (Nat×Value))(H:σ→HL)(φ:σ→Prop)
  (h:swp P n x (qJ i (qL (λf L=>∃s,Vd f (sl s)∧qi L (H s)∧φ s) Q)) f L)
  (hk:∀s,φ s→swp P n y Q (v7 (sl s)) (H s)):swp P n x (qJ i (qL (λf L=>swp P n y Q f L) Q)) f L:=by
 refine ga h ?_;have key:∀e f L,qL (λf L=>∃s,Vd f (sl s)∧qi L (H s)∧φ s) Q e f L→qL (λf L=>swp P n y Q f L) Q e f L:=by
  intro e f L q
  cases e<;>first|exact q|(obtain ⟨s,h1,h2,h3⟩:=q;exact Yp _ h1 (vh h2 (hk s h3)))
 intro e f L q
 cases e with
 |exit j=>
  unfold qJ at q ⊢;simp only at q ⊢
  cases hb:Nat.beq j i with
  |true=>rw[hb] at q;simp only[cond_true] at q ⊢;exact key _ _ _ q
  |false=>rw[hb] at q;simp only[cond_false] at q ⊢;exact key _ _ _ q
 |_=>unfold qJ at q ⊢;exact key _ _ _ q
theorem K2.cap {a:OA}{L:HL}{t sz m c:Nat}{cs:List Value}{L':HP→HL}(h:K2 a L t sz m c cs L'){w:World}{F:HL}(H:St w (L++F)):m≤c:=by
 obtain ⟨R,p,_⟩:=h.at_;have:=St.slO_open (L:=R++F) (by simpa using St.perm (p.append_right F) H)
 rcases this.2 with ⟨_,h,h',_⟩|⟨b,_,h,h',_⟩
 ·omega
 ·exact h'
theorem zm (a:OA){P:Program}{n:Nat}{ops rest:List Oper}{Q:vm}{f:vL}{L:HL}{t sz m c:Nat}{cs:List Value}{L':HP→HL}[h:K2 a L t sz m c cs L'](H:m≤c→qq P n ops rest Q f L):qq P n ops rest Q f L:=
 λok F ac w s t=>H (h.cap t) ok F ac w s t
section
variable {P : Program} {n : Nat} {ops : List Oper} {f : vL} {A : HL} {d : Tmp} {ty : TypeId} {pos : String} {af : Array Edge}
theorem Y.iac {x y:Operand}{t e:TypeId}{b o m c sz bts k:Nat}{ag:Bool}{zs:List Value}{kk:IntKind}[h:wS P t e][h2:Ty P e ag sz zs bts](hx:ev f x=some (.slice (some ⟨b,o,none⟩) m c))(hy:ev f y=some (.int kk (Int.ofNat k)))(h1:k<m):
  qk P n ops ⟨some d,.indexAddr t x y,ty,pos,af,none⟩ f A (.pointer (some ⟨b,o+k*sz,none⟩)):=Y.ia hx hy rfl h1
end
section
variable {P : Program} {n : Nat} {ops : List Oper} {f : vL} {A : HL} {d : Tmp} {ty : TypeId} {pos : String} {af : Array Edge}
theorem Y.bda {t e:TypeId}{len:Nat}{parts:Array (Nat×Operand)}{sz bts sz' bts':Nat}{ag ag':Bool}{zs zs' cs:List Value}{l:List (Nat×Value)}[h1:ZB P t len e][h3:Ty P e ag' sz' zs' bts'][h2:Ty P t ag sz zs bts]
  (hp:Qd f parts.toList=some l) (hm:zs.length=len*sz') (hf:bZ (XG sz' len) (len*sz') (cellsOf l)=true) (hc:Xn (XG sz' len) zs (cellsOf l)=cs):qk P n ops ⟨some d,.build t parts,ty,pos,af,none⟩ f A (.agg cs.toArray):=by
 obtain ⟨z,hz,hz2⟩:=h2.zero;refine Y.of (v:=.agg cs.toArray) (λa w s=> ?_);have e1:(parts.map λp=>(p.1,a.eval p.2)).toList=l:=by simpa using QO s hp
 have e3:z.cells=zs.toArray:=by rw[←hz2]
 have e4 := Yd (places := XG sz' len) (pl := fun i => some (i * sz',sz')) (fun i off sz'' ag e => by
  simp only[XG,jZ] at e
  by_cases hi:i<len
  ·rw[List.getElem?_range hi] at e
   simp only[Option.map_some,jk,js] at e;rw[←e.1,←e.2.1]
  ·rw[List.getElem?_eq_none (by simpa using hi)] at e;simp at e) l zs (by rw[hm];exact Y6 hf)
 unfold cellsOf at hc;rw[hc] at e4;obtain ⟨pl⟩:=parts;simp only[List.map_toArray] at e1;simp only[execOp,Instr.build,Sem.run_bind,hz,h1.und,Result.andThen_ok,h3.size,e3,List.map_toArray,e1,e4];rfl
end
theorem nz {α:Type _}:([]:List α)=[]:=rfl
theorem cz {α:Type _}{l l1 l2:List α}{x:α}(h:l=x::l1)(h2:l1=l2):l=x::l2:=h2▸h
theorem mln {L:HL}:JH [] L=L:=rfl
theorem mlt {m:List Bool}{x:HP}{L L':HL}(h:JH m L=L'):JH (true::m) (x::L)=L':=h
theorem mlf {m:List Bool}{x:HP}{L L':HL}(h:JH m L=L'):JH (false::m) (x::L)=x::L':=by rw[←h];rfl
theorem man {L:HL}:JI [] L=[]:=rfl
theorem mat {m:List Bool}{x:HP}{L L':HL}(h:JI m L=L'):JI (true::m) (x::L)=x::L':=by rw[←h];rfl
theorem maf {m:List Bool}{x:HP}{L L':HL}(h:JI m L=L'):JI (false::m) (x::L)=L':=h
class Imv (o:Oper):Prop where
 tt:True
class jH6 (o:Oper):Prop where
 tt:True
class Inc (o:Oper):Prop where
 tt:True
class Ifa (o:Oper):Prop where
 tt:True
class Iia (o:Oper):Prop where
 tt:True
class Ieq (o:Oper):Prop where
 tt:True
class Ine (o:Oper):Prop where
 tt:True
class Ilt (o:Oper):Prop where
 tt:True
class Ile (o:Oper):Prop where
 tt:True
class Igt (o:Oper):Prop where
 tt:True
class Ige (o:Oper):Prop where
 tt:True
class Iad (o:Oper):Prop where
 tt:True
class Isb (o:Oper):Prop where
 tt:True
class Iln (o:Oper):Prop where
 tt:True
class Imi (o:Oper):Prop where
 tt:True
class Ima (o:Oper):Prop where
 tt:True
class Ipk (o:Oper):Prop where
 tt:True
class Iex (o:Oper):Prop where
 tt:True
class Ino (o:Oper):Prop where
 tt:True
class Ibd (o:Oper):Prop where
 tt:True
class Ild (P:Program)(o:Oper)(ag:outParam Bool):Prop where
 tt:True
section
variable {P : Program} {d : Tmp} {dd : Option Tmp} {op : Op} {ty : TypeId} {pos : String} {af : Array Edge} {g : Nat × Bool} {x y z : Operand} {t t' : TypeId} {k : Nat} {xs : Array Operand} {ts : Array TypeId} {ps : Array (Nat × Operand)} {ok : Bool}
instance : Imv ⟨some d,.move x,ty,pos,af,none⟩:=⟨trivial⟩
instance : jH6 ⟨some d,.assign x,ty,pos,af,none⟩:=⟨trivial⟩
instance : Inc ⟨some d,.nilCheck x,ty,pos,af,none⟩:=⟨trivial⟩
instance : Ifa ⟨some d,.fieldAddr t x k,ty,pos,af,none⟩:=⟨trivial⟩
instance : Iia ⟨some d,.indexAddr t x y,ty,pos,af,none⟩:=⟨trivial⟩
instance : Ieq ⟨some d,.binOp .eql t x y t',ty,pos,af,none⟩:=⟨trivial⟩
instance : Ine ⟨some d,.binOp .neq t x y t',ty,pos,af,none⟩:=⟨trivial⟩
instance : Ilt ⟨some d,.binOp .lss t x y t',ty,pos,af,none⟩:=⟨trivial⟩
instance : Ile ⟨some d,.binOp .leq t x y t',ty,pos,af,none⟩:=⟨trivial⟩
instance : Igt ⟨some d,.binOp .gtr t x y t',ty,pos,af,none⟩:=⟨trivial⟩
instance : Ige ⟨some d,.binOp .geq t x y t',ty,pos,af,none⟩:=⟨trivial⟩
instance : Iad ⟨some d,.binOp .add t x y t',ty,pos,af,none⟩:=⟨trivial⟩
instance : Isb ⟨some d,.binOp .sub t x y t',ty,pos,af,none⟩:=⟨trivial⟩
instance : Iln ⟨some d,.call ⟨.builtin .len,xs,ts⟩,ty,pos,af,none⟩:=⟨trivial⟩
instance : Imi ⟨some d,.call ⟨.builtin .min,xs,ts⟩,ty,pos,af,none⟩:=⟨trivial⟩
instance : Ima ⟨some d,.call ⟨.builtin .max,xs,ts⟩,ty,pos,af,none⟩:=⟨trivial⟩
instance : Ipk ⟨some d,.pick x y z,ty,pos,af,none⟩:=⟨trivial⟩
instance : Iex ⟨some d,.extract x k,ty,pos,af,none⟩:=⟨trivial⟩
instance : Ino ⟨some d,.unOp .not t x,ty,pos,af,none⟩:=⟨trivial⟩
instance : Ibd ⟨some d,.build t ps,ty,pos,af,none⟩:=⟨trivial⟩
instance {ag :Bool} {sz bts:Nat} {zs:List Value} [Ty P t ag sz zs bts]:Ild P ⟨some d,.load t x,ty,pos,af,none⟩ ag:=⟨trivial⟩
end
namespace QY
section
variable {P : Program} {n : Nat} {ops : List Oper} {f : vL} {A : HL} {v : Value}
theorem mv {o:Oper}[Imv o](h:qk P n ops o f A v):qk P n ops o f A v:=h
theorem as_ {o:Oper}[jH6 o](h:qk P n ops o f A v):qk P n ops o f A v:=h
theorem nc {o:Oper}[Inc o](h:qk P n ops o f A v):qk P n ops o f A v:=h
theorem fa {o:Oper}[Ifa o](h:qk P n ops o f A v):qk P n ops o f A v:=h
theorem ia {o:Oper}[Iia o](h:qk P n ops o f A v):qk P n ops o f A v:=h
theorem eq {o:Oper}[Ieq o](h:qk P n ops o f A v):qk P n ops o f A v:=h
theorem ne {o:Oper}[Ine o](h:qk P n ops o f A v):qk P n ops o f A v:=h
theorem lt {o:Oper}[Ilt o](h:qk P n ops o f A v):qk P n ops o f A v:=h
theorem le {o:Oper}[Ile o](h:qk P n ops o f A v):qk P n ops o f A v:=h
theorem gt {o:Oper}[Igt o](h:qk P n ops o f A v):qk P n ops o f A v:=h
theorem ge {o:Oper}[Ige o](h:qk P n ops o f A v):qk P n ops o f A v:=h
theorem ad {o:Oper}[Iad o](h:qk P n ops o f A v):qk P n ops o f A v:=h
theorem sb {o:Oper}[Isb o](h:qk P n ops o f A v):qk P n ops o f A v:=h
theorem ln {o:Oper}[Iln o](h:qk P n ops o f A v):qk P n ops o f A v:=h
theorem mi {o:Oper}[Imi o](h:qk P n ops o f A v):qk P n ops o f A v:=h
theorem ma {o:Oper}[Ima o](h:qk P n ops o f A v):qk P n ops o f A v:=h
theorem pk {o:Oper}[Ipk o](h:qk P n ops o f A v):qk P n ops o f A v:=h
theorem ex {o:Oper}[Iex o](h:qk P n ops o f A v):qk P n ops o f A v:=h
theorem no {o:Oper}[Ino o](h:qk P n ops o f A v):qk P n ops o f A v:=h
theorem bd {o:Oper}[Ibd o](h:qk P n ops o f A v):qk P n ops o f A v:=h
theorem l1 {o:Oper}[Ild P o false](h:qk P n ops o f A v):qk P n ops o f A v:=h
theorem lN {o:Oper}[Ild P o true](h:qk P n ops o f A v):qk P n ops o f A v:=h
end
end QY
class mZ (o:Oper)(d:outParam Tmp):Prop where
 dst:o.dst=some d
class IsG (o:Oper):Prop where
 tt:True
class IsS (o:Oper):Prop where
 tt:True
class IsA (o:Oper):Prop where
 tt:True
section
variable {d : Tmp} {dd : Option Tmp} {op : Op} {ty : TypeId} {pos : String} {af : Array Edge} {g : Nat × Bool} {x y z : Operand} {t t' : TypeId} {k : Nat} {xs : Array Operand} {ts : Array TypeId} {ps : Array (Nat × Operand)} {ok : Bool}
instance : mZ ⟨some d,.move x,ty,pos,af,none⟩ d:=⟨rfl⟩
instance : mZ ⟨some d,.assign x,ty,pos,af,none⟩ d:=⟨rfl⟩
instance : mZ ⟨some d,.nilCheck x,ty,pos,af,none⟩ d:=⟨rfl⟩
instance : mZ ⟨some d,.load t x,ty,pos,af,none⟩ d:=⟨rfl⟩
instance : mZ ⟨some d,.fieldAddr t x k,ty,pos,af,none⟩ d:=⟨rfl⟩
instance {o :BinOp}:mZ ⟨some d,.binOp o t x y t',ty,pos,af,none⟩ d:=⟨rfl⟩
instance : mZ ⟨some d,.call ⟨.builtin .len,xs,ts⟩,ty,pos,af,none⟩ d:=⟨rfl⟩
instance : mZ ⟨some d,.call ⟨.builtin .min,xs,ts⟩,ty,pos,af,none⟩ d:=⟨rfl⟩
instance : mZ ⟨some d,.call ⟨.builtin .max,xs,ts⟩,ty,pos,af,none⟩ d:=⟨rfl⟩
instance : mZ ⟨some d,.pick x y z,ty,pos,af,none⟩ d:=⟨rfl⟩
instance : mZ ⟨some d,.extract x k,ty,pos,af,none⟩ d:=⟨rfl⟩
instance : mZ ⟨some d,.unOp .not t x,ty,pos,af,none⟩ d:=⟨rfl⟩
instance : mZ ⟨some d,.indexAddr t x y,ty,pos,af,none⟩ d:=⟨rfl⟩
instance : mZ ⟨some d,.build t ps,ty,pos,af,none⟩ d:=⟨rfl⟩
instance : IsG ⟨dd,op,ty,pos,af,some g⟩:=⟨trivial⟩
instance : IsS ⟨none,.store t x y,ty,pos,af,none⟩:=⟨trivial⟩
instance : IsA ⟨some d,.alloc t,ty,pos,af,none⟩:=⟨trivial⟩
instance : IsA ⟨some d,.box t x,ty,pos,af,none⟩:=⟨trivial⟩
instance : IsA ⟨some d,.buildSlice t k ps,ty,pos,af,none⟩:=⟨trivial⟩
end
theorem S.y' {P:Program}{n:Nat}{ops rest:List Oper}{Q:vm}{f:vL}{L:HL}{o:Oper}{d:Tmp}{v:Value}(hd:o.dst=some d)(hy:qk P n ops o f L v)(hk:qq P n ops rest Q (upd f d v) L):qq P n ops (o::rest) Q f L:=by
 obtain ⟨dd,op,ty,pos,af,g⟩:=o
 cases hd
 exact S.y hy hk
namespace GQ
section
variable {P : Program} {n : Nat} {ops rest : List Oper} {Q : vm} {f : vL} {L : HL} {o : Oper}
theorem y {d:Tmp}[mZ o d](h:qq P n ops (o::rest) Q f L):qq P n ops (o::rest) Q f L:=h
theorem g [IsG o](h:qq P n ops (o::rest) Q f L):qq P n ops (o::rest) Q f L:=h
theorem s [IsS o](h:qq P n ops (o::rest) Q f L):qq P n ops (o::rest) Q f L:=h
theorem a [IsA o](h:qq P n ops (o::rest) Q f L):qq P n ops (o::rest) Q f L:=h
end
end GQ
namespace Q
section
variable {P : Program} {n : Nat} {ops rest : List Oper} {Q : vm} {f : vL} {A L : HL} {E cs σ : List Nat} {listed : Array Bool} {held : Bool}
variable {d : Tmp} {op : Op} {ty : TypeId} {pos : String} {af : Array Edge} {g : Option (Nat × Bool)} {v : Value}
theorem y {o:Oper}{d:Tmp}[h:mZ o d](hk:qq P n ops rest Q (upd f d v) L)(hy:qk P n ops o f L v:=by first|(apply QY.mv;first|exact Y.mv rfl)|(apply QY.as_;first|exact Y.as rfl)|(apply QY.l1;first|exact Y.ld rfl rfl|exact Y.ldM rfl (by assumption) zr|exact Y.ldM0 rfl (by assumption)|exact Y.ldR rfl (by assumption)|exact Y.ldR rfl (vi.sub (by assumption)))|(apply QY.fa;exact Y.fa rfl rfl zd)|(apply QY.ia;first|exact Y.ia rfl rfl rfl zo|exact Y.iaa rfl rfl rfl zo|exact Y.iac rfl rfl (by first|omega|exact Nat.le_of_ble_eq_true rfl)|exact Y.iaac rfl rfl rfl)|(apply QY.eq;first|(apply Y.eqi;rfl;rfl)|(apply Y.eqp;rfl;rfl)|(apply Y.eqs;rfl;rfl)|(apply Y.eqB;rfl;rfl)|(apply Y.eqst;rfl;rfl))|(apply QY.ne;first|(apply Y.nei;rfl;rfl)|(apply Y.nep;rfl;rfl)|(apply Y.nes;rfl;rfl)|(apply Y.neB;rfl;rfl)|(apply Y.nest;rfl;rfl))|(apply QY.lt;exact Y.lss rfl rfl)|(apply QY.pk;first|(apply Y.pk_t;rfl;rfl)|(apply Y.pk_f;rfl;rfl)|exact Y.pk rfl rfl rfl)|(apply QY.nc;exact Y.nc rfl)|(apply QY.ln;first|exact Y.len rfl|exact Y.mlen rfl)|(apply QY.ex;exact Y.ext rfl rfl)|(apply QY.ad;exact Y.addi rfl rfl rfl zo zo)|(apply QY.lN;first|exact Y.ldN rfl (by repeat (first|exact nz|(apply cz;exact rfl)|exact rfl)) zr|exact Y.ldMN rfl (by assumption) zr|exact Y.ldRN rfl (by assumption) zr|exact Y.ldRN rfl (vi.sub (by assumption)) zr)|(apply QY.no;exact Y.not rfl)|(apply QY.ge;exact Y.geq rfl rfl)|(apply QY.gt;exact Y.gtr rfl rfl)|(apply QY.le;exact Y.leq rfl rfl)|(apply QY.sb;exact Y.subi rfl rfl rfl zo zo)|(apply QY.mi;exact Y.min rfl rfl)|(apply QY.ma;exact Y.max rfl rfl)|(apply QY.bd;first|(apply Y.bd;rfl;rfl;rfl;exact (by repeat (first|exact nz|(apply cz;exact rfl)|exact rfl)))|(apply Y.bda;rfl;rfl;rfl;exact (by repeat (first|exact nz|(apply cz;exact rfl)|exact rfl))))):qq P n ops (o::rest) Q f L:=S.y' h.dst hy hk
theorem st {o:Oper}{L':HL}[IsS o](hk:qq P n ops rest Q f L')
  (h:(∀rest Q,qq P n ops rest Q f L'→qq P n ops (o::rest) Q f L):=by intro rest Q hk;first|exact S.st1 rfl rfl rfl rfl (by repeat (first|exact nz|(apply cz;exact rfl)|exact rfl)) hk|exact S.st rfl rfl (by repeat (first|exact nz|(apply cz;exact rfl)|exact rfl)) zr zr zr (by repeat (first|exact nz|(apply cz;exact rfl)|exact rfl)) hk):qq P n ops (o::rest) Q f L:=h _ _ hk
theorem al {o:Oper}{f':Nat→vL}{L':Nat→HL}[IsA o](hk:∀b,qq P n ops rest Q (f' b) (L' b))
  (h:(∀rest Q,(∀b,qq P n ops rest Q (f' b) (L' b))→qq P n ops (o::rest) Q f L):=by intro rest Q hk;first|exact S.al hk|exact S.bs rfl rfl rfl rfl (by repeat (first|exact nz|(apply cz;exact rfl)|exact rfl)) hk|exact S.bx rfl (by repeat (first|exact nz|(apply cz;exact rfl)|exact rfl)) hk):qq P n ops (o::rest) Q f L:=h _ _ hk
theorem gq {o:Oper}{l':List Oper}{f':vL}[IsG o](hk:qq P n ops l' Q f' L)
  (h:(∀Q,qq P n ops l' Q f' L→qq P n ops (o::rest) Q f L):=by intro Q hk;first|exact S.guard rfl hk|exact S.gskip1 rfl hk|exact S.gskip rfl hk|exact S.y (Y.gskipU rfl) hk):qq P n ops (o::rest) Q f L:=h _ hk
theorem gd {o:Oper}{l':List Oper}{f':vL}[IsG o](hk:qq P n ops l' Q f' L)
  (h:(∀Q,qq P n ops l' Q f' L→qq P n ops (o::rest) Q f L):=by intro Q hk;first|exact S.gT rfl rfl (by simp only[Option.isNone_some,Option.isNone_none,jS,j5,beq_iff_eq,bne_iff_ne,beq_eq_false_iff_ne,kL,Bool.not_eq_false',jH,jD,beq_true,beq_false,true_and,and_true,false_and,and_false,or_false,false_or,true_or,or_true,not_true_eq_false,not_false_eq_true,Bool.true_eq_false,kb] at*;first|done|omega) hk|exact S.gF rfl rfl (by simp only[Option.isNone_some,Option.isNone_none,jS,j5,beq_iff_eq,bne_iff_ne,beq_eq_false_iff_ne,kL,Bool.not_eq_false',jH,jD,beq_true,beq_false,true_and,and_true,false_and,and_false,or_false,false_or,true_or,or_true,not_true_eq_false,not_false_eq_true,Bool.true_eq_false,kb] at*;first|done|omega) hk):qq P n ops (o::rest) Q f L:=h _ hk
theorem ct {c:Operand}{x y:Code}{b:Bool}(hc:ev f c=some (.bool b))(h:swp P n x Q f L)(hb:b=true:=by simp only[Option.isNone_some,Option.isNone_none,jS,j5,beq_iff_eq,bne_iff_ne,beq_eq_false_iff_ne,kL,Bool.not_eq_false',jH,jD,beq_true,beq_false,true_and,and_true,false_and,and_false,or_false,false_or,true_or,or_true,not_true_eq_false,not_false_eq_true,Bool.true_eq_false,kb] at*;first|done|omega):swp P n (.cond c x y) Q f L:=nE hc hb h
theorem cf {c:Operand}{x y:Code}{b:Bool}(hc:ev f c=some (.bool b))(h:swp P n y Q f L)(hb:b=false:=by simp only[Option.isNone_some,Option.isNone_none,jS,j5,beq_iff_eq,bne_iff_ne,beq_eq_false_iff_ne,kL,Bool.not_eq_false',jH,jD,beq_true,beq_false,true_and,and_true,false_and,and_false,or_false,false_or,true_or,or_true,not_true_eq_false,not_false_eq_true,Bool.true_eq_false,kb] at*;first|done|omega):swp P n (.cond c x y) Q f L:=nF hc hb h
theorem dy {i:Nat}(hi:ops[i]? =some ⟨some d,op,ty,pos,af,g⟩)(h9:Nat.beq i 99999=false)(hE:E.contains i=false)(h:qH P n ops E cs A σ Q (listed.setIfInBounds i true) true (upd f d v) L)
  (hc:(cs.all λm=>m !=i&&(ops.toArray[m]?).isSome&&reach ops.toArray 4 i m)=true:=by kernel_rfl) (hy:qk P n ops ⟨some d,op,ty,pos,af,g⟩ f A v:=by first|(first|(apply QY.mv;first|exact Y.mv rfl)|(apply QY.as_;first|exact Y.as rfl)|(apply QY.l1;first|exact Y.ld rfl rfl|exact Y.ldM rfl (by assumption) zr|exact Y.ldM0 rfl (by assumption)|exact Y.ldR rfl (by assumption)|exact Y.ldR rfl (vi.sub (by assumption)))|(apply QY.fa;exact Y.fa rfl rfl zd)|(apply QY.ia;first|exact Y.ia rfl rfl rfl zo|exact Y.iaa rfl rfl rfl zo|exact Y.iac rfl rfl (by first|omega|exact Nat.le_of_ble_eq_true rfl)|exact Y.iaac rfl rfl rfl)|(apply QY.eq;first|(apply Y.eqi;rfl;rfl)|(apply Y.eqp;rfl;rfl)|(apply Y.eqs;rfl;rfl)|(apply Y.eqB;rfl;rfl)|(apply Y.eqst;rfl;rfl))|(apply QY.ne;first|(apply Y.nei;rfl;rfl)|(apply Y.nep;rfl;rfl)|(apply Y.nes;rfl;rfl)|(apply Y.neB;rfl;rfl)|(apply Y.nest;rfl;rfl))|(apply QY.lt;exact Y.lss rfl rfl)|(apply QY.pk;first|(apply Y.pk_t;rfl;rfl)|(apply Y.pk_f;rfl;rfl)|exact Y.pk rfl rfl rfl)|(apply QY.nc;exact Y.nc rfl)|(apply QY.ln;first|exact Y.len rfl|exact Y.mlen rfl)|(apply QY.ex;exact Y.ext rfl rfl)|(apply QY.ad;exact Y.addi rfl rfl rfl zo zo)|(apply QY.lN;first|exact Y.ldN rfl (by repeat (first|exact nz|(apply cz;exact rfl)|exact rfl)) zr|exact Y.ldMN rfl (by assumption) zr|exact Y.ldRN rfl (by assumption) zr|exact Y.ldRN rfl (vi.sub (by assumption)) zr)|(apply QY.no;exact Y.not rfl)|(apply QY.ge;exact Y.geq rfl rfl)|(apply QY.gt;exact Y.gtr rfl rfl)|(apply QY.le;exact Y.leq rfl rfl)|(apply QY.sb;exact Y.subi rfl rfl rfl zo zo)|(apply QY.mi;exact Y.min rfl rfl)|(apply QY.ma;exact Y.max rfl rfl)|(apply QY.bd;first|(apply Y.bd;rfl;rfl;rfl;exact (by repeat (first|exact nz|(apply cz;exact rfl)|exact rfl)))|(apply Y.bda;rfl;rfl;rfl;exact (by repeat (first|exact nz|(apply cz;exact rfl)|exact rfl)))))|exact Y.guard rfl (by first|(apply QY.mv;first|exact Y.mv rfl)|(apply QY.as_;first|exact Y.as rfl)|(apply QY.l1;first|exact Y.ld rfl rfl|exact Y.ldM rfl (by assumption) zr|exact Y.ldM0 rfl (by assumption)|exact Y.ldR rfl (by assumption)|exact Y.ldR rfl (vi.sub (by assumption)))|(apply QY.fa;exact Y.fa rfl rfl zd)|(apply QY.ia;first|exact Y.ia rfl rfl rfl zo|exact Y.iaa rfl rfl rfl zo|exact Y.iac rfl rfl (by first|omega|exact Nat.le_of_ble_eq_true rfl)|exact Y.iaac rfl rfl rfl)|(apply QY.eq;first|(apply Y.eqi;rfl;rfl)|(apply Y.eqp;rfl;rfl)|(apply Y.eqs;rfl;rfl)|(apply Y.eqB;rfl;rfl)|(apply Y.eqst;rfl;rfl))|(apply QY.ne;first|(apply Y.nei;rfl;rfl)|(apply Y.nep;rfl;rfl)|(apply Y.nes;rfl;rfl)|(apply Y.neB;rfl;rfl)|(apply Y.nest;rfl;rfl))|(apply QY.lt;exact Y.lss rfl rfl)|(apply QY.pk;first|(apply Y.pk_t;rfl;rfl)|(apply Y.pk_f;rfl;rfl)|exact Y.pk rfl rfl rfl)|(apply QY.nc;exact Y.nc rfl)|(apply QY.ln;first|exact Y.len rfl|exact Y.mlen rfl)|(apply QY.ex;exact Y.ext rfl rfl)|(apply QY.ad;exact Y.addi rfl rfl rfl zo zo)|(apply QY.lN;first|exact Y.ldN rfl (by repeat (first|exact nz|(apply cz;exact rfl)|exact rfl)) zr|exact Y.ldMN rfl (by assumption) zr|exact Y.ldRN rfl (by assumption) zr|exact Y.ldRN rfl (vi.sub (by assumption)) zr)|(apply QY.no;exact Y.not rfl)|(apply QY.ge;exact Y.geq rfl rfl)|(apply QY.gt;exact Y.gtr rfl rfl)|(apply QY.le;exact Y.leq rfl rfl)|(apply QY.sb;exact Y.subi rfl rfl rfl zo zo)|(apply QY.mi;exact Y.min rfl rfl)|(apply QY.ma;exact Y.max rfl rfl)|(apply QY.bd;first|(apply Y.bd;rfl;rfl;rfl;exact (by repeat (first|exact nz|(apply cz;exact rfl)|exact rfl)))|(apply Y.bda;rfl;rfl;rfl;exact (by repeat (first|exact nz|(apply cz;exact rfl)|exact rfl)))))):qH P n ops E cs A (i::σ) Q listed true f L:=D.y hi h9 hE hc hy h
theorem dp {i:Nat}(hi:ops[i]? =some ⟨some d,op,ty,pos,af,g⟩)(h9:Nat.beq i 99999=false)(hE:E.contains i=false)(h:qH P n ops E cs A σ Q (listed.setIfInBounds i true) held (upd f d v) L)
  (hy:qk P n ops ⟨some d,op,ty,pos,af,g⟩ f [] v:=by first|(first|(apply QY.mv;first|exact Y.mv rfl)|(apply QY.as_;first|exact Y.as rfl)|(apply QY.l1;first|exact Y.ld rfl rfl|exact Y.ldM rfl (by assumption) zr|exact Y.ldM0 rfl (by assumption)|exact Y.ldR rfl (by assumption)|exact Y.ldR rfl (vi.sub (by assumption)))|(apply QY.fa;exact Y.fa rfl rfl zd)|(apply QY.ia;first|exact Y.ia rfl rfl rfl zo|exact Y.iaa rfl rfl rfl zo|exact Y.iac rfl rfl (by first|omega|exact Nat.le_of_ble_eq_true rfl)|exact Y.iaac rfl rfl rfl)|(apply QY.eq;first|(apply Y.eqi;rfl;rfl)|(apply Y.eqp;rfl;rfl)|(apply Y.eqs;rfl;rfl)|(apply Y.eqB;rfl;rfl)|(apply Y.eqst;rfl;rfl))|(apply QY.ne;first|(apply Y.nei;rfl;rfl)|(apply Y.nep;rfl;rfl)|(apply Y.nes;rfl;rfl)|(apply Y.neB;rfl;rfl)|(apply Y.nest;rfl;rfl))|(apply QY.lt;exact Y.lss rfl rfl)|(apply QY.pk;first|(apply Y.pk_t;rfl;rfl)|(apply Y.pk_f;rfl;rfl)|exact Y.pk rfl rfl rfl)|(apply QY.nc;exact Y.nc rfl)|(apply QY.ln;first|exact Y.len rfl|exact Y.mlen rfl)|(apply QY.ex;exact Y.ext rfl rfl)|(apply QY.ad;exact Y.addi rfl rfl rfl zo zo)|(apply QY.lN;first|exact Y.ldN rfl (by repeat (first|exact nz|(apply cz;exact rfl)|exact rfl)) zr|exact Y.ldMN rfl (by assumption) zr|exact Y.ldRN rfl (by assumption) zr|exact Y.ldRN rfl (vi.sub (by assumption)) zr)|(apply QY.no;exact Y.not rfl)|(apply QY.ge;exact Y.geq rfl rfl)|(apply QY.gt;exact Y.gtr rfl rfl)|(apply QY.le;exact Y.leq rfl rfl)|(apply QY.sb;exact Y.subi rfl rfl rfl zo zo)|(apply QY.mi;exact Y.min rfl rfl)|(apply QY.ma;exact Y.max rfl rfl)|(apply QY.bd;first|(apply Y.bd;rfl;rfl;rfl;exact (by repeat (first|exact nz|(apply cz;exact rfl)|exact rfl)))|(apply Y.bda;rfl;rfl;rfl;exact (by repeat (first|exact nz|(apply cz;exact rfl)|exact rfl)))))|exact Y.gskip rfl|exact Y.gskipU rfl|exact Y.guard rfl (by first|(apply QY.mv;first|exact Y.mv rfl)|(apply QY.as_;first|exact Y.as rfl)|(apply QY.l1;first|exact Y.ld rfl rfl|exact Y.ldM rfl (by assumption) zr|exact Y.ldM0 rfl (by assumption)|exact Y.ldR rfl (by assumption)|exact Y.ldR rfl (vi.sub (by assumption)))|(apply QY.fa;exact Y.fa rfl rfl zd)|(apply QY.ia;first|exact Y.ia rfl rfl rfl zo|exact Y.iaa rfl rfl rfl zo|exact Y.iac rfl rfl (by first|omega|exact Nat.le_of_ble_eq_true rfl)|exact Y.iaac rfl rfl rfl)|(apply QY.eq;first|(apply Y.eqi;rfl;rfl)|(apply Y.eqp;rfl;rfl)|(apply Y.eqs;rfl;rfl)|(apply Y.eqB;rfl;rfl)|(apply Y.eqst;rfl;rfl))|(apply QY.ne;first|(apply Y.nei;rfl;rfl)|(apply Y.nep;rfl;rfl)|(apply Y.nes;rfl;rfl)|(apply Y.neB;rfl;rfl)|(apply Y.nest;rfl;rfl))|(apply QY.lt;exact Y.lss rfl rfl)|(apply QY.pk;first|(apply Y.pk_t;rfl;rfl)|(apply Y.pk_f;rfl;rfl)|exact Y.pk rfl rfl rfl)|(apply QY.nc;exact Y.nc rfl)|(apply QY.ln;first|exact Y.len rfl|exact Y.mlen rfl)|(apply QY.ex;exact Y.ext rfl rfl)|(apply QY.ad;exact Y.addi rfl rfl rfl zo zo)|(apply QY.lN;first|exact Y.ldN rfl (by repeat (first|exact nz|(apply cz;exact rfl)|exact rfl)) zr|exact Y.ldMN rfl (by assumption) zr|exact Y.ldRN rfl (by assumption) zr|exact Y.ldRN rfl (vi.sub (by assumption)) zr)|(apply QY.no;exact Y.not rfl)|(apply QY.ge;exact Y.geq rfl rfl)|(apply QY.gt;exact Y.gtr rfl rfl)|(apply QY.le;exact Y.leq rfl rfl)|(apply QY.sb;exact Y.subi rfl rfl rfl zo zo)|(apply QY.mi;exact Y.min rfl rfl)|(apply QY.ma;exact Y.max rfl rfl)|(apply QY.bd;first|(apply Y.bd;rfl;rfl;rfl;exact (by repeat (first|exact nz|(apply cz;exact rfl)|exact rfl)))|(apply Y.bda;rfl;rfl;rfl;exact (by repeat (first|exact nz|(apply cz;exact rfl)|exact rfl)))))):qH P n ops E cs A (i::σ) Q listed held f L:=D.yp hi h9 hE hy h
theorem endH {L2:HL}(h:Q .normal f L2)(hL:A++L=L2:=by repeat (first|exact nz|(apply cz;exact rfl)|exact rfl)):qH P n ops E cs A [] Q listed true f L:=D.endH hL h
theorem dT {i:Nat}{dd:Option Tmp}{g:Nat×Bool}{dg:Nat}{b:Bool}(hi:ops[i]? =some ⟨dd,op,ty,pos,af,some g⟩)(h0:(ops[g.1]?).bind (·.dst)=some dg)(hd:f dg=some (.bool b))
  (ht:qH P n ops E cs A (i::σ) Q listed held (upd f dg (.bool true)) L) (hb:b=true:=by simp only[Option.isNone_some,Option.isNone_none,jS,j5,beq_iff_eq,bne_iff_ne,beq_eq_false_iff_ne,kL,Bool.not_eq_false',jH,jD,beq_true,beq_false] at*;omega):qH P n ops E cs A (i::σ) Q listed held f L:=D.gT hi h0 hd hb ht
theorem dF {i:Nat}{dd:Option Tmp}{g:Nat×Bool}{dg:Nat}{b:Bool}(hi:ops[i]? =some ⟨dd,op,ty,pos,af,some g⟩)(h0:(ops[g.1]?).bind (·.dst)=some dg)(hd:f dg=some (.bool b))
  (hf:qH P n ops E cs A (i::σ) Q listed held (upd f dg (.bool false)) L) (hb:b=false:=by simp only[Option.isNone_some,Option.isNone_none,jS,j5,beq_iff_eq,bne_iff_ne,beq_eq_false_iff_ne,kL,Bool.not_eq_false',jH,jD,beq_true,beq_false] at*;omega):qH P n ops E cs A (i::σ) Q listed held f L:=D.gF hi h0 hd hb hf
theorem dgo {id:Nat}(mask:List Bool)(E cs σ:List Nat){L1:HL}[hq:QZ Q](h:qH P n ops E cs A σ Q (Array.replicate ops.length false) true f L1)(hm:P.follows .mixedOrders=true:=by rfl)(hs:Region.noSelect ops.toArray=true:=by kernel_rfl)(hl:σ.length=ops.length:=by rfl)(ho:Jd ops.toArray E cs σ (Array.replicate ops.length false)=true:=by kernel_rfl)
  (hA:JI mask L=A:=by repeat (first|apply mat|apply maf|exact man)) (hL:JH mask L=L1:=by repeat (first|apply mlt|apply mlf|exact mln)):swp P n (.region id ops.toArray true) Q f L:=D.go mask E cs σ hm hs hl ho hq.no hA hL h
theorem dc {i:Nat}{o:Oper}{L2:HL}(hi:ops[i]? =some o)(h9:Nat.beq i 99999=false)(hE:E.contains i=true)(hc:cs.contains i=true)
  (h:qq P n ops [o] (qL (λf L=>qH P n ops E cs A σ Q (listed.setIfInBounds i true) false f L) (λ_ _ _=>False)) f L2) (hL:A++L=L2:=by repeat (first|exact nz|(apply cz;exact rfl)|exact rfl)):qH P n ops E cs A (i::σ) Q listed true f L:=D.c hi h9 hE hc hL h
end
theorem go {A B:Prop}(hk:B)(h:B→A:=by (intro hk;first|exact N.tn hk|exact N.tr hk|exact N.te hk|exact N.bn hk|exact N.br hk|exact N.be hk|exact N.bx rfl hk|exact wE hk|exact Vt hk|exact qQ hk|exact jDX hk|exact f9 hk|exact jBC hk|exact tu hk|exact Vb rfl hk|exact K9 rfl hk)):A:=h hk
structure W (B:Prop):Prop where
 x:B
theorem r {A B:Prop}(hk:B)(h:W B→A:=by intro hk;(repeat (first|(refine GQ.y ?_;refine Q.y ?_)|refine Q.go ?_|(refine GQ.g ?_;refine Q.gq ?_)|(refine GQ.s ?_;refine Q.st ?_)|(refine GQ.g ?_;refine Q.gd ?_)|refine Q.ct rfl ?_|refine Q.cf rfl ?_));(first|(refine GQ.a ?_;refine Q.al ?_;exact hk.x)|exact hk.x)):A:=h ⟨hk⟩
theorem rd {A B:Prop}(hk:B)(h:W B→A:=by intro hk;(repeat (first|(refine qQ ?_;refine N.tn ?_)|refine D.endA ?_|refine Q.dy rfl rfl rfl ?_|refine Q.dp rfl rfl rfl ?_|refine D.end_ ?_|refine Q.endH ?_|(refine D.e rfl rfl rfl ?_;(first|refine S.gskip1 rfl ?_|refine S.gskip rfl ?_|refine S.y (Y.gskipU rfl) ?_);refine qQ ?_;refine N.tn ?_)|refine Q.dT rfl rfl rfl ?_|refine Q.dF rfl rfl rfl ?_|(refine D.e rfl rfl rfl ?_;(refine GQ.s ?_;refine Q.st ?_);refine qQ ?_;refine N.tn ?_)));(first|(refine D.e rfl rfl rfl ?_;refine GQ.a ?_;refine Q.al ?_;exact hk.x)|exact hk.x)):A:=h ⟨hk⟩
end Q
theorem qY.from2 {L:HL}{b o m c l sz:Nat}{cs:List Value}(h:qY L (some ⟨b,o,none⟩) m sz cs)(h1:l≤m)(h2:m≤c):qY L (some ⟨b,if c=l then o else o+l*sz,none⟩) (m - l) sz (cs.drop (l*sz)):=by
 rcases h.2 with h0|⟨b',o',e,r⟩
 ·exact ⟨by rw[jE,h.1,Nat.sub_mul],.inl zo⟩
 ·cases e;exact qY.from r h.1 h1 h2
class KU (a:OA)(L:HL)(t sz m c:outParam Nat)(cs:outParam (List Value))(L0:outParam (HL)):Prop where
 ent:qi L (slO t sz a m c cs::L0)
instance KU.here {a:OA}{t sz m c:Nat}{cs:List Value}{L:HL}:KU a (slO t sz a m c cs::L) t sz m c cs L:=⟨kZ _⟩
instance (priority :=low) KU.there {a:OA} {t sz m c:Nat} {cs:List Value} {B:HP} {L L0:HL} [h:KU a L t sz m c cs L0]:KU a (B::L) t sz m c cs (B::L0):=⟨(h.ent.cons).trans (qi.perm (.swap _ _ _))⟩
section
variable {P : Program} {n : Nat} {ops rest : List Oper} {cd : Code} {Q : vm} {f : vL} {t sz m c : Nat} {cs : List Value} {L L0 L1 : HL} {M : OM}
theorem wF (a:OA)[h:KU a L t sz m c cs L0][h1:xw L0 M L1](hk:∀M',qV M M'→qI M' a m sz cs→swp P n cd Q f (qp M'::L1)):swp P n cd Q f L:=
 vh h.ent (nG hk)
theorem qR (a:OA)[h:KU a L t sz m c cs L0][h1:xw L0 M L1](hk:∀M',qV M M'→qI M' a m sz cs→qq P n ops rest Q f (qp M'::L1)):qq P n ops rest Q f L:=
 qo h.ent (JC hk)
end
section
variable {P : Program} {n : Nat} {ops rest : List Oper} {Q : vm} {f : vL} {L : HL}
variable {d : Tmp} {ty : TypeId} {pos : String} {af : Array Edge}
end
def ZT (t:Nat)(xs:List (OA×Nat×List Value)):HP:=yA (xs.map λx=>slO t 1 x.1 x.2.2.length x.2.1 x.2.2)
theorem l7 {t:Nat}{L:HL}:qi L (ZT t []::L):=qi.shut_all (L:=[])
theorem jDh {t:Nat}{p q:List (OA×Nat×List Value)}{x:OA×Nat×List Value}{L:HL}:qi (ZT t (p++x::q)::L) (slO t 1 x.1 x.2.2.length x.2.1 x.2.2::ZT t (p++q)::L):=by
 refine qi.open_all.trans ?_;rw[jq,jL];refine (qi.app (qi.perm List.perm_middle)).trans ?_;rw[List.cons_append,←jq];exact qi.shut_all.cons
theorem jES {t:Nat}{p q:List (OA×Nat×List Value)}{x:OA×Nat×List Value}{L:HL}:qi (slO t 1 x.1 x.2.2.length x.2.1 x.2.2::ZT t (p++q)::L) (ZT t (p++x::q)::L):=by
 refine (qi.cons qi.open_all).trans ?_;refine qi.trans ?_ qi.shut_all;rw[jq,jq,jL];exact qi.app (qi.perm List.perm_middle.symm) (L:=_::(_++_))
theorem jAE {t m c:Nat}{a:OA}{cs:List Value}{xs:List (OA×Nat×List Value)}{L:HL}(hm:m=cs.length):qi (slO t 1 a m c cs::ZT t xs::L) (ZT t (xs++[(a,c,cs)])::L):=by
 subst hm;have:=jES (t:=t) (p:=xs) (q:=[]) (x:=(a,c,cs)) (L:=L)
 simpa using this
theorem jAF {t k c:Nat}{a:OA}{cs:List Value}{p q:List (OA×Nat×List Value)}{L:HL}(hk:k=cs.length):qi (ZT t (p++(a,c,cs)::q)::L) (slO t 1 a k c cs::ZT t (p++q)::L):=by
 subst hk;exact jDh (x:=(a,c,cs))
section
variable {P : Program} {n : Nat} {ops rest : List Oper} {Q : vm} {f : vL} {L : HL}
variable {d : Tmp} {ty : TypeId} {pos : String} {af : Array Edge}
theorem Y.mf {A:HL}{fn:Fn}{fs cs:Array Operand}{fl cl:List Value}(hf:xJ f fs.toList=some fl)(hc:xJ f cs.toList=some cl):qk P n ops ⟨some d,.makeFunc fn fs cs,ty,pos,af,none⟩ f A (.func fn fl.toArray cl.toArray):=by
 refine Y.of (λa w s=> ?_);have e1:fs.map a.eval=fl.toArray:=by obtain ⟨l⟩:=fs;simp[Qz s hf]
 have e2:cs.map a.eval=cl.toArray:=by obtain ⟨l⟩:=cs;simp[Qz s hc]
 simp[execOp,Instr.makeFunc,e1,e2]
theorem S.callF {dd:Option Tmp}{x:Operand}{g:FuncId}{xs:Array Operand}{ats:Array TypeId}{fs args cs:List Value}{L1 L2:HL}{R:Value→HL→Prop}[he:qj P g](hv:ev f x=some (.func (.func g) fs.toArray cs.toArray))
  (hx:xJ f xs.toList=some args) (hc:qh P g (fs++args++cs) L1 R) (hL:qi L (L1++L2)) (hk:∀v L',R v L'→qq P n ops rest Q (XB f dd v) (L'++L2)):
  qq P n ops (⟨dd,.call ⟨.value x,xs,ats⟩,ty,pos,af,none⟩::rest) Q f L:=by
 intro ok F a w s t;simp only[wA,List.all_cons,jF] at ok;refine wpList_plain rfl λK hK=> ?_
 have hr:(execOp a.eval ⟨dd,.call ⟨.value x,xs,ats⟩,ty,pos,af,none⟩).run P w=.ok (.enter g (fs++args++cs).toArray) w:=by
  have:xs.map a.eval=args.toArray:=by
   obtain ⟨xl⟩:=xs
   simp[Qz s hx]
  simp[execOp,resolve,Deferred.ofValue,invoke,this,he.run,s.eval hv]
 simp only[Oper.wp,hr,Oper.upon];have H1:=hL w F t;rw[ju] at H1;refine (hc (L2++F) w H1).mono ?_;rintro e w' ⟨v,L',rfl,t',r⟩;exact hK _ _ (hk v L' r ok.2 F _ _ (s.put ok.1 v) (by rwa [ju]))
theorem S.crF {x:Operand}{g:FuncId}{xs:Array Operand}{ats:Array TypeId}{fs args cs:List Value}{R:Value→HL→Prop}[he:qj P g](hv:ev f x=some (.func (.func g) fs.toArray cs.toArray))
  (hx:xJ f xs.toList=some args) (hc:qh P g (fs++args++cs) L R) (hk:∀v L',R v L'→qq P n ops rest Q (upd f d v) L'):
  qq P n ops (⟨some d,.call ⟨.value x,xs,ats⟩,ty,pos,af,none⟩::rest) Q f L:=
 S.callF (dd:=some d) (L1:=L) (L2:=[]) hv hx hc (by simpa using kZ L) (λv L' r=>by simpa[XB] using hk v L' r)
end
section
variable {κ α : Type} {g : κ → Value} {rr : α → Value}
def itP (g:κ→Value)(rr:α→Value)(m:List (κ×α))(vis:List Nat)(x:Array MapEntry×Nat):Prop:=
 zf g rr m x.1.toList x.2∧vis.Nodup∧∀i∈vis,i<m.length
def bS (g:κ→Value)(rr:α→Value)(b r:Nat)(m:List (κ×α))(vis:List Nat):HP:=
 d9 λx:Array MapEntry×Nat=>yA [wT (itP g rr m vis x),pt b (.map x.1 x.2),pt r (.mapIter (some b) x.2 ((vis.map λi=>(x.1[i]!).born).toArray) x.2)]
end
class KQ (r:Nat)(L:HL){κ α:outParam Type}(g:outParam (κ→Value))(rr:outParam (α→Value))(b:outParam Nat)(m:outParam (List (κ×α)))(vis:outParam (List Nat))(L':outParam (HP→HL)):Prop where
 at_:∃R,L.Perm (bS g rr b r m vis::R)∧∀x,(x::R).Perm (L' x)
instance KQ.here {κ α:Type}{r b:Nat}{g:κ→Value}{rr:α→Value}{m:List (κ×α)}{vis:List Nat}{L:HL}:KQ r (bS g rr b r m vis::L) g rr b m vis (λx=>x::L):=⟨L,.refl _,λ_=>.refl _⟩
instance (priority :=low) KQ.there {κ α:Type} {r b:Nat} {g:κ→Value} {rr:α→Value} {m:List (κ×α)} {vis:List Nat} {A:HP} {L:HL} {L':HP→HL} [h:KQ r L g rr b m vis L']:KQ r (A::L) g rr b m vis (λx=>A::L' x):=by
 obtain ⟨R,h1,h2⟩:=h.at_;exact ⟨A::R,(h1.cons A).trans (.swap _ _ _),λx=>List.Perm.trans (.swap _ _ _) ((h2 x).cons A)⟩
section
variable {κ α : Type} {g : κ → Value} {rr : α → Value} {m : List (κ × α)} {vis : List Nat}
theorem Y0 {b r:Nat}{L:HL}{x:Array MapEntry×Nat}(h:itP g rr m vis x):qi (pt b (.map x.1 x.2)::pt r (.mapIter (some b) x.2 ((vis.map λi=>(x.1[i]!).born).toArray) x.2)::L) (bS g rr b r m vis::L):=
 qi.trans (qi.shut_pure h) (qi.trans (qi.shut_all (L:=[_,_,_])) (qi.shut_ex (P:=λx:Array MapEntry×Nat=>yA [wT (itP g rr m vis x),pt b (.map x.1 x.2),pt r (.mapIter (some b) x.2 ((vis.map λi=>(x.1[i]!).born).toArray) x.2)]) x))
theorem St.it_open {w:World}{b r:Nat}{L:HL}(H:St w (bS g rr b r m vis::L)):∃x,itP g rr m vis x∧St w (pt b (.map x.1 x.2)::pt r (.mapIter (some b) x.2 ((vis.map λi=>(x.1[i]!).born).toArray) x.2)::L):=by
 obtain ⟨x,H⟩:=St.open_ex H;have H:=qi.open_all (L:=[_,_,_]) (M:=L) w [] (by simpa using H);obtain ⟨h,H⟩:=St.open_pure (by simpa using H);exact ⟨x,h,H⟩
theorem QU {b r:Nat}{L:HL}:qi (bS g rr b r m vis::L) (VX g rr b m::L):=λw F H=>by
 obtain ⟨x,h,H⟩:=St.it_open (L:=L++F) H;refine St.mp_shut (es:=x.1) (clock:=x.2) h.1 ?_;exact (St.perm (.swap _ _ _) H).tail
theorem KQ.open_ {r b:Nat}{L F:HL}{L':HP→HL}(h:KQ r L g rr b m vis L'){w:World}(H:St w (L++F)):∃R x,itP g rr m vis x∧St w (pt b (.map x.1 x.2)::pt r (.mapIter (some b) x.2 ((vis.map λi=>(x.1[i]!).born).toArray) x.2)::(R++F))∧∀y w,St w (y::(R++F))→St w (L' y++F):=by
 obtain ⟨R,p1,p2⟩:=h.at_;have H1:St w (bS g rr b r m vis::(R++F)):=by simpa using St.perm (p1.append_right F) H
 obtain ⟨x,k,H2⟩:=St.it_open H1;exact ⟨R,x,k,H2,λx w H=>St.perm ((p2 x).append_right F) (by simpa using H)⟩
theorem fe {es:Array MapEntry}{clock:Nat}(h:zf g rr m es.toList clock){i:Nat}(hi:i<m.length):∃(e:MapEntry) (p:κ×α),es.toList[i]? =some e∧m[i]? =some p∧es[i]! =e∧e.key=g p.1∧e.val=rr p.2:=by
 have hl:es.toList.length=m.length:=by have:=jj List.length h.1;simpa using this
 have hi':i<es.toList.length:=by omega
 refine ⟨es.toList[i],m[i],jY hi',jY hi,by simp[getElem!_def,show i<es.size by simpa using hi'],?_⟩;have:=jj (λl=>l[i]?) h.1
 simp[hi,show i<es.size by simpa using hi'] at this
 simpa using this
theorem jDf {es:Array MapEntry}{clock:Nat}(h:zf g rr m es.toList clock){i j:Nat}(hi:i<es.size)(hj:j<es.size)(e:(es[i]!).born=(es[j]!).born):i=j:=by
 have h3:=h.2.2.1;rw[List.pairwise_map] at h3;rw[List.pairwise_iff_getElem] at h3;have gi:es[i]! =es.toList[i]'(by simpa using hi):=by simp[getElem!_def,hi]
 have gj:es[j]! =es.toList[j]'(by simpa using hj):=by simp[getElem!_def,hj]
 rw[gi,gj] at e
 rcases Nat.lt_trichotomy i j with h|h|h
 ·have:=h3 i j (by simpa using hi) (by simpa using hj) h;omega
 ·exact h
 ·have:=h3 j i (by simpa using hj) (by simpa using hi) h;omega
end
section
variable {κ α : Type} {g : κ → Value} {rr : α → Value} {m : List (κ × α)} {vis : List Nat}
variable {P : Program} {n : Nat} {ops rest : List Oper} {Q : vm} {f : vL} {L : HL}
variable {d : Tmp} {ty : TypeId} {pos : String} {af : Array Edge}
theorem S.rg {x:Operand}{t kt e:TypeId}{b:Nat}{L':HP→HL}[h:Vm P t kt e][hm:zI b L g rr m L'](hx:ev f x=some (.map (some b)))
  (hk:∀r,qq P n ops rest Q (upd f d (.pointer (some ⟨r,0,none⟩))) (L' (bS g rr b r m []))):qq P n ops (⟨some d,.range t x,ty,pos,af,none⟩::rest) Q f L:=by
 refine vF (R:=λv L1=>∃r,v=.pointer (some ⟨r,0,none⟩)∧L1=L' (bS g rr b r m [])) (λF a w s t0=> ?_) (by rintro _ _ ⟨r,rfl,rfl⟩;exact hk r);obtain ⟨R,es,clock,hes,H,hback⟩:=hm.open_ t0;have hb:=St.pt_read H;have hget:(getObj b).run P w=.ok (.map es clock) w:=MapKept.run_getObj_map hb;refine ⟨.pointer (some ⟨w.heap.size,0,none⟩),{w with heap:=w.heap.push (.mapIter (some b) clock #[] clock)},_,?_,?_,_,rfl,rfl⟩
 ·simp[execOp,Instr.range,s.eval hx,h.und,hget,newObj,Sem.run]
 ·refine hback _ _ ?_
  have H2:=St.pt_new (w':={w with heap:=w.heap.push (.mapIter (some b) clock #[] clock)}) H rfl;have H3:=Y0 (g:=g) (rr:=rr) (m:=m) (vis:=[]) (b:=b) (r:=w.heap.size) (L:=R) (x:=(es,clock)) ⟨hes,by simp,by simp⟩ {w with heap:=w.heap.push (.mapIter (some b) clock #[] clock)} F;exact H3 (St.perm (.swap _ _ _) H2)
theorem jAj {es:Array MapEntry}{clock:Nat}(h:itP g rr m vis (es,clock))(h0:(leftOf es ((vis.map λi=>(es[i]!).born).toArray)).size=0):∀i,i<m.length→i∈vis:=by
 intro i hi;obtain ⟨e,p,h1,h2,h3,h4⟩:=fe h.1 hi;have hl:es.size=m.length:=by have:=jj List.length h.1.1;simpa using this
 have:leftOf es ((vis.map λi=>(es[i]!).born).toArray)= #[]:=Array.eq_empty_of_size_eq_zero h0;unfold leftOf at this;rw[Array.filter_eq_empty_iff] at this;have hm:e∈es:=by rw[←Array.mem_toList_iff];exact jn h1
 have:=this e hm
 simp at this
 obtain ⟨j,hj,hb⟩:=this;have:j=i:=jDf h.1 (by have:=h.2.2 j hj;show j<es.size;omega) (by show i<es.size;omega) (by rw[hb,h3])
 rwa [←this]
theorem jAi {es:Array MapEntry}{clock:Nat}(h:itP g rr m vis (es,clock)){e:MapEntry}(he:e∈(leftOf es ((vis.map λi=>(es[i]!).born).toArray)).toList):∃(i:Nat) (p:κ×α),i<m.length∧m[i]? =some p∧i∉vis∧es[i]! =e∧e.key=g p.1∧e.val=rr p.2:=by
 have hl:es.size=m.length:=by have:=jj List.length h.1.1;simpa using this
 unfold leftOf at he;simp only[Array.toList_filter,jB,Array.mem_toList_iff] at he;obtain ⟨h1,h2⟩:=he;obtain ⟨i,hi,rfl⟩:=Array.mem_iff_getElem.1 h1;obtain ⟨e,p,g1,g2,g3,g4,g5⟩:=fe h.1 (i:=i) zo;have ge:es[i]=e:=by rw[←g3];simp[getElem!_def,hi]
 refine ⟨i,p,by omega,g2,λhv=> ?_,by rw[ge];exact g3,by rw[ge];exact g4,by rw[ge];exact g5⟩
 simp at h2
 exact h2 i hv (by rw[g3,ge])
theorem S.nx {x:Operand}{r b:Nat}{L':HP→HL}[hm:KQ r L g rr b m vis L'](hx:ev f x=some (.pointer (some ⟨r,0,none⟩)))
  (hend:(∀i,i<m.length→i∈vis)→qq P n ops rest Q (upd f d (.tuple #[.bool false])) (L' (bS g rr b r m vis)))
  (hstep:∀i p,m[i]? =some p→i∉vis→qq P n ops rest Q (upd f d (.tuple #[.bool true,g p.1,rr p.2])) (L' (bS g rr b r m (vis++[i])))):
  qq P n ops (⟨some d,.next x false,ty,pos,af,none⟩::rest) Q f L:=by
 refine vF (R:=λv L1=>((∀i,i<m.length→i∈vis)∧v=.tuple #[.bool false]∧L1=L' (bS g rr b r m vis))∨∃i p,m[i]? =some p∧i∉vis∧v=.tuple #[.bool true,g p.1,rr p.2]∧L1=L' (bS g rr b r m (vis++[i])))
  (fun F a w s t0 => ?_) (by
   rintro _ _ (⟨h,rfl,rfl⟩|⟨i,p,h1,h2,rfl,rfl⟩)
   ·exact hend h
   ·exact hstep i p h1 h2)
 obtain ⟨R,⟨es,clock⟩,hes,H,hback⟩:=hm.open_ t0;have hb:=St.pt_read H;have hr:=St.pt_read (St.perm (.swap _ _ _) H);dsimp only at hb hr
 rcases run_next_at (P:=P) w ty r b clock clock _ es clock hr hb (λx hx=>hes.1.2.2.2 x hx) (jz _) with ⟨h0,hrun⟩|⟨e,he,w1,hw1,hrun⟩
 ·refine ⟨_,w,_,by simp[execOp,s.eval hx,hrun],hback _ _ (Y0 (L:=R) hes w F H),.inl ⟨jAj hes h0,rfl,rfl⟩⟩
 ·obtain ⟨i,p,h1,h2,h3,h4,h5,h6⟩:=jAi hes he
  refine ⟨.tuple #[.bool true,g p.1,rr p.2],@ChangeMaps.setBlock w1 r (.mapIter (some b) clock (((vis.map λi=>(es[i]!).born).toArray).push e.born) clock),_,by simp[execOp,s.eval hx,hrun,h5,h6],hback _ _ ?_,.inr ⟨i,p,h2,h3,rfl,rfl⟩⟩;have e1:w1.heap=w.heap:=by rcases hw1 with rfl|rfl<;>rfl
  have e2:SX.ext w1=SX.ext w:=by rcases hw1 with rfl|rfl<;>rfl
  have hlt:r<w.heap.size:=(kj.1 hr).1;have H1:=St.perm (.swap _ _ _) H;have H2:=St.pt_write (w':= @ChangeMaps.setBlock w1 r (.mapIter (some b) clock (((vis.map λi=>(es[i]!).born).toArray).push e.born) clock)) (o':=.mapIter (some b) clock (((vis.map λi=>(es[i]!).born).toArray).push e.born) clock) H1
   (by simp[ChangeMaps.setBlock,e1,hlt]) (λk hk=>by simp[ChangeMaps.setBlock,e1,Ne.symm hk]) (by rw[←e2];rfl)
  have e3:((vis.map λi=>(es[i]!).born).toArray).push e.born=((vis++[i]).map λi=>(es[i]!).born).toArray:=by simp[h4]
  rw[e3] at H2 ⊢;exact Y0 (L:=R) (x:=(es,clock)) ⟨hes.1,List.nodup_append.2 ⟨hes.2.1,by simp,λx hx y hy=>by simp at hy;subst hy;exact λe=>h3 (e▸hx)⟩,λj hj=>by
   rcases jy.1 hj with hj|hj
   ·exact hes.2.2 j hj
   ·simp at hj;omega⟩ _ F (St.perm (.swap _ _ _) H2)
theorem Y.en {A:HL}{x:Operand}{r b i:Nat}{p:κ×α}{A':HP→HL}[hm:KQ r A g rr b m (vis++[i]) A'](hx:ev f x=some (.pointer (some ⟨r,0,none⟩)))(hp:m[i]? =some p):
  qk P n ops ⟨some d,.entry x,ty,pos,af,none⟩ f A (.tuple #[g p.1,rr p.2]):=by
 refine Y.of' λa w F s t0=> ?_
 obtain ⟨R,⟨es,clock⟩,hes,H,hback⟩:=hm.open_ t0;have hb:=St.pt_read H;have hr:=St.pt_read (St.perm (.swap _ _ _) H);dsimp only at hb hr;obtain ⟨e,p',g1,g2,g3,g4,g5⟩:=fe hes.1 (i:=i) (jm.1 hp).1;rw[hp] at g2;obtain rfl:=Option.some.inj g2;have hr2:w.heap[r]? =some (.mapIter (some b) clock (((vis.map λi=>(es[i]!).born).toArray).push e.born) clock):=by rw[hr];simp[g3]
 have:=run_entry_at (P:=P) w r b clock _ es clock e hr2 hb (jn g1) ((hes.1.2.2.1.imp λh=>Nat.ne_of_lt h))
 simp[execOp,s.eval hx,this,g4,g5]
end
theorem jBp {vis:List Nat}{k:Nat}(h1:vis.Nodup)(h2:∀i∈vis,i<k)(h3:∀i,i<k→i∈vis):vis.Perm (List.range k):=
 (List.perm_ext_iff_of_nodup h1 List.nodup_range).2 λi=>by simp;exact ⟨h2 i,h3 i⟩
theorem bu {α:Type}(l:List α):∀k,k≤l.length→(List.range k).filterMap (λi=>l[i]?)=l.take k
 |0,_=>by simp
 |k+1,h=>by
  have hk:k<l.length:=by omega
  rw[List.range_succ,List.filterMap_append,bu l k zo,List.take_add_one]
  simp[hk]
theorem tG {α β:Type}(f:α→β)(l:List α):(List.range l.length).filterMap (λi=>(l[i]?).map f)=l.map f:=by
 have:=bu (l.map f) l.length (by simp);rw[kK (by simp)] at this;rw[←this]
 congr 1
 funext i
 simp
theorem X0 {α β:Type}(f:α→β){l:List α}{vis:List Nat}(h1:vis.Nodup)(h2:∀i∈vis,i<l.length)(h3:∀i,i<l.length→i∈vis):(vis.filterMap λi=>(l[i]?).map f).Perm (l.map f):=by
 rw[←tG f l];exact (jBp h1 h2 h3).filterMap _
theorem jDP {vis:List Nat}{k:Nat}(h1:vis.Nodup)(h2:∀i∈vis,i<k):vis.length≤k:=by
 have:=List.Nodup.length_le_of_subset (l₂:=List.range k) h1 (λi hi=>by simpa using h2 i hi)
 simpa using this
theorem K6 {vis:List Nat}{k i:Nat}(h1:vis.Nodup)(h2:∀i∈vis,i<k)(hi:i<k)(hn:i∉vis):(vis++[i]).Nodup∧(∀j∈vis++[i],j<k)∧vis.length<k:=by
 have hnd:(vis++[i]).Nodup:=List.nodup_append.2 ⟨h1,by simp,λx hx y hy=>by simp at hy;subst hy;exact λe=>hn (e▸hx)⟩;have hlt:∀j∈vis++[i],j<k:=λj hj=>by
  rcases jy.1 hj with hj|hj
  ·exact h2 j hj
  ·simp at hj;omega
 have:=jDP hnd hlt
 simp at this
 exact ⟨hnd,hlt,by omega⟩
theorem St.ent {w:World}{L L':HL}(h:qi L L')(H:St w L):St w L':=by simpa using h w [] (by simpa using H)
theorem St.rot2 {w:World}{A B C D:HP}{F:HL}(H:St w (A::B::C::D::F)):St w ([C,D]++(A::B::F)):=St.perm (by simpa using (List.perm_append_comm (l₁:=[A,B]) (l₂:=[C,D])).append_right F) H
theorem qh.mk' {P:Program}{g:FuncId}{args:List Value}{L:HL}{R:Value→HL→Prop}(h:∀F w,St w (L++F)→Calls P g args.toArray w λe w'=>∃v L',e=.returned v∧St w' (L'++F)∧R v L'):qh P g args L R:=h
theorem qh.run {P:Program}{g:FuncId}{args:List Value}{L:HL}{R:Value→HL→Prop}(h:qh P g args L R){F:HL}{w:World}(t:St w (L++F)):Calls P g args.toArray w λe w'=>∃v L',e=.returned v∧St w' (L'++F)∧R v L':=h F w t
theorem WR {i j:Nat}(h:¬i=j):Nat.beq i j=false:=by cases hb:Nat.beq i j with|false=>rfl|true=>exact absurd (Nat.eq_of_beq_eq_true hb) h
def WF (r:Option Nat):Fence:={Fence.wide with round:=r}
theorem jER {r:Option Nat}{m:Nat}{P:Program}{f:FuncId}{args:Array Value}{w:World}{R:Ending→World→Prop}(h:Calls P f args w R):CallsIn (WF r) m P f args w R:=callsIn_wide.2 h
theorem jF3 {r:Option Nat}{m:Nat}{P:Program}{row:String}{args:Array Value}{w:World}{R:Value→World→Prop}(h:Rows P row args w R):RowsIn (WF r) m P row args w R:=λc cs _=>
 let ⟨v,w',hr,hs⟩:=h c cs;⟨v,w',hr,stepsIn_wide.2 hs⟩
section
variable {P : Program} {n : Nat} {r : Option Nat} {ops rest : List Oper} {Q : vm} {f : vL} {L : HL}
def zN (P:Program)(n:Nat)(r:Option Nat)(ops rest:List Oper)(Q:vm)(f:vL)(L:HL):Prop:=
 wA n rest=true→∀F a w,KO n a f→St w (L++F)→wpListIn (WF r) 0 P ops.toArray (lift n F Q) rest a w
theorem wW (h:Q .normal f L):zN P n r ops [] Q f L:=λ_ F a w s t=>wpListIn_nil ⟨f,L,s,t,h⟩
theorem Je {L':HL}(h:qi L L')(H:zN P n r ops rest Q f L'):zN P n r ops rest Q f L:=λok F a w s t=>H ok F a w s (h w F t)
theorem qy {o:Oper}(hd:∀c,o.op≠.defer c)(hg:o.guard=none)(h:qq P n ops [o] (qL (λf L=>zN P n r ops rest Q f L) (λ_ _ _=>False)) f L):zN P n r ops (o::rest) Q f L:=by
  intro ok F a w s t;simp only[wA,List.all_cons,jF] at ok;have h2:=h (by simp[wA,ok.1]) F a w s t;simp only[wpList,Region.wanted,hg,if_true] at h2;refine wpListIn_plain hg λK hK=>⟨λ_ _=>trivial,?_⟩
  rw[Oper.semAt_eq _ _ _ hd]
  rcases h2 with h2|⟨_,a',w',f',L',_,_,q⟩
  · unfold Oper.wp at h2
    have key:∀a w,lift n F (qL (λf L=>zN P n r ops rest Q f L) (λ_ _ _=>False)) .normal a w→K a w:=by
      rintro a w ⟨f,L,s,t,q⟩;exact hK _ _ (q ok.2 F a w s t)
    generalize (execOp a.eval o).run P w=res at*
    cases res with
    |ok m w'=>
      cases m<;>simp only[Oper.upon,Oper.uponIn] at h2 ⊢ <;>first
        |exact key _ _ h2
        |exact h2.elim
        |exact h2
        | (refine ⟨fun h => by simp [WF, Fence.wide] at h, (jER (Calls.mono h2 fun e w'' he => ?_))⟩
           cases e with
           |returned u=>exact key _ _ he
           |panicked c=>obtain ⟨_,_,_,_,q⟩:=he;exact q.elim
           |outgrown=>obtain ⟨_,_,_,_,_,_,q⟩:=he;exact q.elim)
        |exact ⟨λh=>by simp[WF,Fence.wide] at h,jF3 (Rows.mono h2 λ_ _ he=>key _ _ he)⟩
    |halt x w'=>cases x<;>simp only[Oper.upon,Oper.uponIn] at h2 ⊢ <;>first|exact h2.elim|(obtain ⟨_,_,_,_,q⟩:=h2;exact q.elim)
  · exact q.elim
theorem Jy {id:Nat}{l:List Oper}(h:zN P n none l l Q f L):swp P n (.region id l.toArray false) Q f L:=λok F a w s t=>
 (wpIn_wide (n:=0)).1 (wpIn_region_lit (h (by simpa[xZ] using ok) F a w s t))
def QD (P:Program)(l:Nat)(x:Value)(L L':HL):Prop:=∀F w,St w (L++F)→YieldAt Fence.wide 0 P l #[x] w λe w'=>e=.returned (.bool true)∧St w' (L'++F)
theorem QD.frame {l:Nat}{x:Value}{L L' R:HL}(h:QD P l x L L'):QD P l x (L++R) (L'++R):=λF w t=>by
 rw[ju] at t ⊢;exact h (R++F) w t
theorem KH {d:Tmp}{ty:TypeId}{pos:String}{af:Array Edge}{y x:Operand}{ats:Array TypeId}{l:Nat}{v:Value}{L':HL}(hy:ev f y=some (.func (.yield l) #[] #[]))(hx:ev f x=some v)(hr:QD P l v L L')
  (hk:zN P n none ops rest Q (upd f d (.bool true)) L'):zN P n none ops (⟨some d,.call ⟨.value y,#[x],ats⟩,ty,pos,af,none⟩::rest) Q f L:=by
 intro ok F a w s t;simp only[wA,List.all_cons,jF] at ok;obtain ⟨fn,tmps,assign,body,hrun,hround⟩:=hr F w t;refine wpListIn_plain rfl λK hK=>⟨λ_ _=>trivial,?_⟩
 have e:(Oper.semAt (WF none).round a.eval (⟨some d,.call ⟨.value y,#[x],ats⟩,ty,pos,af,none⟩:Oper)).run P w=.ok (.round l fn tmps assign body) w:=by
  rw[Oper.semAt_eq _ _ _ (λc h=>by cases h)]
  simp[execOp,resolve,Deferred.ofValue,invoke,s.eval hy,s.eval hx,hrun]
 rw[e];refine ⟨λh=>by simp[WF,Fence.wide] at h,RoundIn.mono hround ?_⟩;rintro e w' ⟨rfl,t'⟩;exact hK _ _ (hk ok.2 F _ _ (s.put (d:=some d) ok.1 _) t')
end
theorem xB {P:Program}{n m:Nat}{f:vL}{L F:HL}{x y:Code}{K:vL→HL→Prop}{Q:Exit→Act→World→Prop}{a:Act}{w:World}(h:swp P n x (qL K (λ_ _ _=>False)) f L)(ok:xZ n x=true)(s:KO n a f)(t:St w (L++F))
  (hk:∀f L a w,K f L→KO n a f→St w (L++F)→y.wpIn Fence.wide m P Q a w):(Code.seq x y).wpIn Fence.wide m P Q a w:=by
 refine wpIn_seq (wpIn_mono (wpIn_wide.2 (h ok F a w s t)) ?_);rintro e a w ⟨f,L,s,t,q⟩
 cases e<;>first|exact hk _ _ _ _ q s t|exact q.elim
theorem yq {P:Program}{n:Nat}{r:Option Nat}{f:vL}{L F:HL}{id:Nat}{l:List Oper}{K:vL→HL→Prop}{Q:Exit→Act→World→Prop}{a:Act}{w:World}(h:zN P n r l l (qL K (λ_ _ _=>False)) f L)(ok:wA n l=true)(s:KO n a f)(t:St w (L++F))
  (hk:∀f L a w,K f L→KO n a f→St w (L++F)→Q .normal a w):(Code.region id l.toArray false).wpIn (WF r) 0 P Q a w:=by
 refine wpIn_mono (wpIn_region_lit (h ok F a w s t)) ?_;rintro e a w ⟨f,L,s,t,q⟩
 cases e<;>first|exact hk _ _ _ _ q s t|exact q.elim
theorem K5 {P:Program}{g:Operand}{ps:Array Tmp}{assign body:Code}{Q:Exit→Act→World→Prop}{a:Act}{w:World}{gf:FuncId}{lb:List Value}[hen:qj P gf](hg:a.eval g=.func (.func gf) #[] lb.toArray)
  (h : ∀ fn,Calls P gf (.func (.yield (w.heap.size + 1)) #[] #[] :: lb).toArray ((w.alloc (.deferred (some []))).alloc (.loop { state := .ready,pending := none,fn,tmps := a.tmps,params := ps,assign,body,defers := w.heap.size }))
   λe w3=>∃v w4,e=.returned v∧(Instr.endLoop (w.heap.size+1)).run P w3=.ok none w4∧Q .normal {a with defers:=[{target:=.collected w.heap.size,args:= #[]}]++a.defers} w4):
  (Code.rangeFunc g ps assign body).wpIn Fence.wide 1 P Q a w:=by
 refine wpIn_rangeFunc λfn _=> ?_
 have h0:=h fn;have he:=run_enterLoop_outer (P:=P) (w:=w) fn a.tmps ps assign body;generalize ((w.alloc (.deferred (some []))).alloc (.loop {state:=.ready,pending:=none,fn,tmps:=a.tmps,params:=ps,assign,body,defers:=w.heap.size}))=W1 at*;refine ⟨w.heap.size+1,[{target:=.collected w.heap.size,args:= #[]}],W1,{target:=.fn (.func gf) lb.toArray,args:= #[.func (.yield (w.heap.size+1)) #[] #[]]},W1,gf,(.func (.yield (w.heap.size+1)) #[] #[]::lb).toArray,W1,?_,?_,?_,?_,?_,?_⟩
 ·exact he
 ·simp only[resolve,hg,rangeCall,Deferred.ofValue,Sem.run_bind,Sem.run_pure,Result.andThen_ok,List.map_toArray,jL,kC,Array.empty_append];simp[Act.eval]
 ·exact λ_ _=>trivial
 ·have:(#[Value.func (.yield (w.heap.size+1)) #[] #[]]++lb.toArray)=(.func (.yield (w.heap.size+1)) #[] #[]::lb).toArray:=by simp
  simp only[invoke,this,hen.run]
 ·intro h;simp[Fence.wide] at h
 ·refine callsIn_wide.2 (h0.mono ?_)
  rintro e w3 ⟨v,w4,rfl,h1,h2⟩;exact ⟨none,w4,h1,h2⟩
def Wo {κ:Type}(P:Program)(g:FuncId)(lb:List Value)(enc:κ→Value)(N:Nat)(S:List κ→Prop)(A A':HL):Prop:=
 ∀(l:Nat) (J:List κ→HP),(∀pre x,pre.length<N→QD P l (enc x) [J pre] [J (pre++[x])])→qh P g (.func (.yield l) #[] #[]::lb) (J []::A) (λ_ L'=>∃ks,S ks∧L'=J ks::A')
theorem Wo.mono {κ:Type}{P:Program}{g:FuncId}{lb:List Value}{enc:κ→Value}{N N':Nat}{Sp:List κ→Prop}{A A':HL}(h:Wo P g lb enc N Sp A A')(hN:N≤N'):Wo P g lb enc N' Sp A A':=λl J hJ=>h l J λpre x hp=>hJ pre x zo
end Go.SX
namespace Go.Proofs.YtlnfjhiphlfkjaaGreatDoor
noncomputable abbrev _root_.Go.kY:=Tryz.prog
open Go Go.SX
instance hu2 :zi kY 2:=⟨_,Tryz.runUnderlying2⟩
instance it2 :Jp kY 2 .i64:=⟨Tryz.runUnderlying2,Tryz.underlying2⟩
instance ty3 :Ty kY 3 false 1 [.int .i64 0] 8:=⟨⟨Tryz.t3,_,by kernel_rfl,rfl,rfl,rfl,rfl⟩,Tryz.isAgg3,Tryz.sizeOf3,⟨_,Tryz.zeroValue3,rfl⟩,⟨_,Tryz.typeInfo3,rfl⟩⟩
instance hu3 :zi kY 3:=⟨_,Tryz.runUnderlying3⟩
instance it3 :Jp kY 3 .i64:=⟨Tryz.runUnderlying3,Tryz.underlying3⟩
instance ty4 :Ty kY 4 false 1 [.bool false] 1:=⟨⟨Tryz.t4,_,by kernel_rfl,rfl,rfl,rfl,rfl⟩,Tryz.isAgg4,Tryz.sizeOf4,⟨_,Tryz.zeroValue4,rfl⟩,⟨_,Tryz.typeInfo4,rfl⟩⟩
instance bt4 :rp kY 4:=⟨Tryz.underlying4⟩
instance ty5 :Ty kY 5 false 1 [.int .u8 0] 1:=⟨⟨Tryz.t5,_,by kernel_rfl,rfl,rfl,rfl,rfl⟩,Tryz.isAgg5,Tryz.sizeOf5,⟨_,Tryz.zeroValue5,rfl⟩,⟨_,Tryz.typeInfo5,rfl⟩⟩
instance hu5 :zi kY 5:=⟨_,Tryz.runUnderlying5⟩
instance it5 :Jp kY 5 .u8:=⟨Tryz.runUnderlying5,Tryz.underlying5⟩
instance ty9 :Ty kY 9 false 1 [.string ⟨#[]⟩] 16:=⟨⟨Tryz.t9,_,by kernel_rfl,rfl,rfl,rfl,rfl⟩,Tryz.isAgg9,Tryz.sizeOf9,⟨_,Tryz.zeroValue9,rfl⟩,⟨_,Tryz.typeInfo9,rfl⟩⟩
instance st9 :Wn kY 9:=⟨Tryz.runUnderlying9,Tryz.underlying9⟩
instance ty21 :Ty kY 21 false 1 [.int .i32 0] 4:=⟨⟨Tryz.t21,_,by kernel_rfl,rfl,rfl,rfl,rfl⟩,Tryz.isAgg21,Tryz.sizeOf21,⟨_,Tryz.zeroValue21,rfl⟩,⟨_,Tryz.typeInfo21,rfl⟩⟩
instance hu21 :zi kY 21:=⟨_,Tryz.runUnderlying21⟩
instance it21 :Jp kY 21 .i32:=⟨Tryz.runUnderlying21,Tryz.underlying21⟩
instance hu22 :zi kY 22:=⟨_,Tryz.runUnderlying22⟩
instance ty24 :Ty kY 24 false 1 [.pointer none] 8:=⟨⟨Tryz.t24,_,by kernel_rfl,rfl,rfl,rfl,rfl⟩,Tryz.isAgg24,Tryz.sizeOf24,⟨_,Tryz.zeroValue24,rfl⟩,⟨_,Tryz.typeInfo24,rfl⟩⟩
instance pt24 :KT kY 24 64:=⟨Tryz.runUnderlying24,Tryz.underlying24⟩
instance ty25 :Ty kY 25 false 1 [.int .i64 0] 8:=⟨⟨Tryz.t25,_,by kernel_rfl,rfl,rfl,rfl,rfl⟩,Tryz.isAgg25,Tryz.sizeOf25,⟨_,Tryz.zeroValue25,rfl⟩,⟨_,Tryz.typeInfo25,rfl⟩⟩
instance hu25 :zi kY 25:=⟨_,Tryz.runUnderlying25⟩
instance it25 :Jp kY 25 .i64:=⟨Tryz.runUnderlying25,Tryz.underlying25⟩
instance pt28 :KT kY 28 81:=⟨Tryz.runUnderlying28,Tryz.underlying28⟩
instance ty31 :Ty kY 31 false 1 [.int .u64 0] 8:=⟨⟨Tryz.t31,_,by kernel_rfl,rfl,rfl,rfl,rfl⟩,Tryz.isAgg31,Tryz.sizeOf31,⟨_,Tryz.zeroValue31,rfl⟩,⟨_,Tryz.typeInfo31,rfl⟩⟩
instance hu31 :zi kY 31:=⟨_,Tryz.runUnderlying31⟩
instance it31 :Jp kY 31 .u64:=⟨Tryz.runUnderlying31,Tryz.underlying31⟩
instance sl32 :wS kY 32 47:=⟨Tryz.runUnderlying32,Tryz.underlying32⟩
instance ty34 :Ty kY 34 false 1 [.slice none 0 0] 24:=⟨⟨Tryz.t34,_,by kernel_rfl,rfl,rfl,rfl,rfl⟩,Tryz.isAgg34,Tryz.sizeOf34,⟨_,Tryz.zeroValue34,rfl⟩,⟨_,Tryz.typeInfo34,rfl⟩⟩
instance sl34 :wS kY 34 5:=⟨Tryz.runUnderlying34,Tryz.underlying34⟩
instance ty36 :Ty kY 36 false 1 [.slice none 0 0] 24:=⟨⟨Tryz.t36,_,by kernel_rfl,rfl,rfl,rfl,rfl⟩,Tryz.isAgg36,Tryz.sizeOf36,⟨_,Tryz.zeroValue36,rfl⟩,⟨_,Tryz.typeInfo36,rfl⟩⟩
instance sl36 :wS kY 36 21:=⟨Tryz.runUnderlying36,Tryz.underlying36⟩
instance ty38 :Ty kY 38 true 2 [.int .u64 0,.slice none 0 0] 32:=⟨⟨Tryz.t38,_,by kernel_rfl,rfl,rfl,rfl,rfl⟩,Tryz.isAgg38,Tryz.sizeOf38,⟨_,Tryz.zeroValue38,rfl⟩,⟨_,Tryz.typeInfo38,rfl⟩⟩
instance ss38 :zR kY 38 [(0,1,false),(1,1,false)]:=⟨_,Tryz.runUnderlying38,rfl,λi off sz ag h=>match i,h with
 |0,h=>by simp only[jh,jg,jk,js] at h;obtain ⟨rfl,rfl,rfl⟩:=h;exact ⟨_,rfl,rfl,Tryz.sizeOf31,Tryz.isAgg31⟩
 |1,h=>by simp only[jh,jg,jk,js] at h;obtain ⟨rfl,rfl,rfl⟩:=h;exact ⟨_,rfl,rfl,Tryz.sizeOf36,Tryz.isAgg36⟩
 |(i+2),h=>by simp at h⟩
instance ty39 :Ty kY 39 false 1 [.slice none 0 0] 24:=⟨⟨Tryz.t39,_,by kernel_rfl,rfl,rfl,rfl,rfl⟩,Tryz.isAgg39,Tryz.sizeOf39,⟨_,Tryz.zeroValue39,rfl⟩,⟨_,Tryz.typeInfo39,rfl⟩⟩
instance sl39 :wS kY 39 38:=⟨Tryz.runUnderlying39,Tryz.underlying39⟩
instance ty40 :Ty kY 40 false 1 [.slice none 0 0] 24:=⟨⟨Tryz.t40,_,by kernel_rfl,rfl,rfl,rfl,rfl⟩,Tryz.isAgg40,Tryz.sizeOf40,⟨_,Tryz.zeroValue40,rfl⟩,⟨_,Tryz.typeInfo40,rfl⟩⟩
instance sl40 :wS kY 40 3:=⟨Tryz.runUnderlying40,Tryz.underlying40⟩
instance ty41 :Ty kY 41 false 1 [.slice none 0 0] 24:=⟨⟨Tryz.t41,_,by kernel_rfl,rfl,rfl,rfl,rfl⟩,Tryz.isAgg41,Tryz.sizeOf41,⟨_,Tryz.zeroValue41,rfl⟩,⟨_,Tryz.typeInfo41,rfl⟩⟩
instance sl41 :wS kY 41 113:=⟨Tryz.runUnderlying41,Tryz.underlying41⟩
instance ty43 :Ty kY 43 true 16 [.int .u8 0,.int .u64 0,.int .u64 0,.int .u64 0,.int .u64 0,.int .u64 0,.int .u64 0,.int .u64 0,.int .i64 0,.int .i64 0,.int .i64 0,.int .i64 0,.slice none 0 0,.slice none 0 0,.slice none 0 0,.slice none 0 0] 192:=⟨⟨Tryz.t43,_,by kernel_rfl,rfl,rfl,rfl,rfl⟩,Tryz.isAgg43,Tryz.sizeOf43,⟨_,Tryz.zeroValue43,rfl⟩,⟨_,Tryz.typeInfo43,rfl⟩⟩
instance ss43 :zR kY 43 [(0,1,false),(1,1,false),(2,1,false),(3,1,false),(4,1,false),(5,1,false),(6,1,false),(7,1,false),(8,1,false),(9,1,false),(10,1,false),(11,1,false),(12,1,false),(13,1,false),(14,1,false),(15,1,false)]:=⟨_,Tryz.runUnderlying43,rfl,λi off sz ag h=>match i,h with
 |0,h=>by simp only[jh,jg,jk,js] at h;obtain ⟨rfl,rfl,rfl⟩:=h;exact ⟨_,rfl,rfl,Tryz.sizeOf5,Tryz.isAgg5⟩
 |1,h=>by simp only[jh,jg,jk,js] at h;obtain ⟨rfl,rfl,rfl⟩:=h;exact ⟨_,rfl,rfl,Tryz.sizeOf31,Tryz.isAgg31⟩
 |2,h=>by simp only[jh,jg,jk,js] at h;obtain ⟨rfl,rfl,rfl⟩:=h;exact ⟨_,rfl,rfl,Tryz.sizeOf31,Tryz.isAgg31⟩
 |3,h=>by simp only[jh,jg,jk,js] at h;obtain ⟨rfl,rfl,rfl⟩:=h;exact ⟨_,rfl,rfl,Tryz.sizeOf31,Tryz.isAgg31⟩
 |4,h=>by simp only[jh,jg,jk,js] at h;obtain ⟨rfl,rfl,rfl⟩:=h;exact ⟨_,rfl,rfl,Tryz.sizeOf31,Tryz.isAgg31⟩
 |5,h=>by simp only[jh,jg,jk,js] at h;obtain ⟨rfl,rfl,rfl⟩:=h;exact ⟨_,rfl,rfl,Tryz.sizeOf31,Tryz.isAgg31⟩
 |6,h=>by simp only[jh,jg,jk,js] at h;obtain ⟨rfl,rfl,rfl⟩:=h;exact ⟨_,rfl,rfl,Tryz.sizeOf31,Tryz.isAgg31⟩
 |7,h=>by simp only[jh,jg,jk,js] at h;obtain ⟨rfl,rfl,rfl⟩:=h;exact ⟨_,rfl,rfl,Tryz.sizeOf31,Tryz.isAgg31⟩
 |8,h=>by simp only[jh,jg,jk,js] at h;obtain ⟨rfl,rfl,rfl⟩:=h;exact ⟨_,rfl,rfl,Tryz.sizeOf3,Tryz.isAgg3⟩
 |9,h=>by simp only[jh,jg,jk,js] at h;obtain ⟨rfl,rfl,rfl⟩:=h;exact ⟨_,rfl,rfl,Tryz.sizeOf3,Tryz.isAgg3⟩
 |10,h=>by simp only[jh,jg,jk,js] at h;obtain ⟨rfl,rfl,rfl⟩:=h;exact ⟨_,rfl,rfl,Tryz.sizeOf25,Tryz.isAgg25⟩
 |11,h=>by simp only[jh,jg,jk,js] at h;obtain ⟨rfl,rfl,rfl⟩:=h;exact ⟨_,rfl,rfl,Tryz.sizeOf3,Tryz.isAgg3⟩
 |12,h=>by simp only[jh,jg,jk,js] at h;obtain ⟨rfl,rfl,rfl⟩:=h;exact ⟨_,rfl,rfl,Tryz.sizeOf40,Tryz.isAgg40⟩
 |13,h=>by simp only[jh,jg,jk,js] at h;obtain ⟨rfl,rfl,rfl⟩:=h;exact ⟨_,rfl,rfl,Tryz.sizeOf39,Tryz.isAgg39⟩
 |14,h=>by simp only[jh,jg,jk,js] at h;obtain ⟨rfl,rfl,rfl⟩:=h;exact ⟨_,rfl,rfl,Tryz.sizeOf36,Tryz.isAgg36⟩
 |15,h=>by simp only[jh,jg,jk,js] at h;obtain ⟨rfl,rfl,rfl⟩:=h;exact ⟨_,rfl,rfl,Tryz.sizeOf41,Tryz.isAgg41⟩
 |(i+16),h=>by simp at h⟩
instance ty47 :Ty kY 47 true 3 [.int .i64 0,.int .i64 0,.slice none 0 0] 40:=⟨⟨Tryz.t47,_,by kernel_rfl,rfl,rfl,rfl,rfl⟩,Tryz.isAgg47,Tryz.sizeOf47,⟨_,Tryz.zeroValue47,rfl⟩,⟨_,Tryz.typeInfo47,rfl⟩⟩
instance ss47 :zR kY 47 [(0,1,false),(1,1,false),(2,1,false)]:=⟨_,Tryz.runUnderlying47,rfl,λi off sz ag h=>match i,h with
 |0,h=>by simp only[jh,jg,jk,js] at h;obtain ⟨rfl,rfl,rfl⟩:=h;exact ⟨_,rfl,rfl,Tryz.sizeOf3,Tryz.isAgg3⟩
 |1,h=>by simp only[jh,jg,jk,js] at h;obtain ⟨rfl,rfl,rfl⟩:=h;exact ⟨_,rfl,rfl,Tryz.sizeOf3,Tryz.isAgg3⟩
 |2,h=>by simp only[jh,jg,jk,js] at h;obtain ⟨rfl,rfl,rfl⟩:=h;exact ⟨_,rfl,rfl,Tryz.sizeOf34,Tryz.isAgg34⟩
 |(i+3),h=>by simp at h⟩
instance ty61 :Ty kY 61 true 2 [.int .i64 0,.bool false] 16:=⟨⟨Tryz.t61,_,by kernel_rfl,rfl,rfl,rfl,rfl⟩,Tryz.isAgg61,Tryz.sizeOf61,⟨_,Tryz.zeroValue61,rfl⟩,⟨_,Tryz.typeInfo61,rfl⟩⟩
instance ss61 :zR kY 61 [(0,1,false),(1,1,false)]:=⟨_,Tryz.runUnderlying61,rfl,λi off sz ag h=>match i,h with
 |0,h=>by simp only[jh,jg,jk,js] at h;obtain ⟨rfl,rfl,rfl⟩:=h;exact ⟨_,rfl,rfl,Tryz.sizeOf3,Tryz.isAgg3⟩
 |1,h=>by simp only[jh,jg,jk,js] at h;obtain ⟨rfl,rfl,rfl⟩:=h;exact ⟨_,rfl,rfl,Tryz.sizeOf4,Tryz.isAgg4⟩
 |(i+2),h=>by simp at h⟩
instance ty62 :Ty kY 62 false 1 [.map none] 8:=⟨⟨Tryz.t62,_,by kernel_rfl,rfl,rfl,rfl,rfl⟩,Tryz.isAgg62,Tryz.sizeOf62,⟨_,Tryz.zeroValue62,rfl⟩,⟨_,Tryz.typeInfo62,rfl⟩⟩
instance mt62 :Vm kY 62 9 124:=⟨Tryz.runUnderlying62,Tryz.underlying62⟩
instance ty64 :Ty kY 64 true 4 [.int .i64 0,.bool false,.int .i64 0,.map none] 32:=⟨⟨Tryz.t64,_,by kernel_rfl,rfl,rfl,rfl,rfl⟩,Tryz.isAgg64,Tryz.sizeOf64,⟨_,Tryz.zeroValue64,rfl⟩,⟨_,Tryz.typeInfo64,rfl⟩⟩
instance ss64 :zR kY 64 [(0,2,true),(2,1,false),(3,1,false)]:=⟨_,Tryz.runUnderlying64,rfl,λi off sz ag h=>match i,h with
 |0,h=>by simp only[jh,jg,jk,js] at h;obtain ⟨rfl,rfl,rfl⟩:=h;exact ⟨_,rfl,rfl,Tryz.sizeOf61,Tryz.isAgg61⟩
 |1,h=>by simp only[jh,jg,jk,js] at h;obtain ⟨rfl,rfl,rfl⟩:=h;exact ⟨_,rfl,rfl,Tryz.sizeOf3,Tryz.isAgg3⟩
 |2,h=>by simp only[jh,jg,jk,js] at h;obtain ⟨rfl,rfl,rfl⟩:=h;exact ⟨_,rfl,rfl,Tryz.sizeOf62,Tryz.isAgg62⟩
 |(i+3),h=>by simp at h⟩
instance ty65 :Ty kY 65 false 1 [.pointer none] 8:=⟨⟨Tryz.t65,_,by kernel_rfl,rfl,rfl,rfl,rfl⟩,Tryz.isAgg65,Tryz.sizeOf65,⟨_,Tryz.zeroValue65,rfl⟩,⟨_,Tryz.typeInfo65,rfl⟩⟩
instance pt65 :KT kY 65 131:=⟨Tryz.runUnderlying65,Tryz.underlying65⟩
instance ty68 :Ty kY 68 false 1 [.slice none 0 0] 24:=⟨⟨Tryz.t68,_,by kernel_rfl,rfl,rfl,rfl,rfl⟩,Tryz.isAgg68,Tryz.sizeOf68,⟨_,Tryz.zeroValue68,rfl⟩,⟨_,Tryz.typeInfo68,rfl⟩⟩
instance sl68 :wS kY 68 9:=⟨Tryz.runUnderlying68,Tryz.underlying68⟩
instance ty72 :Ty kY 72 false 1 [.pointer none] 8:=⟨⟨Tryz.t72,_,by kernel_rfl,rfl,rfl,rfl,rfl⟩,Tryz.isAgg72,Tryz.sizeOf72,⟨_,Tryz.zeroValue72,rfl⟩,⟨_,Tryz.typeInfo72,rfl⟩⟩
instance pt72 :KT kY 72 159:=⟨Tryz.runUnderlying72,Tryz.underlying72⟩
instance ty73 :Ty kY 73 false 1 [.slice none 0 0] 24:=⟨⟨Tryz.t73,_,by kernel_rfl,rfl,rfl,rfl,rfl⟩,Tryz.isAgg73,Tryz.sizeOf73,⟨_,Tryz.zeroValue73,rfl⟩,⟨_,Tryz.typeInfo73,rfl⟩⟩
instance sl73 :wS kY 73 34:=⟨Tryz.runUnderlying73,Tryz.underlying73⟩
instance ty75 :Ty kY 75 true 2 [.slice none 0 0,.slice none 0 0] 48:=⟨⟨Tryz.t75,_,by kernel_rfl,rfl,rfl,rfl,rfl⟩,Tryz.isAgg75,Tryz.sizeOf75,⟨_,Tryz.zeroValue75,rfl⟩,⟨_,Tryz.typeInfo75,rfl⟩⟩
instance ss75 :zR kY 75 [(0,1,false),(1,1,false)]:=⟨_,Tryz.runUnderlying75,rfl,λi off sz ag h=>match i,h with
 |0,h=>by simp only[jh,jg,jk,js] at h;obtain ⟨rfl,rfl,rfl⟩:=h;exact ⟨_,rfl,rfl,Tryz.sizeOf34,Tryz.isAgg34⟩
 |1,h=>by simp only[jh,jg,jk,js] at h;obtain ⟨rfl,rfl,rfl⟩:=h;exact ⟨_,rfl,rfl,Tryz.sizeOf73,Tryz.isAgg73⟩
 |(i+2),h=>by simp at h⟩
instance ty79 :Ty kY 79 false 1 [.pointer none] 8:=⟨⟨Tryz.t79,_,by kernel_rfl,rfl,rfl,rfl,rfl⟩,Tryz.isAgg79,Tryz.sizeOf79,⟨_,Tryz.zeroValue79,rfl⟩,⟨_,Tryz.typeInfo79,rfl⟩⟩
instance pt79 :KT kY 79 169:=⟨Tryz.runUnderlying79,Tryz.underlying79⟩
instance ty81 :Ty kY 81 true 4 [.pointer none,.pointer none,.pointer none,.bool false] 32:=⟨⟨Tryz.t81,_,by kernel_rfl,rfl,rfl,rfl,rfl⟩,Tryz.isAgg81,Tryz.sizeOf81,⟨_,Tryz.zeroValue81,rfl⟩,⟨_,Tryz.typeInfo81,rfl⟩⟩
instance ss81 :zR kY 81 [(0,1,false),(1,1,false),(2,1,false),(3,1,false)]:=⟨_,Tryz.runUnderlying81,rfl,λi off sz ag h=>match i,h with
 |0,h=>by simp only[jh,jg,jk,js] at h;obtain ⟨rfl,rfl,rfl⟩:=h;exact ⟨_,rfl,rfl,Tryz.sizeOf65,Tryz.isAgg65⟩
 |1,h=>by simp only[jh,jg,jk,js] at h;obtain ⟨rfl,rfl,rfl⟩:=h;exact ⟨_,rfl,rfl,Tryz.sizeOf79,Tryz.isAgg79⟩
 |2,h=>by simp only[jh,jg,jk,js] at h;obtain ⟨rfl,rfl,rfl⟩:=h;exact ⟨_,rfl,rfl,Tryz.sizeOf72,Tryz.isAgg72⟩
 |3,h=>by simp only[jh,jg,jk,js] at h;obtain ⟨rfl,rfl,rfl⟩:=h;exact ⟨_,rfl,rfl,Tryz.sizeOf4,Tryz.isAgg4⟩
 |(i+4),h=>by simp at h⟩
instance ty82 :Ty kY 82 true 16 [.int .u8 0,.int .u64 0,.int .u64 0,.int .u64 0,.int .u64 0,.int .u64 0,.int .u64 0,.int .u64 0,.int .i64 0,.int .i64 0,.int .i64 0,.int .i64 0,.slice none 0 0,.slice none 0 0,.slice none 0 0,.slice none 0 0] 192:=⟨⟨Tryz.t82,_,by kernel_rfl,rfl,rfl,rfl,rfl⟩,Tryz.isAgg82,Tryz.sizeOf82,⟨_,Tryz.zeroValue82,rfl⟩,⟨_,Tryz.typeInfo82,rfl⟩⟩
instance ss82 :zR kY 82 [(0,1,false),(1,1,false),(2,1,false),(3,1,false),(4,1,false),(5,1,false),(6,1,false),(7,1,false),(8,1,false),(9,1,false),(10,1,false),(11,1,false),(12,1,false),(13,1,false),(14,1,false),(15,1,false)]:=⟨_,Tryz.runUnderlying82,rfl,λi off sz ag h=>match i,h with
 |0,h=>by simp only[jh,jg,jk,js] at h;obtain ⟨rfl,rfl,rfl⟩:=h;exact ⟨_,rfl,rfl,Tryz.sizeOf5,Tryz.isAgg5⟩
 |1,h=>by simp only[jh,jg,jk,js] at h;obtain ⟨rfl,rfl,rfl⟩:=h;exact ⟨_,rfl,rfl,Tryz.sizeOf31,Tryz.isAgg31⟩
 |2,h=>by simp only[jh,jg,jk,js] at h;obtain ⟨rfl,rfl,rfl⟩:=h;exact ⟨_,rfl,rfl,Tryz.sizeOf31,Tryz.isAgg31⟩
 |3,h=>by simp only[jh,jg,jk,js] at h;obtain ⟨rfl,rfl,rfl⟩:=h;exact ⟨_,rfl,rfl,Tryz.sizeOf31,Tryz.isAgg31⟩
 |4,h=>by simp only[jh,jg,jk,js] at h;obtain ⟨rfl,rfl,rfl⟩:=h;exact ⟨_,rfl,rfl,Tryz.sizeOf31,Tryz.isAgg31⟩
 |5,h=>by simp only[jh,jg,jk,js] at h;obtain ⟨rfl,rfl,rfl⟩:=h;exact ⟨_,rfl,rfl,Tryz.sizeOf31,Tryz.isAgg31⟩
 |6,h=>by simp only[jh,jg,jk,js] at h;obtain ⟨rfl,rfl,rfl⟩:=h;exact ⟨_,rfl,rfl,Tryz.sizeOf31,Tryz.isAgg31⟩
 |7,h=>by simp only[jh,jg,jk,js] at h;obtain ⟨rfl,rfl,rfl⟩:=h;exact ⟨_,rfl,rfl,Tryz.sizeOf31,Tryz.isAgg31⟩
 |8,h=>by simp only[jh,jg,jk,js] at h;obtain ⟨rfl,rfl,rfl⟩:=h;exact ⟨_,rfl,rfl,Tryz.sizeOf3,Tryz.isAgg3⟩
 |9,h=>by simp only[jh,jg,jk,js] at h;obtain ⟨rfl,rfl,rfl⟩:=h;exact ⟨_,rfl,rfl,Tryz.sizeOf3,Tryz.isAgg3⟩
 |10,h=>by simp only[jh,jg,jk,js] at h;obtain ⟨rfl,rfl,rfl⟩:=h;exact ⟨_,rfl,rfl,Tryz.sizeOf25,Tryz.isAgg25⟩
 |11,h=>by simp only[jh,jg,jk,js] at h;obtain ⟨rfl,rfl,rfl⟩:=h;exact ⟨_,rfl,rfl,Tryz.sizeOf3,Tryz.isAgg3⟩
 |12,h=>by simp only[jh,jg,jk,js] at h;obtain ⟨rfl,rfl,rfl⟩:=h;exact ⟨_,rfl,rfl,Tryz.sizeOf40,Tryz.isAgg40⟩
 |13,h=>by simp only[jh,jg,jk,js] at h;obtain ⟨rfl,rfl,rfl⟩:=h;exact ⟨_,rfl,rfl,Tryz.sizeOf39,Tryz.isAgg39⟩
 |14,h=>by simp only[jh,jg,jk,js] at h;obtain ⟨rfl,rfl,rfl⟩:=h;exact ⟨_,rfl,rfl,Tryz.sizeOf36,Tryz.isAgg36⟩
 |15,h=>by simp only[jh,jg,jk,js] at h;obtain ⟨rfl,rfl,rfl⟩:=h;exact ⟨_,rfl,rfl,Tryz.sizeOf41,Tryz.isAgg41⟩
 |(i+16),h=>by simp at h⟩
instance ty83 :Ty kY 83 false 1 [.slice none 0 0] 24:=⟨⟨Tryz.t83,_,by kernel_rfl,rfl,rfl,rfl,rfl⟩,Tryz.isAgg83,Tryz.sizeOf83,⟨_,Tryz.zeroValue83,rfl⟩,⟨_,Tryz.typeInfo83,rfl⟩⟩
instance sl83 :wS kY 83 82:=⟨Tryz.runUnderlying83,Tryz.underlying83⟩
instance hu88 :zi kY 88:=⟨_,Tryz.runUnderlying88⟩
instance it88 :Jp kY 88 .u64:=⟨Tryz.runUnderlying88,Tryz.underlying88⟩
instance ty92 :Ty kY 92 false 1 [.slice none 0 0] 24:=⟨⟨Tryz.t92,_,by kernel_rfl,rfl,rfl,rfl,rfl⟩,Tryz.isAgg92,Tryz.sizeOf92,⟨_,Tryz.zeroValue92,rfl⟩,⟨_,Tryz.typeInfo92,rfl⟩⟩
instance sl92 :wS kY 92 176:=⟨Tryz.runUnderlying92,Tryz.underlying92⟩
instance ty97 :Ty kY 97 true 5 [.slice none 0 0,.slice none 0 0,.slice none 0 0,.slice none 0 0,.slice none 0 0] 120:=⟨⟨Tryz.t97,_,by kernel_rfl,rfl,rfl,rfl,rfl⟩,Tryz.isAgg97,Tryz.sizeOf97,⟨_,Tryz.zeroValue97,rfl⟩,⟨_,Tryz.typeInfo97,rfl⟩⟩
instance ss97 :zR kY 97 [(0,1,false),(1,1,false),(2,1,false),(3,1,false),(4,1,false)]:=⟨_,Tryz.runUnderlying97,rfl,λi off sz ag h=>match i,h with
 |0,h=>by simp only[jh,jg,jk,js] at h;obtain ⟨rfl,rfl,rfl⟩:=h;exact ⟨_,rfl,rfl,Tryz.sizeOf83,Tryz.isAgg83⟩
 |1,h=>by simp only[jh,jg,jk,js] at h;obtain ⟨rfl,rfl,rfl⟩:=h;exact ⟨_,rfl,rfl,Tryz.sizeOf83,Tryz.isAgg83⟩
 |2,h=>by simp only[jh,jg,jk,js] at h;obtain ⟨rfl,rfl,rfl⟩:=h;exact ⟨_,rfl,rfl,Tryz.sizeOf92,Tryz.isAgg92⟩
 |3,h=>by simp only[jh,jg,jk,js] at h;obtain ⟨rfl,rfl,rfl⟩:=h;exact ⟨_,rfl,rfl,Tryz.sizeOf83,Tryz.isAgg83⟩
 |4,h=>by simp only[jh,jg,jk,js] at h;obtain ⟨rfl,rfl,rfl⟩:=h;exact ⟨_,rfl,rfl,Tryz.sizeOf92,Tryz.isAgg92⟩
 |(i+5),h=>by simp at h⟩
instance ty106 :Ty kY 106 true 2 [.slice none 0 0,.bool false] 32:=⟨⟨Tryz.t106,_,by kernel_rfl,rfl,rfl,rfl,rfl⟩,Tryz.isAgg106,Tryz.sizeOf106,⟨_,Tryz.zeroValue106,rfl⟩,⟨_,Tryz.typeInfo106,rfl⟩⟩
instance ss106 :zR kY 106 [(0,1,false),(1,1,false)]:=⟨_,Tryz.runUnderlying106,rfl,λi off sz ag h=>match i,h with
 |0,h=>by simp only[jh,jg,jk,js] at h;obtain ⟨rfl,rfl,rfl⟩:=h;exact ⟨_,rfl,rfl,Tryz.sizeOf34,Tryz.isAgg34⟩
 |1,h=>by simp only[jh,jg,jk,js] at h;obtain ⟨rfl,rfl,rfl⟩:=h;exact ⟨_,rfl,rfl,Tryz.sizeOf4,Tryz.isAgg4⟩
 |(i+2),h=>by simp at h⟩
instance ty113 :Ty kY 113 true 3 [.int .u64 0,.int .u64 0,.slice none 0 0] 40:=⟨⟨Tryz.t113,_,by kernel_rfl,rfl,rfl,rfl,rfl⟩,Tryz.isAgg113,Tryz.sizeOf113,⟨_,Tryz.zeroValue113,rfl⟩,⟨_,Tryz.typeInfo113,rfl⟩⟩
instance ss113 :zR kY 113 [(0,1,false),(1,1,false),(2,1,false)]:=⟨_,Tryz.runUnderlying113,rfl,λi off sz ag h=>match i,h with
 |0,h=>by simp only[jh,jg,jk,js] at h;obtain ⟨rfl,rfl,rfl⟩:=h;exact ⟨_,rfl,rfl,Tryz.sizeOf31,Tryz.isAgg31⟩
 |1,h=>by simp only[jh,jg,jk,js] at h;obtain ⟨rfl,rfl,rfl⟩:=h;exact ⟨_,rfl,rfl,Tryz.sizeOf31,Tryz.isAgg31⟩
 |2,h=>by simp only[jh,jg,jk,js] at h;obtain ⟨rfl,rfl,rfl⟩:=h;exact ⟨_,rfl,rfl,Tryz.sizeOf36,Tryz.isAgg36⟩
 |(i+3),h=>by simp at h⟩
instance ty120 :Ty kY 120 true 8 [.int .u64 0,.int .u64 0,.int .u64 0,.int .u64 0,.int .i64 0,.slice none 0 0,.slice none 0 0,.slice none 0 0] 112:=⟨⟨Tryz.t120,_,by kernel_rfl,rfl,rfl,rfl,rfl⟩,Tryz.isAgg120,Tryz.sizeOf120,⟨_,Tryz.zeroValue120,rfl⟩,⟨_,Tryz.typeInfo120,rfl⟩⟩
instance ss120 :zR kY 120 [(0,1,false),(1,1,false),(2,1,false),(3,1,false),(4,1,false),(5,1,false),(6,1,false),(7,1,false)]:=⟨_,Tryz.runUnderlying120,rfl,λi off sz ag h=>match i,h with
 |0,h=>by simp only[jh,jg,jk,js] at h;obtain ⟨rfl,rfl,rfl⟩:=h;exact ⟨_,rfl,rfl,Tryz.sizeOf31,Tryz.isAgg31⟩
 |1,h=>by simp only[jh,jg,jk,js] at h;obtain ⟨rfl,rfl,rfl⟩:=h;exact ⟨_,rfl,rfl,Tryz.sizeOf31,Tryz.isAgg31⟩
 |2,h=>by simp only[jh,jg,jk,js] at h;obtain ⟨rfl,rfl,rfl⟩:=h;exact ⟨_,rfl,rfl,Tryz.sizeOf31,Tryz.isAgg31⟩
 |3,h=>by simp only[jh,jg,jk,js] at h;obtain ⟨rfl,rfl,rfl⟩:=h;exact ⟨_,rfl,rfl,Tryz.sizeOf31,Tryz.isAgg31⟩
 |4,h=>by simp only[jh,jg,jk,js] at h;obtain ⟨rfl,rfl,rfl⟩:=h;exact ⟨_,rfl,rfl,Tryz.sizeOf3,Tryz.isAgg3⟩
 |5,h=>by simp only[jh,jg,jk,js] at h;obtain ⟨rfl,rfl,rfl⟩:=h;exact ⟨_,rfl,rfl,Tryz.sizeOf40,Tryz.isAgg40⟩
 |6,h=>by simp only[jh,jg,jk,js] at h;obtain ⟨rfl,rfl,rfl⟩:=h;exact ⟨_,rfl,rfl,Tryz.sizeOf40,Tryz.isAgg40⟩
 |7,h=>by simp only[jh,jg,jk,js] at h;obtain ⟨rfl,rfl,rfl⟩:=h;exact ⟨_,rfl,rfl,Tryz.sizeOf40,Tryz.isAgg40⟩
 |(i+8),h=>by simp at h⟩
instance ty124 :Ty kY 124 false 1 [.pointer none] 8:=⟨⟨Tryz.t124,_,by kernel_rfl,rfl,rfl,rfl,rfl⟩,Tryz.isAgg124,Tryz.sizeOf124,⟨_,Tryz.zeroValue124,rfl⟩,⟨_,Tryz.typeInfo124,rfl⟩⟩
instance pt124 :KT kY 124 126:=⟨Tryz.runUnderlying124,Tryz.underlying124⟩
instance ty126 :Ty kY 126 true 2 [.slice none 0 0,.int .i64 0] 32:=⟨⟨Tryz.t126,_,by kernel_rfl,rfl,rfl,rfl,rfl⟩,Tryz.isAgg126,Tryz.sizeOf126,⟨_,Tryz.zeroValue126,rfl⟩,⟨_,Tryz.typeInfo126,rfl⟩⟩
instance ss126 :zR kY 126 [(0,1,false),(1,1,false)]:=⟨_,Tryz.runUnderlying126,rfl,λi off sz ag h=>match i,h with
 |0,h=>by simp only[jh,jg,jk,js] at h;obtain ⟨rfl,rfl,rfl⟩:=h;exact ⟨_,rfl,rfl,Tryz.sizeOf34,Tryz.isAgg34⟩
 |1,h=>by simp only[jh,jg,jk,js] at h;obtain ⟨rfl,rfl,rfl⟩:=h;exact ⟨_,rfl,rfl,Tryz.sizeOf3,Tryz.isAgg3⟩
 |(i+2),h=>by simp at h⟩
instance ty128 :Ty kY 128 false 1 [.map none] 8:=⟨⟨Tryz.t128,_,by kernel_rfl,rfl,rfl,rfl,rfl⟩,Tryz.isAgg128,Tryz.sizeOf128,⟨_,Tryz.zeroValue128,rfl⟩,⟨_,Tryz.typeInfo128,rfl⟩⟩
instance mt128 :Vm kY 128 31 148:=⟨Tryz.runUnderlying128,Tryz.underlying128⟩
instance ty129 :Ty kY 129 false 1 [.map none] 8:=⟨⟨Tryz.t129,_,by kernel_rfl,rfl,rfl,rfl,rfl⟩,Tryz.isAgg129,Tryz.sizeOf129,⟨_,Tryz.zeroValue129,rfl⟩,⟨_,Tryz.typeInfo129,rfl⟩⟩
instance mt129 :Vm kY 129 31 31:=⟨Tryz.runUnderlying129,Tryz.underlying129⟩
instance ty131 :Ty kY 131 true 7 [.int .i64 0,.int .i64 0,.int .u64 0,.int .u64 0,.int .u64 0,.map none,.map none] 56:=⟨⟨Tryz.t131,_,by kernel_rfl,rfl,rfl,rfl,rfl⟩,Tryz.isAgg131,Tryz.sizeOf131,⟨_,Tryz.zeroValue131,rfl⟩,⟨_,Tryz.typeInfo131,rfl⟩⟩
instance ss131 :zR kY 131 [(0,1,false),(1,1,false),(2,1,false),(3,1,false),(4,1,false),(5,1,false),(6,1,false)]:=⟨_,Tryz.runUnderlying131,rfl,λi off sz ag h=>match i,h with
 |0,h=>by simp only[jh,jg,jk,js] at h;obtain ⟨rfl,rfl,rfl⟩:=h;exact ⟨_,rfl,rfl,Tryz.sizeOf3,Tryz.isAgg3⟩
 |1,h=>by simp only[jh,jg,jk,js] at h;obtain ⟨rfl,rfl,rfl⟩:=h;exact ⟨_,rfl,rfl,Tryz.sizeOf3,Tryz.isAgg3⟩
 |2,h=>by simp only[jh,jg,jk,js] at h;obtain ⟨rfl,rfl,rfl⟩:=h;exact ⟨_,rfl,rfl,Tryz.sizeOf31,Tryz.isAgg31⟩
 |3,h=>by simp only[jh,jg,jk,js] at h;obtain ⟨rfl,rfl,rfl⟩:=h;exact ⟨_,rfl,rfl,Tryz.sizeOf31,Tryz.isAgg31⟩
 |4,h=>by simp only[jh,jg,jk,js] at h;obtain ⟨rfl,rfl,rfl⟩:=h;exact ⟨_,rfl,rfl,Tryz.sizeOf31,Tryz.isAgg31⟩
 |5,h=>by simp only[jh,jg,jk,js] at h;obtain ⟨rfl,rfl,rfl⟩:=h;exact ⟨_,rfl,rfl,Tryz.sizeOf128,Tryz.isAgg128⟩
 |6,h=>by simp only[jh,jg,jk,js] at h;obtain ⟨rfl,rfl,rfl⟩:=h;exact ⟨_,rfl,rfl,Tryz.sizeOf129,Tryz.isAgg129⟩
 |(i+7),h=>by simp at h⟩
instance pt137 :KT kY 137 139:=⟨Tryz.runUnderlying137,Tryz.underlying137⟩
instance ty139 :Ty kY 139 true 1 [.slice none 0 0] 24:=⟨⟨Tryz.t139,_,by kernel_rfl,rfl,rfl,rfl,rfl⟩,Tryz.isAgg139,Tryz.sizeOf139,⟨_,Tryz.zeroValue139,rfl⟩,⟨_,Tryz.typeInfo139,rfl⟩⟩
instance ss139 :zR kY 139 [(0,1,false)]:=⟨_,Tryz.runUnderlying139,rfl,λi off sz ag h=>match i,h with
 |0,h=>by simp only[jh,jg,jk,js] at h;obtain ⟨rfl,rfl,rfl⟩:=h;exact ⟨_,rfl,rfl,Tryz.sizeOf34,Tryz.isAgg34⟩
 |(i+1),h=>by simp at h⟩
instance ty141 :Ty kY 141 false 1 [.slice none 0 0] 24:=⟨⟨Tryz.t141,_,by kernel_rfl,rfl,rfl,rfl,rfl⟩,Tryz.isAgg141,Tryz.sizeOf141,⟨_,Tryz.zeroValue141,rfl⟩,⟨_,Tryz.typeInfo141,rfl⟩⟩
instance sl141 :wS kY 141 31:=⟨Tryz.runUnderlying141,Tryz.underlying141⟩
instance sl146 :wS kY 146 148:=⟨Tryz.runUnderlying146,Tryz.underlying146⟩
instance ty148 :Ty kY 148 false 1 [.pointer none] 8:=⟨⟨Tryz.t148,_,by kernel_rfl,rfl,rfl,rfl,rfl⟩,Tryz.isAgg148,Tryz.sizeOf148,⟨_,Tryz.zeroValue148,rfl⟩,⟨_,Tryz.typeInfo148,rfl⟩⟩
instance pt148 :KT kY 148 150:=⟨Tryz.runUnderlying148,Tryz.underlying148⟩
instance ty150 :Ty kY 150 true 9 [.int .u64 0,.int .u64 0,.int .u64 0,.int .u64 0,.int .i64 0,.slice none 0 0,.slice none 0 0,.slice none 0 0,.slice none 0 0] 136:=⟨⟨Tryz.t150,_,by kernel_rfl,rfl,rfl,rfl,rfl⟩,Tryz.isAgg150,Tryz.sizeOf150,⟨_,Tryz.zeroValue150,rfl⟩,⟨_,Tryz.typeInfo150,rfl⟩⟩
instance ss150 :zR kY 150 [(0,8,true),(8,1,false)]:=⟨_,Tryz.runUnderlying150,rfl,λi off sz ag h=>match i,h with
 |0,h=>by simp only[jh,jg,jk,js] at h;obtain ⟨rfl,rfl,rfl⟩:=h;exact ⟨_,rfl,rfl,Tryz.sizeOf120,Tryz.isAgg120⟩
 |1,h=>by simp only[jh,jg,jk,js] at h;obtain ⟨rfl,rfl,rfl⟩:=h;exact ⟨_,rfl,rfl,Tryz.sizeOf39,Tryz.isAgg39⟩
 |(i+2),h=>by simp at h⟩
instance ty159 :Ty kY 159 true 4 [.pointer none,.int .i64 0,.int .i64 0,.bool false] 32:=⟨⟨Tryz.t159,_,by kernel_rfl,rfl,rfl,rfl,rfl⟩,Tryz.isAgg159,Tryz.sizeOf159,⟨_,Tryz.zeroValue159,rfl⟩,⟨_,Tryz.typeInfo159,rfl⟩⟩
instance ss159 :zR kY 159 [(0,1,false),(1,1,false),(2,1,false),(3,1,false)]:=⟨_,Tryz.runUnderlying159,rfl,λi off sz ag h=>match i,h with
 |0,h=>by simp only[jh,jg,jk,js] at h;obtain ⟨rfl,rfl,rfl⟩:=h;exact ⟨_,rfl,rfl,Tryz.sizeOf24,Tryz.isAgg24⟩
 |1,h=>by simp only[jh,jg,jk,js] at h;obtain ⟨rfl,rfl,rfl⟩:=h;exact ⟨_,rfl,rfl,Tryz.sizeOf3,Tryz.isAgg3⟩
 |2,h=>by simp only[jh,jg,jk,js] at h;obtain ⟨rfl,rfl,rfl⟩:=h;exact ⟨_,rfl,rfl,Tryz.sizeOf3,Tryz.isAgg3⟩
 |3,h=>by simp only[jh,jg,jk,js] at h;obtain ⟨rfl,rfl,rfl⟩:=h;exact ⟨_,rfl,rfl,Tryz.sizeOf4,Tryz.isAgg4⟩
 |(i+4),h=>by simp at h⟩
instance ty167 :Ty kY 167 false 1 [.slice none 0 0] 24:=⟨⟨Tryz.t167,_,by kernel_rfl,rfl,rfl,rfl,rfl⟩,Tryz.isAgg167,Tryz.sizeOf167,⟨_,Tryz.zeroValue167,rfl⟩,⟨_,Tryz.typeInfo167,rfl⟩⟩
instance sl167 :wS kY 167 178:=⟨Tryz.runUnderlying167,Tryz.underlying167⟩
instance ty169 :Ty kY 169 true 4 [.int .i64 0,.int .i64 0,.int .u64 0,.slice none 0 0] 48:=⟨⟨Tryz.t169,_,by kernel_rfl,rfl,rfl,rfl,rfl⟩,Tryz.isAgg169,Tryz.sizeOf169,⟨_,Tryz.zeroValue169,rfl⟩,⟨_,Tryz.typeInfo169,rfl⟩⟩
instance ss169 :zR kY 169 [(0,1,false),(1,1,false),(2,1,false),(3,1,false)]:=⟨_,Tryz.runUnderlying169,rfl,λi off sz ag h=>match i,h with
 |0,h=>by simp only[jh,jg,jk,js] at h;obtain ⟨rfl,rfl,rfl⟩:=h;exact ⟨_,rfl,rfl,Tryz.sizeOf3,Tryz.isAgg3⟩
 |1,h=>by simp only[jh,jg,jk,js] at h;obtain ⟨rfl,rfl,rfl⟩:=h;exact ⟨_,rfl,rfl,Tryz.sizeOf3,Tryz.isAgg3⟩
 |2,h=>by simp only[jh,jg,jk,js] at h;obtain ⟨rfl,rfl,rfl⟩:=h;exact ⟨_,rfl,rfl,Tryz.sizeOf31,Tryz.isAgg31⟩
 |3,h=>by simp only[jh,jg,jk,js] at h;obtain ⟨rfl,rfl,rfl⟩:=h;exact ⟨_,rfl,rfl,Tryz.sizeOf167,Tryz.isAgg167⟩
 |(i+4),h=>by simp at h⟩
instance ty171 :Ty kY 171 false 1 [.pointer none] 8:=⟨⟨Tryz.t171,_,by kernel_rfl,rfl,rfl,rfl,rfl⟩,Tryz.isAgg171,Tryz.sizeOf171,⟨_,Tryz.zeroValue171,rfl⟩,⟨_,Tryz.typeInfo171,rfl⟩⟩
instance pt171 :KT kY 171 243:=⟨Tryz.runUnderlying171,Tryz.underlying171⟩
instance ty176 :Ty kY 176 true 17 [.int .i64 0,.int .u8 0,.int .u64 0,.int .u64 0,.int .u64 0,.int .u64 0,.int .u64 0,.int .u64 0,.int .u64 0,.int .i64 0,.int .i64 0,.int .i64 0,.int .i64 0,.slice none 0 0,.slice none 0 0,.slice none 0 0,.slice none 0 0] 200:=⟨⟨Tryz.t176,_,by kernel_rfl,rfl,rfl,rfl,rfl⟩,Tryz.isAgg176,Tryz.sizeOf176,⟨_,Tryz.zeroValue176,rfl⟩,⟨_,Tryz.typeInfo176,rfl⟩⟩
instance ss176 :zR kY 176 [(0,1,false),(1,16,true)]:=⟨_,Tryz.runUnderlying176,rfl,λi off sz ag h=>match i,h with
 |0,h=>by simp only[jh,jg,jk,js] at h;obtain ⟨rfl,rfl,rfl⟩:=h;exact ⟨_,rfl,rfl,Tryz.sizeOf3,Tryz.isAgg3⟩
 |1,h=>by simp only[jh,jg,jk,js] at h;obtain ⟨rfl,rfl,rfl⟩:=h;exact ⟨_,rfl,rfl,Tryz.sizeOf82,Tryz.isAgg82⟩
 |(i+2),h=>by simp at h⟩
instance ty199 :Ty kY 199 false 1 [.int .u32 0] 4:=⟨⟨Tryz.t199,_,by kernel_rfl,rfl,rfl,rfl,rfl⟩,Tryz.isAgg199,Tryz.sizeOf199,⟨_,Tryz.zeroValue199,rfl⟩,⟨_,Tryz.typeInfo199,rfl⟩⟩
instance hu199 :zi kY 199:=⟨_,Tryz.runUnderlying199⟩
instance it199 :Jp kY 199 .u32:=⟨Tryz.runUnderlying199,Tryz.underlying199⟩
instance ty235 :Ty kY 235 true 2 [.string ⟨#[]⟩,.int .i64 0] 24:=⟨⟨Tryz.t235,_,by kernel_rfl,rfl,rfl,rfl,rfl⟩,Tryz.isAgg235,Tryz.sizeOf235,⟨_,Tryz.zeroValue235,rfl⟩,⟨_,Tryz.typeInfo235,rfl⟩⟩
instance ss235 :zR kY 235 [(0,1,false),(1,1,false)]:=⟨_,Tryz.runUnderlying235,rfl,λi off sz ag h=>match i,h with
 |0,h=>by simp only[jh,jg,jk,js] at h;obtain ⟨rfl,rfl,rfl⟩:=h;exact ⟨_,rfl,rfl,Tryz.sizeOf9,Tryz.isAgg9⟩
 |1,h=>by simp only[jh,jg,jk,js] at h;obtain ⟨rfl,rfl,rfl⟩:=h;exact ⟨_,rfl,rfl,Tryz.sizeOf3,Tryz.isAgg3⟩
 |(i+2),h=>by simp at h⟩
instance at236 :ZB kY 236 23 235:=⟨Tryz.runUnderlying236,Tryz.underlying236⟩
instance ty238 :Ty kY 238 true 11 [.int .u64 0,.int .u64 0,.int .u64 0,.int .u64 0,.int .u64 0,.int .u64 0,.int .u64 0,.int .u64 0,.int .u64 0,.int .u64 0,.int .u64 0] 88:=⟨⟨Tryz.t238,_,by kernel_rfl,rfl,rfl,rfl,rfl⟩,Tryz.isAgg238,Tryz.sizeOf238,⟨_,Tryz.zeroValue238,rfl⟩,⟨_,Tryz.typeInfo238,rfl⟩⟩
instance at238 :ZB kY 238 11 31:=⟨Tryz.runUnderlying238,Tryz.underlying238⟩
instance ty243 :Ty kY 243 true 2 [.slice none 0 0,.int .i64 0] 32:=⟨⟨Tryz.t243,_,by kernel_rfl,rfl,rfl,rfl,rfl⟩,Tryz.isAgg243,Tryz.sizeOf243,⟨_,Tryz.zeroValue243,rfl⟩,⟨_,Tryz.typeInfo243,rfl⟩⟩
instance ss243 :zR kY 243 [(0,1,false),(1,1,false)]:=⟨_,Tryz.runUnderlying243,rfl,λi off sz ag h=>match i,h with
 |0,h=>by simp only[jh,jg,jk,js] at h;obtain ⟨rfl,rfl,rfl⟩:=h;exact ⟨_,rfl,rfl,Tryz.sizeOf34,Tryz.isAgg34⟩
 |1,h=>by simp only[jh,jg,jk,js] at h;obtain ⟨rfl,rfl,rfl⟩:=h;exact ⟨_,rfl,rfl,Tryz.sizeOf25,Tryz.isAgg25⟩
 |(i+2),h=>by simp at h⟩
instance pt264 :KT kY 264 61:=⟨Tryz.runUnderlying264,Tryz.underlying264⟩
instance sl288 :wS kY 288 36:=⟨Tryz.runUnderlying288,Tryz.underlying288⟩
instance ty289 :Ty kY 289 true 15 [.bool false,.bool false,.bool false,.bool false,.bool false,.bool false,.bool false,.bool false,.bool false,.bool false,.bool false,.bool false,.bool false,.bool false,.bool false] 15:=⟨⟨Tryz.t289,_,by kernel_rfl,rfl,rfl,rfl,rfl⟩,Tryz.isAgg289,Tryz.sizeOf289,⟨_,Tryz.zeroValue289,rfl⟩,⟨_,Tryz.typeInfo289,rfl⟩⟩
instance at289 :ZB kY 289 15 4:=⟨Tryz.runUnderlying289,Tryz.underlying289⟩
instance mt297 :Vm kY 297 31 4:=⟨Tryz.runUnderlying297,Tryz.underlying297⟩
instance at317 :ZB kY 317 16 199:=⟨Tryz.runUnderlying317,Tryz.underlying317⟩
instance ty333 :Ty kY 333 false 1 [.int .u64 0] 8:=⟨⟨Tryz.t333,_,by kernel_rfl,rfl,rfl,rfl,rfl⟩,Tryz.isAgg333,Tryz.sizeOf333,⟨_,Tryz.zeroValue333,rfl⟩,⟨_,Tryz.typeInfo333,rfl⟩⟩
instance it333 :Jp kY 333 .u64:=⟨Tryz.runUnderlying333,Tryz.underlying333⟩
instance en5 :qj kY 5:=⟨Tryz.call5⟩
instance en6 :qj kY 6:=⟨Tryz.call6⟩
instance en7 :qj kY 7:=⟨Tryz.call7⟩
instance en8 :qj kY 8:=⟨Tryz.call8⟩
instance en9 :qj kY 9:=⟨Tryz.call9⟩
instance en10 :qj kY 10:=⟨Tryz.call10⟩
instance en11 :qj kY 11:=⟨Tryz.call11⟩
instance en12 :qj kY 12:=⟨Tryz.call12⟩
instance en14 :qj kY 14:=⟨Tryz.call14⟩
instance en18 :qj kY 18:=⟨Tryz.call18⟩
instance en19 :qj kY 19:=⟨Tryz.call19⟩
instance en21 :qj kY 21:=⟨Tryz.call21⟩
instance en22 :qj kY 22:=⟨Tryz.call22⟩
instance en23 :qj kY 23:=⟨Tryz.call23⟩
instance en24 :qj kY 24:=⟨Tryz.call24⟩
instance en25 :qj kY 25:=⟨Tryz.call25⟩
instance en26 :qj kY 26:=⟨Tryz.call26⟩
instance en27 :qj kY 27:=⟨Tryz.call27⟩
instance en28 :qj kY 28:=⟨Tryz.call28⟩
instance en29 :qj kY 29:=⟨Tryz.call29⟩
instance en30 :qj kY 30:=⟨Tryz.call30⟩
instance en31 :qj kY 31:=⟨Tryz.call31⟩
instance en32 :qj kY 32:=⟨Tryz.call32⟩
instance en33 :qj kY 33:=⟨Tryz.call33⟩
instance en34 :qj kY 34:=⟨Tryz.call34⟩
instance en37 :qj kY 37:=⟨Tryz.call37⟩
instance en38 :qj kY 38:=⟨Tryz.call38⟩
instance en39 :qj kY 39:=⟨Tryz.call39⟩
instance en40 :qj kY 40:=⟨Tryz.call40⟩
instance en41 :qj kY 41:=⟨Tryz.call41⟩
instance en42 :qj kY 42:=⟨Tryz.call42⟩
instance en43 :qj kY 43:=⟨Tryz.call43⟩
instance en44 :qj kY 44:=⟨Tryz.call44⟩
instance en45 :qj kY 45:=⟨Tryz.call45⟩
instance en46 :qj kY 46:=⟨Tryz.call46⟩
instance en47 :qj kY 47:=⟨Tryz.call47⟩
instance en48 :qj kY 48:=⟨Tryz.call48⟩
instance en49 :qj kY 49:=⟨Tryz.call49⟩
instance en50 :qj kY 50:=⟨Tryz.call50⟩
instance en51 :qj kY 51:=⟨Tryz.call51⟩
instance en57 :qj kY 57:=⟨Tryz.call57⟩
instance en58 :qj kY 58:=⟨Tryz.call58⟩
instance en59 :qj kY 59:=⟨Tryz.call59⟩
instance en60 :qj kY 60:=⟨Tryz.call60⟩
instance en61 :qj kY 61:=⟨Tryz.call61⟩
instance en62 :qj kY 62:=⟨Tryz.call62⟩
instance en63 :qj kY 63:=⟨Tryz.call63⟩
instance en64 :qj kY 64:=⟨Tryz.call64⟩
instance en65 :qj kY 65:=⟨Tryz.call65⟩
instance en66 :qj kY 66:=⟨Tryz.call66⟩
instance en67 :qj kY 67:=⟨Tryz.call67⟩
instance en68 :qj kY 68:=⟨Tryz.call68⟩
instance en69 :qj kY 69:=⟨Tryz.call69⟩
instance en70 :qj kY 70:=⟨Tryz.call70⟩
instance en71 :qj kY 71:=⟨Tryz.call71⟩
instance en72 :qj kY 72:=⟨Tryz.call72⟩
instance en73 :qj kY 73:=⟨Tryz.call73⟩
instance en74 :qj kY 74:=⟨Tryz.call74⟩
instance en75 :qj kY 75:=⟨Tryz.call75⟩
instance en76 :qj kY 76:=⟨Tryz.call76⟩
instance en77 :qj kY 77:=⟨Tryz.call77⟩
instance en78 :qj kY 78:=⟨Tryz.call78⟩
instance en79 :qj kY 79:=⟨Tryz.call79⟩
instance en80 :qj kY 80:=⟨Tryz.call80⟩
instance en81 :qj kY 81:=⟨Tryz.call81⟩
instance en82 :qj kY 82:=⟨Tryz.call82⟩
instance en83 :qj kY 83:=⟨Tryz.call83⟩
instance en84 :qj kY 84:=⟨Tryz.call84⟩
instance en85 :qj kY 85:=⟨Tryz.call85⟩
instance en86 :qj kY 86:=⟨Tryz.call86⟩
instance en87 :qj kY 87:=⟨Tryz.call87⟩
instance en92 :qj kY 92:=⟨Tryz.call92⟩
instance en95 :qj kY 95:=⟨Tryz.call95⟩
instance en98 :qj kY 98:=⟨Tryz.call98⟩
instance en99 :qj kY 99:=⟨Tryz.call99⟩
instance en100 :qj kY 100:=⟨Tryz.call100⟩
instance en101 :qj kY 101:=⟨Tryz.call101⟩
instance en102 :qj kY 102:=⟨Tryz.call102⟩
instance en103 :qj kY 103:=⟨Tryz.call103⟩
instance en104 :qj kY 104:=⟨Tryz.call104⟩
instance en105 :qj kY 105:=⟨Tryz.call105⟩
instance en106 :qj kY 106:=⟨Tryz.call106⟩
instance en107 :qj kY 107:=⟨Tryz.call107⟩
instance en108 :qj kY 108:=⟨Tryz.call108⟩
instance en109 :qj kY 109:=⟨Tryz.call109⟩
instance en110 :qj kY 110:=⟨Tryz.call110⟩
instance en111 :qj kY 111:=⟨Tryz.call111⟩
instance en112 :qj kY 112:=⟨Tryz.call112⟩
instance en113 :qj kY 113:=⟨Tryz.call113⟩
instance en114 :qj kY 114:=⟨Tryz.call114⟩
instance en115 :qj kY 115:=⟨Tryz.call115⟩
instance en116 :qj kY 116:=⟨Tryz.call116⟩
instance en117 :qj kY 117:=⟨Tryz.call117⟩
instance en118 :qj kY 118:=⟨Tryz.call118⟩
instance en119 :qj kY 119:=⟨Tryz.call119⟩
instance en120 :qj kY 120:=⟨Tryz.call120⟩
instance en121 :qj kY 121:=⟨Tryz.call121⟩
instance en122 :qj kY 122:=⟨Tryz.call122⟩
instance en124 :qj kY 124:=⟨Tryz.call124⟩
instance en125 :qj kY 125:=⟨Tryz.call125⟩
instance en126 :qj kY 126:=⟨Tryz.call126⟩
instance en127 :qj kY 127:=⟨Tryz.call127⟩
instance en128 :qj kY 128:=⟨Tryz.call128⟩
instance en129 :qj kY 129:=⟨Tryz.call129⟩
instance en130 :qj kY 130:=⟨Tryz.call130⟩
instance en131 :qj kY 131:=⟨Tryz.call131⟩
instance en132 :qj kY 132:=⟨Tryz.call132⟩
instance en133 :qj kY 133:=⟨Tryz.call133⟩
instance en134 :qj kY 134:=⟨Tryz.call134⟩
instance en135 :qj kY 135:=⟨Tryz.call135⟩
instance en136 :qj kY 136:=⟨Tryz.call136⟩
instance en137 :qj kY 137:=⟨Tryz.call137⟩
instance en138 :qj kY 138:=⟨Tryz.call138⟩
instance en139 :qj kY 139:=⟨Tryz.call139⟩
instance en140 :qj kY 140:=⟨Tryz.call140⟩
instance en141 :qj kY 141:=⟨Tryz.call141⟩
instance en142 :qj kY 142:=⟨Tryz.call142⟩
instance en143 :qj kY 143:=⟨Tryz.call143⟩
instance en144 :qj kY 144:=⟨Tryz.call144⟩
instance en145 :qj kY 145:=⟨Tryz.call145⟩
instance en146 :qj kY 146:=⟨Tryz.call146⟩
instance en147 :qj kY 147:=⟨Tryz.call147⟩
instance en148 :qj kY 148:=⟨Tryz.call148⟩
instance en149 :qj kY 149:=⟨Tryz.call149⟩
instance en150 :qj kY 150:=⟨Tryz.call150⟩
instance en151 :qj kY 151:=⟨Tryz.call151⟩
instance en152 :qj kY 152:=⟨Tryz.call152⟩
instance en153 :qj kY 153:=⟨Tryz.call153⟩
instance en154 :qj kY 154:=⟨Tryz.call154⟩
instance en155 :qj kY 155:=⟨Tryz.call155⟩
instance en156 :qj kY 156:=⟨Tryz.call156⟩
instance en157 :qj kY 157:=⟨Tryz.call157⟩
instance en158 :qj kY 158:=⟨Tryz.call158⟩
instance en159 :qj kY 159:=⟨Tryz.call159⟩
instance en160 :qj kY 160:=⟨Tryz.call160⟩
instance en161 :qj kY 161:=⟨Tryz.call161⟩
instance en162 :qj kY 162:=⟨Tryz.call162⟩
instance en163 :qj kY 163:=⟨Tryz.call163⟩
instance en164 :qj kY 164:=⟨Tryz.call164⟩
instance en170 :qj kY 170:=⟨Tryz.call170⟩
instance en171 :qj kY 171:=⟨Tryz.call171⟩
instance en172 :qj kY 172:=⟨Tryz.call172⟩
instance en173 :qj kY 173:=⟨Tryz.call173⟩
instance en174 :qj kY 174:=⟨Tryz.call174⟩
instance en175 :qj kY 175:=⟨Tryz.call175⟩
instance en176 :qj kY 176:=⟨Tryz.call176⟩
instance en177 :qj kY 177:=⟨Tryz.call177⟩
instance en178 :qj kY 178:=⟨Tryz.call178⟩
instance en179 :qj kY 179:=⟨Tryz.call179⟩
instance en181 :qj kY 181:=⟨Tryz.call181⟩
instance en182 :qj kY 182:=⟨Tryz.call182⟩
instance en183 :qj kY 183:=⟨Tryz.call183⟩
instance en184 :qj kY 184:=⟨Tryz.call184⟩
instance en185 :qj kY 185:=⟨Tryz.call185⟩
instance en186 :qj kY 186:=⟨Tryz.call186⟩
instance en187 :qj kY 187:=⟨Tryz.call187⟩
instance en188 :qj kY 188:=⟨Tryz.call188⟩
instance en189 :qj kY 189:=⟨Tryz.call189⟩
instance en191 :qj kY 191:=⟨Tryz.call191⟩
instance en192 :qj kY 192:=⟨Tryz.call192⟩
instance en193 :qj kY 193:=⟨Tryz.call193⟩
instance en194 :qj kY 194:=⟨Tryz.call194⟩
instance en195 :qj kY 195:=⟨Tryz.call195⟩
instance en196 :qj kY 196:=⟨Tryz.call196⟩
instance en197 :qj kY 197:=⟨Tryz.call197⟩
instance en198 :qj kY 198:=⟨Tryz.call198⟩
instance en199 :qj kY 199:=⟨Tryz.call199⟩
instance en200 :qj kY 200:=⟨Tryz.call200⟩
instance en201 :qj kY 201:=⟨Tryz.call201⟩
instance en202 :qj kY 202:=⟨Tryz.call202⟩
instance en203 :qj kY 203:=⟨Tryz.call203⟩
instance en204 :qj kY 204:=⟨Tryz.call204⟩
instance en205 :qj kY 205:=⟨Tryz.call205⟩
instance en208 :qj kY 208:=⟨Tryz.call208⟩
instance en219 :qj kY 219:=⟨Tryz.call219⟩
instance en220 :qj kY 220:=⟨Tryz.call220⟩
instance en221 :qj kY 221:=⟨Tryz.call221⟩
instance en222 :qj kY 222:=⟨Tryz.call222⟩
instance en223 :qj kY 223:=⟨Tryz.call223⟩
instance en224 :qj kY 224:=⟨Tryz.call224⟩
instance en225 :qj kY 225:=⟨Tryz.call225⟩
instance en226 :qj kY 226:=⟨Tryz.call226⟩
instance en227 :qj kY 227:=⟨Tryz.call227⟩
instance en228 :qj kY 228:=⟨Tryz.call228⟩
instance en229 :qj kY 229:=⟨Tryz.call229⟩
instance en230 :qj kY 230:=⟨Tryz.call230⟩
instance en234 :qj kY 234:=⟨Tryz.call234⟩
instance en235 :qj kY 235:=⟨Tryz.call235⟩
instance en236 :qj kY 236:=⟨Tryz.call236⟩
instance en237 :qj kY 237:=⟨Tryz.call237⟩
instance en238 :qj kY 238:=⟨Tryz.call238⟩
instance en239 :qj kY 239:=⟨Tryz.call239⟩
instance en240 :qj kY 240:=⟨Tryz.call240⟩
instance en241 :qj kY 241:=⟨Tryz.call241⟩
instance en248 :qj kY 248:=⟨Tryz.call248⟩
instance en250 :qj kY 250:=⟨Tryz.call250⟩
instance en251 :qj kY 251:=⟨Tryz.call251⟩
instance en255 :qj kY 255:=⟨Tryz.call255⟩
instance en256 :qj kY 256:=⟨Tryz.call256⟩
instance en257 :qj kY 257:=⟨Tryz.call257⟩
instance en258 :qj kY 258:=⟨Tryz.call258⟩
instance en259 :qj kY 259:=⟨Tryz.call259⟩
instance en269 :qj kY 269:=⟨Tryz.call269⟩
instance en270 :qj kY 270:=⟨Tryz.call270⟩
instance en273 :qj kY 273:=⟨Tryz.call273⟩
instance en276 :qj kY 276:=⟨Tryz.call276⟩
instance en285 :qj kY 285:=⟨Tryz.call285⟩
instance en293 :qj kY 293:=⟨Tryz.call293⟩
end Go.Proofs.YtlnfjhiphlfkjaaGreatDoor
