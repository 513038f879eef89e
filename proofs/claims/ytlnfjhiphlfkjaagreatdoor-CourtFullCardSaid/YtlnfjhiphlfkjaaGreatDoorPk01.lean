/- Walks of functions, and plain laws, that the last text rests on. No condition. -/
import Derived.WalkKit
import Derived.Deep.AppendSrc
import Derived.Orders
import Derived.KernelRfl
namespace Go
theorem ja.{u}:type_of% @if_neg.{u}:=@if_neg.{u}
theorem jb.{u}:type_of% @if_pos.{u}:=@if_pos.{u}
theorem jc.{u}:type_of% @List.length_append.{u}:=@List.length_append.{u}
theorem jf.{u,v}:type_of% @List.length_map.{u,v}:=@List.length_map.{u,v}
theorem jg.{u}:type_of% @List.getElem?_cons_succ.{u}:=@List.getElem?_cons_succ.{u}
theorem jh.{u}:type_of% @List.getElem?_cons_zero.{u}:=@List.getElem?_cons_zero.{u}
theorem ji.{u}:type_of% @List.mem_singleton.{u}:=@List.mem_singleton.{u}
theorem jj.{u,v}:type_of% @congrArg.{u,v}:=@congrArg.{u,v}
theorem jk.{u}:type_of% @Option.some.injEq.{u}:=@Option.some.injEq.{u}
theorem jm.{u}:type_of% @List.getElem?_eq_some_iff.{u}:=@List.getElem?_eq_some_iff.{u}
theorem jn.{u}:type_of% @List.mem_of_getElem?.{u}:=@List.mem_of_getElem?.{u}
theorem jo:type_of% @decide_eq_true:=@decide_eq_true
theorem jq.{u,v}:type_of% @List.map_append.{u,v}:=@List.map_append.{u,v}
theorem jr:type_of% @Nat.sub_succ_lt_self:=@Nat.sub_succ_lt_self
theorem js.{u,v}:type_of% @Prod.mk.injEq.{u,v}:=@Prod.mk.injEq.{u,v}
theorem ju.{u}:type_of% @List.append_assoc.{u}:=@List.append_assoc.{u}
theorem jv:type_of% @decide_eq_false:=@decide_eq_false
theorem jw:type_of% @Nat.zero_le:=@Nat.zero_le
theorem jy.{u}:type_of% @List.mem_append.{u}:=@List.mem_append.{u}
theorem jz:type_of% @Nat.le_refl:=@Nat.le_refl
theorem jA.{u,v}:type_of% @List.mem_map_of_mem.{u,v}:=@List.mem_map_of_mem.{u,v}
theorem jB.{u}:type_of% @List.mem_filter.{u}:=@List.mem_filter.{u}
theorem jC.{u}:type_of% @List.length_cons.{u}:=@List.length_cons.{u}
theorem jD:type_of% @Bool.not_false:=@Bool.not_false
theorem jE.{u}:type_of% @List.length_drop.{u}:=@List.length_drop.{u}
theorem jF:type_of% @Bool.and_eq_true:=@Bool.and_eq_true
theorem jG.{u}:type_of% @List.append_nil.{u}:=@List.append_nil.{u}
theorem jH:type_of% @Bool.not_true:=@Bool.not_true
theorem jI.{u}:type_of% @List.take_length.{u}:=@List.take_length.{u}
theorem jJ:type_of% @Bool.true_and:=@Bool.true_and
theorem jK.{u,v}:type_of% @List.flatMap_cons.{u,v}:=@List.flatMap_cons.{u,v}
theorem jL.{u,v}:type_of% @List.map_cons.{u,v}:=@List.map_cons.{u,v}
theorem jM.{u,v}:type_of% @List.mem_map.{u,v}:=@List.mem_map.{u,v}
theorem jN:type_of% @Bool.false_and:=@Bool.false_and
theorem jO.{u}:type_of% @List.eq_nil_of_length_eq_zero.{u}:=@List.eq_nil_of_length_eq_zero.{u}
theorem jP.{u}:type_of% @List.length_take.{u}:=@List.length_take.{u}
theorem jQ:type_of% @Bool.and_false:=@Bool.and_false
theorem jR:type_of% @Bool.false_or:=@Bool.false_or
theorem jS:type_of% @decide_eq_true_eq:=@decide_eq_true_eq
theorem jT:type_of% @Bool.and_true:=@Bool.and_true
theorem jU.{u}:type_of% @List.filter_append.{u}:=@List.filter_append.{u}
theorem jV.{u}:type_of% @List.mem_cons_of_mem.{u}:=@List.mem_cons_of_mem.{u}
theorem jW:type_of% @Bool.or_false:=@Bool.or_false
theorem jX:type_of% @Nat.mul_one:=@Nat.mul_one
theorem jY.{u}:type_of% @List.getElem?_eq_getElem.{u}:=@List.getElem?_eq_getElem.{u}
theorem jZ.{u,v}:type_of% @List.getElem?_map.{u,v}:=@List.getElem?_map.{u,v}
theorem j3.{u,v}:type_of% @List.flatMap_nil.{u,v}:=@List.flatMap_nil.{u,v}
theorem j4:type_of% @Bool.true_or:=@Bool.true_or
theorem j5:type_of% @decide_eq_false_iff_not:=@decide_eq_false_iff_not
theorem j6:type_of% @Bool.or_true:=@Bool.or_true
theorem j7.{u}:type_of% @List.length_nil.{u}:=@List.length_nil.{u}
theorem j8.{u}:type_of% @List.getD_eq_getElem?_getD.{u}:=@List.getD_eq_getElem?_getD.{u}
theorem j9.{u}:type_of% @List.mem_cons.{u}:=@List.mem_cons.{u}
theorem kb:type_of% @Bool.false_eq_true:=@Bool.false_eq_true
theorem ke:type_of% @Nat.le_trans:=@Nat.le_trans
theorem kg.{u}:type_of% @List.mem_cons_self.{u}:=@List.mem_cons_self.{u}
theorem ki:type_of% @Int.le_refl:=@Int.le_refl
theorem kj.{u}:type_of% @Array.getElem?_eq_some_iff.{u}:=@Array.getElem?_eq_some_iff.{u}
theorem ko.{u}:type_of% @List.getElem?_append_left.{u}:=@List.getElem?_append_left.{u}
theorem ku.{u}:type_of% @List.any_eq_true.{u}:=@List.any_eq_true.{u}
theorem kv:type_of% @Classical.not_not:=@Classical.not_not
theorem kw.{u}:type_of% @List.length_filter_le.{u}:=@List.length_filter_le.{u}
theorem kz:type_of% @Int.toNat_natCast:=@Int.toNat_natCast
theorem kA.{u}:type_of% @List.length_pos_iff.{u}:=@List.length_pos_iff.{u}
theorem kB.{u}:type_of% @List.take_zero.{u}:=@List.take_zero.{u}
theorem kC.{u,v}:type_of% @List.map_nil.{u,v}:=@List.map_nil.{u,v}
theorem kE.{u,v,w}:type_of% @List.map_map.{u,v,w}:=@List.map_map.{u,v,w}
theorem kF.{u}:type_of% @List.drop_left.{u}:=@List.drop_left.{u}
theorem kG.{u}:type_of% @List.getElem?_append_right.{u}:=@List.getElem?_append_right.{u}
theorem kH.{u}:type_of% @List.pairwise_cons.{u}:=@List.pairwise_cons.{u}
theorem kI.{u}:type_of% @List.filter_cons.{u}:=@List.filter_cons.{u}
theorem kJ.{u}:type_of% @List.take_append_drop.{u}:=@List.take_append_drop.{u}
theorem kK.{u}:type_of% @List.take_of_length_le.{u}:=@List.take_of_length_le.{u}
theorem kL:type_of% @Bool.not_eq_true':=@Bool.not_eq_true'
theorem kM.{u}:type_of% @List.drop_length.{u}:=@List.drop_length.{u}
theorem kN.{u}:type_of% @List.drop_append.{u}:=@List.drop_append.{u}
theorem kO.{u}:type_of% @List.nil_append.{u}:=@List.nil_append.{u}
theorem kQ:type_of% @Int.natCast_nonneg:=@Int.natCast_nonneg
theorem kR:type_of% @Nat.zero_add:=@Nat.zero_add
theorem kS.{u,v}:type_of% @List.flatMap_append.{u,v}:=@List.flatMap_append.{u,v}
theorem kT.{u}:type_of% @List.length_singleton.{u}:=@List.length_singleton.{u}
theorem kU:type_of% @Bool.or_eq_true:=@Bool.or_eq_true
theorem kV:type_of% @of_decide_eq_true:=@of_decide_eq_true
theorem kW.{u}:type_of% @List.any_append.{u}:=@List.any_append.{u}
theorem kX.{u}:type_of% @List.any_cons.{u}:=@List.any_cons.{u}
end Go
set_option linter.unusedVariables false
set_option linter.unusedSimpArgs false
set_option linter.unusedSectionVars false
namespace Go
theorem zo {p:Prop}(h:p:=by omega):p:=h
theorem zk {p:Prop}(h:p:=by kernel_rfl):p:=h
theorem zd {p:Prop}(h:p:=by decide):p:=h
theorem zr {p:Prop}(h:p:=by rfl):p:=h
theorem zt {p:Prop}(h:p:=by repeat (first|exact trivial|refine ⟨rfl,?_⟩)):p:=h
end Go
namespace Go.SX
open Go
def Hp :=Nat→Option (Bool×Obj)
def Hp.ok (h k:Hp):Prop:=∀b p o q o',h b=some (p,o)→k b=some (q,o')→p=false∧q=false∧o=o'
def Hp.add (h k:Hp):Hp:=λb=>(h b).or (k b)
def Hp.fits (h:Hp)(w:World):Prop:=∀b p o,h b=some (p,o)→w.heap[b]? =some o
abbrev Ext :=Os×Array (Nat×ByteArray)
def ext (w:World):Ext:=(w.os,w.output)
abbrev HP :=Ext→Hp→Prop
abbrev _root_.Go.HL :=List HP
abbrev _root_.Go.OA :=Option Addr
abbrev _root_.Go.OM :=Nat→Option Obj
variable {g : Ext}
theorem Hp.ok_symm {h k:Hp}(H:h.ok k):k.ok h:=λb p o q o' e1 e2=>by
 obtain ⟨a,b,c⟩:=H b q o' p o e2 e1;exact ⟨b,a,c.symm⟩
theorem Hp.add_comm {h k:Hp}(H:h.ok k):h.add k=k.add h:=by
 funext b
 simp only[Hp.add]
 cases e1:h b with
 |none=>cases e2:k b<;>rfl
 |some x=>
  cases e2:k b with
  |none=>rfl
  |some y=>
   obtain ⟨p,o⟩:=x;obtain ⟨q,o'⟩:=y;obtain ⟨rfl,rfl,rfl⟩:=H b p o q o' e1 e2;rfl
theorem Hp.add_assoc (h k l:Hp):(h.add k).add l=h.add (k.add l):=by
 funext b;simp only[Hp.add];cases h b<;>rfl
theorem Hp.ok_add_left {h k l:Hp}(H:(h.add k).ok l):h.ok l:=λb p o q o' e1 e2=>
 H b p o q o' (by simp[Hp.add,e1]) e2
theorem Hp.ok_add_right {h k l:Hp}(hk:h.ok k)(H:(h.add k).ok l):k.ok l:=λb p o q o' e1 e2=>by
 refine H b p o q o' ?_ e2;rw[Hp.add_comm hk];simp[Hp.add,e1]
theorem Hp.ok_add {h k l:Hp}(H1:h.ok l)(H2:k.ok l):(h.add k).ok l:=λb p o q o' e1 e2=>by
 simp only[Hp.add] at e1
 cases e:h b with
 |none=>rw[e] at e1;exact H2 b p o q o' e1 e2
 |some x=>rw[e] at e1;exact H1 b p o q o' (by rw[e];exact e1) e2
theorem Hp.ok_add' {h k l:Hp}(H1:h.ok k)(H2:h.ok l):h.ok (k.add l):=Hp.ok_symm (Hp.ok_add (Hp.ok_symm H1) (Hp.ok_symm H2))
theorem Hp.ok_left' {h k l:Hp}(H:h.ok (k.add l)):h.ok k:=Hp.ok_symm (Hp.ok_add_left (Hp.ok_symm H))
theorem Hp.ok_right' {h k l:Hp}(hk:k.ok l)(H:h.ok (k.add l)):h.ok l:=Hp.ok_symm (Hp.ok_add_right hk (Hp.ok_symm H))
theorem Hp.fits_left {h k:Hp}{w:World}(H:(h.add k).fits w):h.fits w:=λb p o e=>H b p o (by simp[Hp.add,e])
theorem Hp.fits_right {h k:Hp}{w:World}(hk:h.ok k)(H:(h.add k).fits w):k.fits w:=Hp.fits_left (Hp.add_comm hk▸H)
theorem Hp.fits_add {h k:Hp}{w:World}(h1:h.fits w)(h2:k.fits w):(h.add k).fits w:=λb p o e=>by
 simp only[Hp.add] at e
 cases e1:h b with
 |none=>rw[e1] at e;exact h2 b p o e
 |some x=>rw[e1] at e;exact h1 b p o (by rw[e1];exact e)
def KW (g:Ext):HL→Hp→Prop
 | []=>λ_=>True
 |P::L=>λh=>∃h1 h2,h1.ok h2∧h=h1.add h2∧P g h1∧KW g L h2
theorem tA {A B:HP}{L:HL}{h:Hp}(H:KW g (A::B::L) h):KW g (B::A::L) h:=by
 obtain ⟨h1,h2,o,rfl,a,h3,h4,o',rfl,b,l⟩:=H;refine ⟨h3,h1.add h4,?_,?_,b,h1,h4,Hp.ok_right' o' o,rfl,a,l⟩
 ·exact Hp.ok_add' (Hp.ok_symm (Hp.ok_left' o)) o'
 ·rw[←Hp.add_assoc,←Hp.add_assoc,Hp.add_comm (Hp.ok_left' o)]
theorem Yx {A:HP}{L L':HL}(H:∀h,KW g L h→KW g L' h){h:Hp}(h0:KW g (A::L) h):KW g (A::L') h:=by
 obtain ⟨h1,h2,o,rfl,a,l⟩:=h0;exact ⟨h1,h2,o,rfl,a,H _ l⟩
theorem tB {L L':HL}(p:L.Perm L'):∀{h:Hp},KW g L h→KW g L' h:=by
 induction p with
 |nil=>exact λH=>H
 |cons x _ ih=>exact λH=>Yx (λ_=>ih) H
 |swap x y l=>exact λH=>tA H
 |trans _ _ ih1 ih2=>exact λH=>ih2 (ih1 H)
theorem Xd {L M:HL}:∀{h:Hp},KW g (L++M) h↔∃h1 h2,h1.ok h2∧h=h1.add h2∧KW g L h1∧KW g M h2:=by
 induction L with
 |nil=>
  intro h
  constructor
  ·intro H
   refine ⟨λ_=>none,h,?_,?_,trivial,H⟩
   ·intro b p o q o' e;simp at e
   ·funext b;simp[Hp.add]
  ·rintro ⟨h1,h2,o,rfl,_,H⟩
   cases M with
   |nil=>trivial
   |cons A M=>
    obtain ⟨h3,h4,o',rfl,a,m⟩:=H;refine ⟨h3,h4.add h1,?_,?_,a,?_⟩
    ·exact Hp.ok_add' o' (Hp.ok_symm (Hp.ok_left' o))
    ·rw[Hp.add_comm o,Hp.add_assoc]
    ·-- what is left over is dropped
     revert m;have:∀(M:HL) (k l:Hp),k.ok l→KW g M k→KW g M (k.add l):=by
      intro M
      induction M with
      |nil=>intros;trivial
      |cons B M ih=>
       rintro k l ok ⟨k1,k2,o2,rfl,b,m⟩;exact ⟨k1,k2.add l,Hp.ok_add' o2 (Hp.ok_add_left ok),by rw[Hp.add_assoc],b,ih _ _ (Hp.ok_add_right o2 ok) m⟩
     intro m;exact this M h4 h1 (Hp.ok_symm (Hp.ok_right' o' o)) m
 |cons A L ih=>
  intro h
  constructor
  ·rintro ⟨h1,h2,o,rfl,a,H⟩
   obtain ⟨h3,h4,o',rfl,l,m⟩:=ih.1 H;exact ⟨h1.add h3,h4,Hp.ok_add (Hp.ok_right' o' o) o',by rw[Hp.add_assoc],⟨h1,h3,Hp.ok_left' o,rfl,a,l⟩,m⟩
  ·rintro ⟨h1,h2,o,rfl,⟨h3,h4,o',rfl,a,l⟩,m⟩
   refine ⟨h3,h4.add h2,Hp.ok_add' o' (Hp.ok_add_left o),by rw[Hp.add_assoc],a,ih.2 ⟨h4,h2,Hp.ok_add_right o' o,rfl,l,m⟩⟩
def St (w:World)(L:HL):Prop:=∃h:Hp,h.fits w∧KW (ext w) L h
def qi (L L':HL):Prop:=∀w F,St w (L++F)→St w (L'++F)
theorem St.perm {w:World}{L L':HL}(p:L.Perm L')(H:St w L):St w L':=by
 obtain ⟨h,f,s⟩:=H;exact ⟨h,f,tB p s⟩
theorem St.heap {w w':World}{L:HL}(h:w'.heap=w.heap)(H:St w L)(he:ext w'=ext w:=by rfl):St w' L:=by
 obtain ⟨h0,f,s⟩:=H;exact ⟨h0,λb p o e=>by rw[h];exact f b p o e,by rw[he];exact s⟩
theorem St.of_sep {w:World}{L L':HL}(h:∀k,KW (ext w) L k→KW (ext w) L' k)(H:St w L):St w L':=by
 obtain ⟨h0,f,s⟩:=H;exact ⟨h0,f,h _ s⟩
theorem St.tail {w:World}{A:HP}{L:HL}(H:St w (A::L)):St w L:=by
 obtain ⟨h,f,h1,h2,o,rfl,a,l⟩:=H;exact ⟨h2,Hp.fits_right o f,l⟩
theorem St.drop_left {w:World}{M:HL}:∀{L:HL},St w (L++M)→St w M
 | [],H=>H
 |_::L,H=>St.drop_left (L:=L) H.tail
theorem St.drop_all (w:World):St w []:=⟨(λ_=>none:Nat→Option (Bool×Obj)),λb p o e=>by simp at e,trivial⟩
theorem kZ (L:HL):qi L L:=λ_ _ H=>H
theorem qi.trans {L M N:HL}(h1:qi L M)(h2:qi M N):qi L N:=λ_ _ H=>h2 _ _ (h1 _ _ H)
theorem qi.perm {L L':HL}(p:L.Perm L'):qi L L':=λ_ F H=>St.perm (p.append_right F) H
theorem qi.nil {L:HL}:qi L []:=λ_ _ H=>St.drop_left H
theorem qi.cons {A:HP}{L L':HL}(h:qi L L'):qi (A::L) (A::L'):=λw F H=>
 St.perm List.perm_middle (h w (A::F) (St.perm List.perm_middle.symm H))
theorem qi.drop {A:HP}{L L':HL}(h:qi L L'):qi (A::L) L':=λw F H=>h w F H.tail
theorem qi.app {L L' M:HL}(h:qi L L'):qi (L++M) (L'++M):=λw F H=>by
 rw[ju] at H ⊢;exact h w (M++F) H
def yA (L:HL):HP:=λg=>KW g L
def d9 {α:Sort _}(P:α→HP):HP:=λg h=>∃x,P x g h
def wT (φ:Prop):HP:=λ_ _=>φ
theorem qi.open_all {L M:HL}:qi (yA L::M) (L++M):=λ_ F H=>by
 rw[ju];exact St.of_sep (L:=yA L::(M++F)) (λ_ h=>Xd.2 h) H
theorem qi.shut_all {L M:HL}:qi (L++M) (yA L::M):=λ_ F H=>by
 rw[ju] at H;exact St.of_sep (λ_ h=>Xd.1 h) H
theorem qi.shut_ex {α:Sort _}{P:α→HP}(x:α){M:HL}:qi (P x::M) (d9 P::M):=λ_ F H=>
 St.of_sep (L:=P x::(M++F)) (λh ⟨h1,h2,o,e,p,m⟩=>⟨h1,h2,o,e,⟨x,p⟩,m⟩) H
theorem St.open_ex {α:Sort _}{P:α→HP}{w:World}{M:HL}(H:St w (d9 P::M)):∃x,St w (P x::M):=by
 obtain ⟨h0,f,h1,h2,o,e,⟨x,p⟩,m⟩:=H;exact ⟨x,h0,f,h1,h2,o,e,p,m⟩
theorem qi.shut_pure {φ:Prop}(h:φ){M:HL}:qi M (wT φ::M):=λ_ F H=>
 St.of_sep (λhh H=>⟨(λ_=>none:Nat→Option (Bool×Obj)),hh,λb p o q o' e=>by simp at e,by funext b;simp[Hp.add],h,H⟩) H
theorem St.open_pure {φ:Prop}{w:World}{M:HL}(H:St w (wT φ::M)):φ∧St w M:=by
 refine ⟨?_,H.tail⟩;obtain ⟨h0,f,h1,h2,o,e,p,m⟩:=H;exact p
def pt (b:Nat)(o:Obj):HP:=λ_ h=>h b=some (true,o)
def ro (b:Nat)(o:Obj):HP:=λ_ h=>h b=some (false,o)
theorem St.read_cons {w:World}{A:HP}{L:HL}(H:St w (A::L)):∃h,h.fits w∧A (ext w) h:=by
 obtain ⟨h,f,h1,h2,o,rfl,a,l⟩:=H;exact ⟨h1,Hp.fits_left f,a⟩
theorem St.pt_read {w:World}{b:Nat}{o:Obj}{L:HL}(H:St w (pt b o::L)):w.heap[b]? =some o:=by
 obtain ⟨h,f,a⟩:=H.read_cons;exact f b _ _ a
theorem St.ro_read {w:World}{b:Nat}{o:Obj}{L:HL}(H:St w (ro b o::L)):w.heap[b]? =some o:=by
 obtain ⟨h,f,a⟩:=H.read_cons;exact f b _ _ a
theorem St.pt_write {w w':World}{b:Nat}{o o':Obj}{L:HL}(H:St w (pt b o::L))(hb:w'.heap[b]? =some o')
  (hk:∀k,k≠b→w'.heap[k]? =w.heap[k]?) (he:ext w'=ext w:=by rfl):St w' (pt b o'::L):=by
 obtain ⟨h,f,h1,h2,ok,rfl,a,l⟩:=H;rw[←he] at l;have a':h1 b=some (true,o):=a;have none2:h2 b=none:=by
  cases e:h2 b with
  |none=>rfl
  |some x=>obtain ⟨q,o2⟩:=x;exact absurd (ok b _ _ _ _ a' e).1 (by simp)
 refine ⟨Hp.add (λk=>if k=b then some (true,o') else h1 k) h2,?_,_,h2,?_,rfl,by simp[pt],l⟩
 ·refine Hp.fits_add ?_ ?_
  ·intro k p ob e
   by_cases hkb:k=b
   ·subst hkb;simp at e;rw[hb];rw[e.2]
   ·simp[hkb] at e;rw[hk k hkb];exact Hp.fits_left f k p ob e
  ·intro k p ob e
   have hkb:k≠b:=λh=>by subst h;rw[none2] at e;simp at e
   rw[hk k hkb];exact Hp.fits_right ok f k p ob e
 ·intro k p ob q o2 e1 e2
  have hkb:k≠b:=λh=>by subst h;rw[none2] at e2;simp at e2
  simp[hkb] at e1
  exact ok k p ob q o2 e1 e2
theorem St.pt_new {w w':World}{o:Obj}{L:HL}(H:St w L)(hh:w'.heap=w.heap.push o)(he:ext w'=ext w:=by rfl):St w' (pt w.heap.size o::L):=by
 obtain ⟨h,f,l⟩:=H;rw[←he] at l;have noneh:h w.heap.size=none:=by
  cases e:h w.heap.size with
  |none=>rfl
  |some x=>obtain ⟨q,o2⟩:=x;have:=f _ _ _ e;simp at this
 refine ⟨Hp.add (λk=>if k=w.heap.size then some (true,o) else none) h,?_,_,h,?_,rfl,by simp[pt],l⟩
 ·refine Hp.fits_add ?_ ?_
  ·intro k p ob e
   by_cases hk:k=w.heap.size
   ·subst hk;simp at e;rw[hh];simp[e.2]
   ·simp[hk] at e
  ·intro k p ob e
   have:=f k p ob e;have hlt:k<w.heap.size:=(kj.1 this).1;rw[hh,Array.getElem?_push_lt hlt,←this,Array.getElem?_eq_getElem hlt]
 ·intro k p ob q o2 e1 e2
  by_cases hk:k=w.heap.size
  ·subst hk;rw[noneh] at e2;simp at e2
  ·simp[hk] at e1
theorem qi.shed {b:Nat}{o:Obj}{L:HL}:qi (pt b o::L) (ro b o::L):=λw F H=>by
 obtain ⟨h,f,h1,h2,ok,rfl,a,l⟩:=H;have a':h1 b=some (true,o):=a;have none2:h2 b=none:=by
  cases e:h2 b with
  |none=>rfl
  |some x=>obtain ⟨q,o2⟩:=x;exact absurd (ok b _ _ _ _ a' e).1 (by simp)
 refine ⟨Hp.add (λk=>if k=b then some (false,o) else h1 k) h2,?_,_,h2,?_,rfl,by simp[ro],l⟩
 ·refine Hp.fits_add ?_ (Hp.fits_right ok f)
  intro k p ob e
  by_cases hkb:k=b
  ·subst hkb;simp at e;rw[←e.2];exact Hp.fits_left f k _ _ a'
  ·simp[hkb] at e;exact Hp.fits_left f k p ob e
 ·intro k p ob q o2 e1 e2
  have hkb:k≠b:=λh=>by subst h;rw[none2] at e2;simp at e2
  simp[hkb] at e1
  exact ok k p ob q o2 e1 e2
abbrev vL :=Nat→Option Value
def e0 :vL:=λ_=>none
def upd (f:vL)(i:Nat)(v:Value):vL:=λj=>bif Nat.beq j i then some v else f j
def v7 :List (Nat×Value)→vL
 | []=>e0
 |(i,v)::l=>upd (v7 l) i v
def Vd (f:vL):List (Nat×Value)→Prop
 | []=>True
 |(i,v)::l=>f i=some v∧Vd f l
theorem wt {f:vL}:∀{l:List (Nat×Value)},Vd f l→∀i v,v7 l i=some v→f i=some v
 | [],_,i,v,h=>by simp[v7,e0] at h
 |(i,u)::l,⟨h1,h2⟩,j,v,h=>by
  simp only[v7,upd] at h
  cases hb:Nat.beq j i with
  |false=>rw[hb] at h;exact wt h2 j v h
  |true=>rw[hb] at h;rw[Nat.eq_of_beq_eq_true hb,h1];exact h
def ev (f:vL):Operand→Option Value
 | .tmp t=>f t
 | .const v=>some v
 | .global g=>some (.pointer (some ⟨g,0,none⟩))
 | .func g=>some (.func (.func g) #[] #[])
def XB (f:vL):Option Nat→Value→vL
 |some d,v=>upd f d v
 |none,_=>f
structure KO (n:Nat)(a:Act)(f:vL):Prop where
 defers:a.defers=[]
 size:a.tmps.size=n
 at_:∀i v,f i=some v→a.tmps.getD i undef=v
theorem KO.eval {n:Nat}{a:Act}{f:vL}(h:KO n a f):∀{x:Operand} {v:Value},ev f x=some v→a.eval x=v
 | .tmp t,v,hx=>h.at_ t v hx
 | .const u,v,hx=>by simpa[ev,Act.eval] using hx
 | .global g,v,hx=>by simpa[ev,Act.eval] using hx
 | .func g,v,hx=>by simpa[ev,Act.eval] using hx
theorem KO.weaken {n:Nat}{a:Act}{f g:vL}(h:KO n a f)(H:∀i v,g i=some v→f i=some v):KO n a g:=
 ⟨h.defers,h.size,λi v e=>h.at_ i v (H i v e)⟩
theorem KO.put {n:Nat}{a:Act}{f:vL}(h:KO n a f){d:Option Nat}(hd:d.all (λd=>decide (d<n))=true)(v:Value):KO n (a.put d v) (XB f d v):=by
 cases d with
 |none=>exact h
 |some d=>
  have hd:d<n:=by simpa using hd
  refine ⟨h.defers,by simp[Act.put,h.size],λi u e=> ?_⟩;have hi:=h.at_ i u;simp only[Act.put,XB,upd] at e ⊢
  cases hb:Nat.beq i d with
  |true=>
   rw[hb] at e;have:i=d:=Nat.eq_of_beq_eq_true hb;subst this
   simp at e
   simp[Array.getD_eq_getD_getElem?,h.size,hd,e]
  |false=>
   rw[hb] at e;have hne:¬d=i:=λe=>by subst e;simp at hb
   have:=hi e;simp only[Array.getD_eq_getD_getElem?,Array.getElem?_setIfInBounds,hne,if_false] at this ⊢;exact this
abbrev vm :=Exit→vL→HL→Prop
def lift (n:Nat)(F:HL)(Q:vm):Exit→Act→World→Prop:=λe a w=>∃f L,KO n a f∧St w (L++F)∧Q e f L
def wA (n:Nat)(l:List Oper):Bool:=l.all λo=>o.dst.all (λd=>decide (d<n))
def xZ (n:Nat):Code→Bool
 | .region _ ops _=>wA n ops.toList
 | .seq a b=>xZ n a&&xZ n b
 | .cond _ a b=>xZ n a&&xZ n b
 | .block _ c=>xZ n c
 | .loop c=>xZ n c
 | .scope c=>xZ n c
 |_=>true
variable (P : Program) (n : Nat)
def swp (c:Code)(Q:vm)(f:vL)(L:HL):Prop:=
 xZ n c=true→∀F a w,KO n a f→St w (L++F)→c.wp P (lift n F Q) a w
def qq (ops:List Oper)(rest:List Oper)(Q:vm)(f:vL)(L:HL):Prop:=
 wA n rest=true→∀F a w,KO n a f→St w (L++F)→wpList P ops.toArray (lift n F Q) rest a w
def qh (g:FuncId)(args:List Value)(L:HL)(R:Value→HL→Prop):Prop:=
 ∀F w,St w (L++F)→Calls P g args.toArray w λe w'=>∃v L',e=.returned v∧St w' (L'++F)∧R v L'
variable {P n}
def qL (K:vL→HL→Prop)(Q:vm):vm
 | .normal,f,L=>K f L
 |e,f,L=>Q e f L
def qJ (id:Nat)(Q:vm):vm
 | .exit j,f,L=>bif Nat.beq j id then Q .normal f L else Q (.exit j) f L
 |e,f,L=>Q e f L
section codes
variable {Q : vm} {f : vL} {L : HL}
theorem ga {c:Code}{Q':vm}(h:swp P n c Q f L)(hq:∀e f L,Q e f L→Q' e f L):swp P n c Q' f L:=
 λok F a w s t=>wp_mono (h ok F a w s t) λ_ _ _ ⟨f,L,s,t,q⟩=>⟨f,L,s,t,hq _ _ _ q⟩
theorem vh {c:Code}{L':HL}(h:qi L L')(H:swp P n c Q f L'):swp P n c Q f L:=
 λok F a w s t=>H ok F a w s (h w F t)
theorem qo {ops:List Oper}{rest:List Oper}{L':HL}(h:qi L L')(H:qq P n ops rest Q f L'):qq P n ops rest Q f L:=
 λok F a w s t=>H ok F a w s (h w F t)
theorem nD {α:Sort _}{c:Code}{X:α→HP}(H:∀x,swp P n c Q f (X x::L)):swp P n c Q f (d9 X::L):=
 λok F a w s t=>let ⟨x,t⟩:=St.open_ex t;H x ok F a w s t
theorem K8 {c:Code}{φ:Prop}(H:φ→swp P n c Q f L):swp P n c Q f (wT φ::L):=
 λok F a w s t=>let ⟨x,t⟩:=St.open_pure t;H x ok F a w s t
theorem dD {α:Sort _}{ops:List Oper}{rest:List Oper}{X:α→HP}(H:∀x,qq P n ops rest Q f (X x::L)):qq P n ops rest Q f (d9 X::L):=
 λok F a w s t=>let ⟨x,t⟩:=St.open_ex t;H x ok F a w s t
theorem Ke {ops:List Oper}{rest:List Oper}{φ:Prop}(H:φ→qq P n ops rest Q f L):qq P n ops rest Q f (wT φ::L):=
 λok F a w s t=>let ⟨x,t⟩:=St.open_pure t;H x ok F a w s t
theorem f9 (h:Q .normal f L):swp P n .skip Q f L:=λ_ _ _ _ s t=>wp_skip ⟨f,L,s,t,h⟩
theorem jDX (h:Q .ret f L):swp P n .ret Q f L:=λ_ _ _ _ s t=>wp_ret ⟨f,L,s,t,h⟩
theorem jBC {id:Nat}(h:Q (.exit id) f L):swp P n (.exit id) Q f L:=λ_ _ _ _ s t=>wp_exit ⟨f,L,s,t,h⟩
theorem wE {x y:Code}(h:swp P n x (qL (λf L=>swp P n y Q f L) Q) f L):swp P n (.seq x y) Q f L:=by
 intro ok F a w s t;simp only[xZ,jF] at ok;refine wp_seq (wp_mono (h ok.1 F a w s t) ?_);rintro e a w ⟨f,L,s,t,q⟩
 cases e<;>first|exact q ok.2 F _ _ s t|exact ⟨f,L,s,t,q⟩
theorem tu {id:Nat}{c:Code}(h:swp P n c (qJ id Q) f L):swp P n (.block id c) Q f L:=by
 intro ok F a w s t;refine wp_block (wp_mono (h ok F a w s t) ?_);rintro e a w ⟨f,L,s,t,q⟩
 cases e with
 |exit j=>
  simp only[Exit.inBlock]
  by_cases h:j=id
  ·subst h;simp only[qJ] at q;rw[jb rfl]
   exact ⟨f,L,s,t,by simpa using q⟩
  ·rw[ja h]
   have:Nat.beq j id=false:=by cases hb:Nat.beq j id with|false=>rfl|true=>exact absurd (Nat.eq_of_beq_eq_true hb) h
   simp only[qJ,this,cond_false] at q;exact ⟨f,L,s,t,q⟩
 |_=>exact ⟨f,L,s,t,q⟩
theorem Vb {c:Operand}{x y:Code}(hc:ev f c=some (.bool true))(h:swp P n x Q f L):swp P n (.cond c x y) Q f L:=by
 intro ok F a w s t;simp only[xZ,jF] at ok;exact wp_cond_true (s.eval hc) (h ok.1 F a w s t)
theorem K9 {c:Operand}{x y:Code}(hc:ev f c=some (.bool false))(h:swp P n y Q f L):swp P n (.cond c x y) Q f L:=by
 intro ok F a w s t;simp only[xZ,jF] at ok;exact wp_cond_false (s.eval hc) (h ok.2 F a w s t)
theorem nE {c:Operand}{x y:Code}{b:Bool}(hc:ev f c=some (.bool b))(hb:b=true)(h:swp P n x Q f L):swp P n (.cond c x y) Q f L:=
 Vb (hc.trans (by rw[hb])) h
theorem nF {c:Operand}{x y:Code}{b:Bool}(hc:ev f c=some (.bool b))(hb:b=false)(h:swp P n y Q f L):swp P n (.cond c x y) Q f L:=
 K9 (hc.trans (by rw[hb])) h
theorem Vt {id:Nat}{l:List Oper}(h:qq P n l l Q f L):swp P n (.region id l.toArray false) Q f L:=
 λok F a w s t=>wp_region_lit (h (by simpa[xZ] using ok) F a w s t)
theorem qQ {ops:List Oper}(h:Q .normal f L):qq P n ops [] Q f L:=λ_ _ _ _ s t=>wpList_nil ⟨f,L,s,t,h⟩
theorem ql {σ:Type}{c:Code}(sl:σ→List (Nat×Value))(H:σ→HL)(φ:σ→Prop)(μ:σ→Nat)(s0:σ)
  (h0:Vd f (sl s0)) (hH:qi L (H s0)) (hφ:φ s0)
  (round:∀s,φ s→swp P n c (qL (λf L=>∃s',Vd f (sl s')∧qi L (H s')∧φ s'∧μ s'<μ s) Q) (v7 (sl s)) (H s)):
  swp P n (.loop c) Q f L:=by
 intro ok F a w s t b kk cs;have key:∀k s a w,μ s=k→φ s→(∃f,KO n a f∧Vd f (sl s))→St w (H s++F)→
   ∃e a' w',lift n F Q e a' w'∧Arrives P (lone (b.at a (.code c:: .inLoop c::kk)) cs w) b kk cs e a' w':=by
  intro k
  induction k using Nat.strongRecOn with
  |_ k ih=>
   intro s a w hk hp ⟨f,hs,hsl⟩ ht;have hr:=round s hp ok F a w (hs.weaken (wt hsl)) ht;obtain ⟨e,a₁,w₁,⟨f1,L1,s1,t1,q⟩,harr⟩:=hr b (.inLoop c::kk) cs
   cases e with
   |normal=>
    obtain ⟨s',hsl',hent,hp',hlt⟩:=q;obtain ⟨e₂,a₂,w₂,hq₂,harr₂⟩:=ih (μ s') (hk▸hlt) s' a₁ w₁ rfl hp' ⟨f1,s1,hsl'⟩ (hent _ _ t1);exact ⟨e₂,a₂,w₂,hq₂,.of_steps (Steps.trans harr (.one step_inLoop)) harr₂⟩
   |exit id=>exact ⟨_,a₁,w₁,⟨f1,L1,s1,t1,q⟩,.pass (x:=.inLoop c) rfl (λ_ _=>.inl (by simp)) harr⟩
   |goto l=>exact ⟨_,a₁,w₁,⟨f1,L1,s1,t1,q⟩,.pass (x:=.inLoop c) rfl (λ_ _=>.inl (by simp)) harr⟩
   |ret=>exact ⟨_,a₁,w₁,⟨f1,L1,s1,t1,q⟩,.pass (x:=.inLoop c) rfl (λ_ _=>.inl (by simp)) harr⟩
   |panic ch=>exact ⟨_,a₁,w₁,⟨f1,L1,s1,t1,q⟩,.pass (x:=.inLoop c) rfl (λ_ _=>.inl (by simp)) harr⟩
   |outgrown=>exact ⟨_,a₁,w₁,⟨f1,L1,s1,t1,q⟩,.pass (x:=.inLoop c) rfl (λ_ _=>.inl (by simp)) harr⟩
 obtain ⟨e,a',w',hq,harr⟩:=key _ s0 a w rfl hφ ⟨f,s,h0⟩ (hH _ _ t);exact ⟨e,a',w',hq,.of_steps (.one step_loop) harr⟩
theorem Yp {c:Code}(l:List (Nat×Value))(h:Vd f l)(H:swp P n c Q (v7 l) L):swp P n c Q f L:=
 λok F a w s t=>H ok F a w (s.weaken (wt h)) t
end codes
class Ty (P:Program)(t:TypeId)(agg:outParam Bool)(size:outParam Nat)(zero:outParam (List Value))(bytes:outParam Nat):Prop where
 raw:∃(i:TypeInfo) (z:Value),P.info? t=some i∧i.size=size∧i.bytes=bytes∧i.zero=some z∧z.cells.toList=zero
 agg:∀w,(isAgg t).run P w=.ok agg w
 size:∀w,(sizeOf t).run P w=.ok size w
 zero:∃z,(∀w,(zeroValue t).run P w=.ok z w)∧z.cells.toList=zero
 info:∃i,(∀w,(typeInfo t).run P w=.ok i w)∧i.bytes=bytes
class wS (P:Program)(t:TypeId)(e:outParam TypeId):Prop where
 und:∀w,(underlying t).run P w=.ok (.slice e) w
 raw:P.underlying t=some (.slice e)
class Jp (P:Program)(t:TypeId)(k:outParam IntKind):Prop where
 und:∀w,(underlying t).run P w=.ok (.int k) w
 raw:P.underlying t=some (.int k)
class Vm (P:Program)(t:TypeId)(k e:outParam TypeId):Prop where
 und:∀w,(underlying t).run P w=.ok (.map k e) w
 raw:P.underlying t=some (.map k e)
class KT (P:Program)(t:TypeId)(e:outParam TypeId):Prop where
 und:∀w,(underlying t).run P w=.ok (.pointer e) w
 raw:P.underlying t=some (.pointer e)
class Wn (P:Program)(t:TypeId):Prop where
 und:∀w,(underlying t).run P w=.ok .string w
 raw:P.underlying t=some (.string)
class ZB (P:Program)(t:TypeId)(len:outParam Nat)(e:outParam TypeId):Prop where
 und:∀w,(underlying t).run P w=.ok (.array len e) w
 raw:P.underlying t=some (.array len e)
class zi (P:Program)(t:TypeId):Prop where
 und:∃d,∀w,(underlying t).run P w=.ok d w
class zR (P:Program)(t:TypeId)(fs:outParam (List (Nat×Nat×Bool))):Prop where
 und:∃fields:Array Field,(∀w,(underlying t).run P w=.ok (.struct fields) w)∧fields.size=fs.length∧
  ∀(i off sz:Nat) (ag:Bool),(show List (Nat×Nat×Bool) from fs)[i]? =some (off,sz,ag)→∃f:Field,fields[i]? =some f∧f.offset=off∧(∀w,(sizeOf f.type).run P w=.ok sz w)∧(∀w,(isAgg f.type).run P w=.ok ag w)
class qj (P:Program)(f:FuncId):Prop where
 run:∀args w,(callFunc f args).run P w=.ok (.enter f args) w
def cl (l:List Value)(t:TypeId):Obj:=.cells l.toArray t (0,0)
class zK (b:Nat)(L:HL)(o:outParam Obj):Prop where
 at_:∀w F,St w (L++F)→w.heap[b]? =some o
instance zK.here {b:Nat}{o:Obj}{L:HL}:zK b (pt b o::L) o:=⟨λ_ _ H=>St.pt_read H⟩
instance zK.hereR {b:Nat}{o:Obj}{L:HL}:zK b (ro b o::L) o:=⟨λ_ _ H=>St.ro_read H⟩
instance (priority :=low) zK.there {b:Nat} {o:Obj} {A:HP} {L:HL} [h:zK b L o]:zK b (A::L) o:=⟨λ_ _ H=>h.at_ _ _ H.tail⟩
class XW (b:Nat)(L:HL)(o:outParam Obj)(L':outParam (Obj→HL)):Prop where
 at_:∃R,L.Perm (pt b o::R)∧∀x,(pt b x::R).Perm (L' x)
instance XW.here {b:Nat}{o:Obj}{L:HL}:XW b (pt b o::L) o (λx=>pt b x::L):=⟨L,.refl _,λ_=>.refl _⟩
instance (priority :=low) XW.there {b:Nat} {o:Obj} {A:HP} {L:HL} {L':Obj→HL} [h:XW b L o L']:XW b (A::L) o (λx=>A::L' x):=by
 obtain ⟨R,h1,h2⟩:=h.at_;refine ⟨A::R,?_,λx=> ?_⟩
 ·exact (h1.cons A).trans (.swap _ _ _)
 ·exact List.Perm.trans (.swap _ _ _) ((h2 x).cons A)
class Sub (L0 L:HL):Prop where
 ent:qi L L0
instance Sub.refl {L:HL}:Sub L L:=⟨kZ L⟩
instance (priority :=low) Sub.there {L0 L:HL} {A:HP} [h:Sub L0 L]:Sub L0 (A::L):=⟨h.ent.drop⟩
def vi (L:HL)(b off:Nat)(cs:List Value):Prop:=
 ∀w F,St w (L++F)→∀j v,cs[j]? =some v→w.cell? ⟨b,off+j,none⟩=some v
theorem vi.sub {L0 L:HL}{b off:Nat}{cs:List Value}(h:vi L0 b off cs)[s:Sub L0 L]:vi L b off cs:=
 λw F H=>h w F (s.ent _ _ H)
theorem vi.ent {L0 L:HL}{b off:Nat}{cs:List Value}(h:vi L0 b off cs)(s:qi L L0):vi L b off cs:=
 λw F H=>h w F (s _ _ H)
theorem vi.find {L:HL}{b:Nat}{l:List Value}{t:TypeId}{fz:Nat×Nat}[h:zK b L (.cells l.toArray t fz)]{off:Nat}{cs:List Value}(hl:∀j v,cs[j]? =some v→l[off+j]? =some v):vi L b off cs:=
 λw F H j v e=>by
  have:=h.at_ w F H
  simp[World.cell?,this,hl j v e]
theorem vi.row {L:HL}{b:Nat}{l:List Value}{t:TypeId}[h:zK b L (cl l t)]:vi L b 0 l:=
 vi.find (h:=h) λj v e=>by simpa using e
theorem vi.part {L:HL}{b off k:Nat}{cs ds:List Value}(h:vi L b off cs)(hd:∀j v,ds[j]? =some v→cs[k+j]? =some v):vi L b (off+k) ds:=
 λw F H j v e=>by have:=h w F H (k+j) v (hd j v e);rwa [←Nat.add_assoc] at this
section
variable {P : Program} {n : Nat} {ops rest : List Oper} {Q : vm} {f : vL} {L : HL}
def jH2 (P:Program)(n:Nat)(o:Oper)(f:vL)(L:HL)(R:Value→HL→Prop):Prop:=
 ∀F a w,KO n a f→St w (L++F)→∃v w' L',(execOp a.eval o).run P w=.ok (.value v) w'∧St w' (L'++F)∧R v L'
theorem vF {d:Option Tmp}{op:Op}{ty:TypeId}{pos:String}{af:Array Edge}{R:Value→HL→Prop}
  (h:jH2 P n ⟨d,op,ty,pos,af,none⟩ f L R) (hk:∀v L',R v L'→qq P n ops rest Q (XB f d v) L'):
  qq P n ops (⟨d,op,ty,pos,af,none⟩::rest) Q f L:=by
 intro ok F a w s t;simp only[wA,List.all_cons,jF] at ok;obtain ⟨v,w',L',hr,t',r⟩:=h F a w s t;refine wpList_plain rfl λK hK=> ?_
 simp only[Oper.wp,hr,Oper.upon];exact hK _ _ (hk v L' r ok.2 F _ _ (s.put ok.1 v) t')
theorem wR {d:Option Tmp}{op:Op}{ty:TypeId}{pos:String}{af:Array Edge}{v:Value}
  (h:∀a w,KO n a f→(execOp a.eval ⟨d,op,ty,pos,af,none⟩).run P w=.ok (.value v) w) (hk:qq P n ops rest Q (XB f d v) L):
  qq P n ops (⟨d,op,ty,pos,af,none⟩::rest) Q f L:=
 vF (R:=λu L'=>u=v∧L'=L) (λF a w s t=>⟨v,w,L,h a w s,t,rfl,rfl⟩) (by rintro _ _ ⟨rfl,rfl⟩;exact hk)
theorem YJ {d:Option Tmp}{op:Op}{ty:TypeId}{pos:String}{af:Array Edge}{L':HL}
  (h:∀F a w,KO n a f→St w (L++F)→∃w',(execOp a.eval ⟨d,op,ty,pos,af,none⟩).run P w=.ok .skip w'∧St w' (L'++F)) (hk:qq P n ops rest Q (XB f d undef) L'):
  qq P n ops (⟨d,op,ty,pos,af,none⟩::rest) Q f L:=by
 intro ok F a w s t;simp only[wA,List.all_cons,jF] at ok;obtain ⟨w',hr,t'⟩:=h F a w s t;refine wpList_plain rfl λK hK=> ?_
 simp only[Oper.wp,hr,Oper.upon];exact hK _ _ (hk ok.2 F _ _ (s.put ok.1 undef) t')
def Yl (ops:List Oper)(f:vL)(g:Nat×Bool):Option Bool:=
 match (ops[g.1]?).bind (·.dst) with
 |some d=>match f d with
  |some (.bool b)=>some (b==g.2)
  |_=>none
 |none=>none
theorem QJ {a:Act}{g:Nat×Bool}{b:Bool}(s:KO n a f)(h:Yl ops f g=some b)(o:Oper)(ho:o.guard=some g):
  Region.wanted o (yielded ops.toArray a.tmps)=b:=by
 simp only[Yl] at h
 cases hd:(ops[g.1]?).bind (·.dst) with
 |none=>rw[hd] at h;simp at h
 |some d=>
  rw[hd] at h;simp only at h
  cases hf:f d with
  |none=>rw[hf] at h;simp at h
  |some v=>
   rw[hf] at h
   cases v<;>simp at h
   rename_i c;have:=s.at_ d _ hf;have hh:a.tmps[d]? =some (.bool c):=by
    rw[Array.getD_eq_getD_getElem?] at this
    cases h2:a.tmps[d]? with
    |none=>rw[h2] at this;simp[undef] at this
    |some u=>rw[h2] at this;simp at this;rw[this]
   have hy:yielded ops.toArray a.tmps g.1=some c:=by
    simp[yielded,hd,hh]
   simp only[Region.wanted,ho];rw[hy,←h]
   cases c<;>cases g.2<;>rfl
theorem S.guard {d:Option Tmp}{op:Op}{ty:TypeId}{pos:String}{af:Array Edge}{g:Nat×Bool}(hg:Yl ops f g=some true)
  (h:qq P n ops (⟨d,op,ty,pos,af,none⟩::rest) Q f L):qq P n ops (⟨d,op,ty,pos,af,some g⟩::rest) Q f L:=by
 intro ok F a w s t;have hw:=QJ s hg ⟨d,op,ty,pos,af,some g⟩ rfl;have:=h (by simpa[wA] using ok) F a w s t;have h2:Region.wanted (⟨d,op,ty,pos,af,none⟩:Oper) (yielded ops.toArray a.tmps)=true:=rfl;simp only[wpList,hw,h2,if_true] at this ⊢;exact this
theorem S.gskip {d:Option Tmp}{op:Op}{ty:TypeId}{pos:String}{af:Array Edge}{g:Nat×Bool}(hg:Yl ops f g=some false)
  (h:qq P n ops rest Q (XB f d undef) L):qq P n ops (⟨d,op,ty,pos,af,some g⟩::rest) Q f L:=by
 intro ok F a w s t;have hw:=QJ s hg ⟨d,op,ty,pos,af,some g⟩ rfl;simp only[wA,List.all_cons,jF] at ok;have:=h ok.2 F _ w (s.put ok.1 undef) t;simp only[wpList,hw,kb,if_false];exact this
theorem S.gskip1 {d:Tmp}{op:Op}{ty:TypeId}{pos:String}{af:Array Edge}{g:Nat×Bool}(hg:Yl ops f g=some false)
  (h:qq P n ops rest Q (upd f d undef) L):qq P n ops (⟨some d,op,ty,pos,af,some g⟩::rest) Q f L:=S.gskip hg h
theorem S.split (d:Nat){b:Bool}(hd:f d=some (.bool b))(ht:b=true→qq P n ops rest Q (upd f d (.bool true)) L)(hf:b=false→qq P n ops rest Q (upd f d (.bool false)) L):
  qq P n ops rest Q f L:=by
 have key:∀c,b=c→qq P n ops rest Q (upd f d (.bool c)) L→qq P n ops rest Q f L:=λc e h ok F a w s t=>
  h ok F a w (s.weaken fun i v hv => by
   simp only[upd] at hv
   cases hb:Nat.beq i d with
   |false=>rw[hb] at hv;exact hv
   |true=>rw[hb] at hv;rw[Nat.eq_of_beq_eq_true hb,hd,e];exact hv) t
 cases b
 ·exact key false rfl (hf rfl)
 ·exact key true rfl (ht rfl)
theorem S.gsp {d:Option Tmp}{op:Op}{ty:TypeId}{pos:String}{af:Array Edge}{g:Nat×Bool}{dg:Nat}{b:Bool}(h0:(ops[g.1]?).bind (·.dst)=some dg)(hd:f dg=some (.bool b))
  (ht:b=true→qq P n ops (⟨d,op,ty,pos,af,some g⟩::rest) Q (upd f dg (.bool true)) L) (hf:b=false→qq P n ops (⟨d,op,ty,pos,af,some g⟩::rest) Q (upd f dg (.bool false)) L):
  qq P n ops (⟨d,op,ty,pos,af,some g⟩::rest) Q f L:=S.split dg hd ht hf
theorem S.gT {d:Option Tmp}{op:Op}{ty:TypeId}{pos:String}{af:Array Edge}{g:Nat×Bool}{dg:Nat}{b:Bool}(h0:(ops[g.1]?).bind (·.dst)=some dg)(hd:f dg=some (.bool b))(hb:b=true)
  (ht:qq P n ops (⟨d,op,ty,pos,af,some g⟩::rest) Q (upd f dg (.bool true)) L):qq P n ops (⟨d,op,ty,pos,af,some g⟩::rest) Q f L:=S.gsp h0 hd (λ_=>ht) (λh=>by rw[hb] at h;cases h)
theorem S.gF {d:Option Tmp}{op:Op}{ty:TypeId}{pos:String}{af:Array Edge}{g:Nat×Bool}{dg:Nat}{b:Bool}(h0:(ops[g.1]?).bind (·.dst)=some dg)(hd:f dg=some (.bool b))(hb:b=false)
  (hf:qq P n ops (⟨d,op,ty,pos,af,some g⟩::rest) Q (upd f dg (.bool false)) L):qq P n ops (⟨d,op,ty,pos,af,some g⟩::rest) Q f L:=S.gsp h0 hd (λh=>by rw[hb] at h;cases h) (λ_=>hf)
end
section
variable {P : Program} {n : Nat} {ops rest : List Oper} {Q : vm} {f : vL} {L : HL}
variable {d : Tmp} {ty : TypeId} {pos : String} {af : Array Edge}
theorem S.pk {c x y:Operand}{b b1 b2:Bool}(hc:ev f c=some (.bool b))(hx:ev f x=some (.bool b1))(hy:ev f y=some (.bool b2))(hk:qq P n ops rest Q (upd f d (.bool (bif b then b1 else b2))) L):qq P n ops (⟨some d,.pick c x y,ty,pos,af,none⟩::rest) Q f L:=
 wR (v:=.bool (bif b then b1 else b2)) (λa w s=>by cases b<;>simp[execOp,s.eval hx,s.eval hy,s.eval hc,asBool]) hk
theorem S.lss {x y:Operand}{t t':TypeId}{k:IntKind}{a b:Int}(hx:ev f x=some (.int k a))(hy:ev f y=some (.int k b))(hk:qq P n ops rest Q (upd f d (.bool (decide (a<b)))) L):qq P n ops (⟨some d,.binOp .lss t x y t',ty,pos,af,none⟩::rest) Q f L:=
 wR (λ_ w s=>by simp[execOp,s.eval hx,s.eval hy,eqGuard,binOp,Op.intCmp]) hk
theorem S.leq {x y:Operand}{t t':TypeId}{k:IntKind}{a b:Int}(hx:ev f x=some (.int k a))(hy:ev f y=some (.int k b))(hk:qq P n ops rest Q (upd f d (.bool (decide (a≤b)))) L):qq P n ops (⟨some d,.binOp .leq t x y t',ty,pos,af,none⟩::rest) Q f L:=
 wR (λ_ w s=>by simp[execOp,s.eval hx,s.eval hy,eqGuard,binOp,Op.intCmp]) hk
theorem S.gtr {x y:Operand}{t t':TypeId}{k:IntKind}{a b:Int}(hx:ev f x=some (.int k a))(hy:ev f y=some (.int k b))(hk:qq P n ops rest Q (upd f d (.bool (decide (b<a)))) L):qq P n ops (⟨some d,.binOp .gtr t x y t',ty,pos,af,none⟩::rest) Q f L:=
 wR (λ_ w s=>by simp[execOp,s.eval hx,s.eval hy,eqGuard,binOp,Op.intCmp]) hk
theorem S.geq {x y:Operand}{t t':TypeId}{k:IntKind}{a b:Int}(hx:ev f x=some (.int k a))(hy:ev f y=some (.int k b))(hk:qq P n ops rest Q (upd f d (.bool (decide (b≤a)))) L):qq P n ops (⟨some d,.binOp .geq t x y t',ty,pos,af,none⟩::rest) Q f L:=
 wR (λ_ w s=>by simp[execOp,s.eval hx,s.eval hy,eqGuard,binOp,Op.intCmp]) hk
theorem S.add {x y:Operand}{t t':TypeId}{k:IntKind}{a b:Int}(hx:ev f x=some (.int k a))(hy:ev f y=some (.int k b))(hk:qq P n ops rest Q (upd f d (.int k (k.wrap (a+b)))) L):qq P n ops (⟨some d,.binOp .add t x y t',ty,pos,af,none⟩::rest) Q f L:=
 wR (λ_ w s=>by simp[execOp,s.eval hx,s.eval hy,eqGuard,binOp,Op.intArith]) hk
theorem S.sub {x y:Operand}{t t':TypeId}{k:IntKind}{a b:Int}(hx:ev f x=some (.int k a))(hy:ev f y=some (.int k b))(hk:qq P n ops rest Q (upd f d (.int k (k.wrap (a - b)))) L):qq P n ops (⟨some d,.binOp .sub t x y t',ty,pos,af,none⟩::rest) Q f L:=
 wR (λ_ w s=>by simp[execOp,s.eval hx,s.eval hy,eqGuard,binOp,Op.intArith]) hk
theorem vl {a:Int}(h1: -9223372036854775808≤a)(h2:a≤9223372036854775807):IntKind.i64.wrap a=a:=IntWalk.i64_in a ⟨h1,h2⟩
theorem wrap_u64 {a:Int}(h1:0≤a)(h2:a≤18446744073709551615):IntKind.u64.wrap a=a:=IntWalk.u64_in a ⟨h1,h2⟩
theorem wrap_u8 {a:Int}(h1:0≤a)(h2:a≤255):IntKind.u8.wrap a=a:=IntWalk.u8_in a ⟨h1,h2⟩
theorem jBk {a:Int}(h1:0≤a)(h2:a≤4294967295):IntKind.u32.wrap a=a:=IntWalk.u32_in a ⟨h1,h2⟩
theorem zW {a:Int}(h1: -2147483648≤a)(h2:a≤2147483647):IntKind.i32.wrap a=a:=IntWalk.i32_in a ⟨h1,h2⟩
theorem S.not {x:Operand}{t:TypeId}{b:Bool}(hx:ev f x=some (.bool b))(hk:qq P n ops rest Q (upd f d (.bool (!b))) L):qq P n ops (⟨some d,.unOp .not t x,ty,pos,af,none⟩::rest) Q f L:=
 wR (λ_ w s=>by simp[execOp,s.eval hx,Op.unary]) hk
theorem ZJ {t:TypeId}(m:Nat){a b:Bool}(h:P.underlying t=some .bool)(w:World):(Op.equalIn (m+1) t (.bool a) (.bool b)).run P w=.ok (a==b) w:=by
 simp[Op.equalIn,run_underlying h]
theorem V3 {t e:TypeId}(m:Nat){a:OA}(h:∀w,(underlying t).run P w=.ok (.pointer e) w)(w:World):(Op.equalIn (m+1) t (.pointer a) (.pointer none)).run P w=.ok a.isNone w:=by
 cases a<;>simp[Op.equalIn,h]
theorem gp {t e:TypeId}(m:Nat){a:OA}{x y x' y':Nat}(h:∀w,(underlying t).run P w=.ok (.slice e) w)(w:World):(Op.equalIn (m+1) t (.slice a x y) (.slice none x' y')).run P w=.ok a.isNone w:=by
 cases a<;>simp[Op.equalIn,h]
class rp (P:Program)(t:TypeId):Prop where
 und:P.underlying t=some .bool
def str (l:List UInt8):Value:=.string ⟨l.toArray⟩
theorem S.ia {x y:Operand}{t e:TypeId}{b o m c sz bts:Nat}{ag:Bool}{zs:List Value}{k:IntKind}{i:Int}[h:wS P t e][h2:Ty P e ag sz zs bts](hx:ev f x=some (.slice (some ⟨b,o,none⟩) m c))(hy:ev f y=some (.int k i))
  (h0:0≤i) (h1:i<m) (hk:qq P n ops rest Q (upd f d (.pointer (some ⟨b,o+i.toNat*sz,none⟩))) L):qq P n ops (⟨some d,.indexAddr t x y,ty,pos,af,none⟩::rest) Q f L:=by
 refine wR (v:=.pointer (some ⟨b,o+i.toNat*sz,none⟩)) (λ_ w s=> ?_) hk;have:(⟨b,o,none⟩:Addr).add (i.toNat*sz)=⟨b,o+i.toNat*sz,none⟩:=by unfold Addr.add;split<;>simp_all
 simp[execOp,s.eval hx,s.eval hy,Instr.indexAt,asIntOf,h.und,h2.size,h0,h1,this]
theorem KE {t:TypeId}{sz bts:Nat}{zs:List Value}[h:Ty P t false sz zs bts]{b o:Nat}{v:Value}{w:World}(hc:w.cell? ⟨b,o,none⟩=some v):(Instr.loadAt t (.pointer (some ⟨b,o,none⟩))).run P w=.ok v w:=by
 simp[Instr.loadAt,Instr.sureAddr,loadVar,h.agg,hc]
theorem V2 {t:TypeId}{sz bts:Nat}{zs:List Value}[h:Ty P t true sz zs bts]{b o:Nat}{cs:List Value}{w:World}(hn:cs.length=sz)(hc:∀j v,cs[j]? =some v→w.cell? ⟨b,o+j,none⟩=some v):(Instr.loadAt t (.pointer (some ⟨b,o,none⟩))).run P w=.ok (.agg cs.toArray) w:=by
 have := run_loadCells_list (P := P) w ⟨b,o,none⟩ cs (fun j v e => by
  have:=hc j v e;have e2:(⟨b,o,none⟩:Addr).add j=⟨b,o+j,none⟩:=by unfold Addr.add;split<;>simp_all
  rw[e2];exact this)
 simp[Instr.loadAt,Instr.sureAddr,loadVar,h.agg,h.size,←hn,this]
end
section
variable {P : Program} {n : Nat} {ops rest : List Oper} {Q : vm} {f : vL} {L : HL}
variable {d : Tmp} {ty : TypeId} {pos : String} {af : Array Edge}
theorem St.new {w:World}{o:Obj}{L:HL}(H:St w L):St {w with heap:=w.heap.push o} (pt w.heap.size o::L):=St.pt_new H rfl
theorem S.al {t sz bts:Nat}{ag:Bool}{zs:List Value}[h:Ty P t ag sz zs bts](hk:∀b,qq P n ops rest Q (upd f d (.pointer (some ⟨b,0,none⟩))) (pt b (cl zs t)::L)):
  qq P n ops (⟨some d,.alloc t,ty,pos,af,none⟩::rest) Q f L:=by
 obtain ⟨z,hz,hz2⟩:=h.zero;refine vF (R:=λv L'=>∃b,v=.pointer (some ⟨b,0,none⟩)∧L'=pt b (cl zs t)::L) (λF a w s t0=> ?_) (by rintro _ _ ⟨b,rfl,rfl⟩;exact hk b);refine ⟨_,_,pt w.heap.size (cl zs t)::L,?_,St.new t0,_,rfl,rfl⟩;have:z.cells=zs.toArray:=by rw[←hz2]
 simp[execOp,Instr.alloc,hz,newVar,newRow,this,cl]
theorem S.bx {t:TypeId}{x:Operand}{v:Value}{cs:List Value}(hx:ev f x=some v)(hv:v.cells.toList=cs)(hk:∀b,qq P n ops rest Q (upd f d (.pointer (some ⟨b,0,none⟩))) (pt b (cl cs t)::L)):
  qq P n ops (⟨some d,.box t x,ty,pos,af,none⟩::rest) Q f L:=by
 refine vF (R:=λv L'=>∃b,v=.pointer (some ⟨b,0,none⟩)∧L'=pt b (cl cs t)::L) (λF a w s t0=> ?_) (by rintro _ _ ⟨b,rfl,rfl⟩;exact hk b);refine ⟨_,_,pt w.heap.size (cl cs t)::L,?_,St.new t0,_,rfl,rfl⟩;have:v.cells=cs.toArray:=by rw[←hv]
 simp[execOp,s.eval hx,Instr.box,newVar,newRow,this,cl]
theorem Qb {w:World}{b:Nat}{t:TypeId}{l l':List Value}(hw:w.heap[b]? =some (cl l t)){L F:HL}{L':Obj→HL}[h:XW b L (cl l t) L'](H:St w (L++F)):St (w.setRow b l'.toArray) (L' (cl l' t)++F):=by
 obtain ⟨R,h1,h2⟩:=h.at_;have H1:St w (pt b (cl l t)::(R++F)):=by simpa using St.perm (h1.append_right F) H
 have H2 := St.pt_write (w' := w.setRow b l'.toArray) (o' := cl l' t) H1 (by
  have:=setRow_heap w b l.toArray l'.toArray t (0,0) hw;exact this) (λk hk=>by simp[World.setRow,Array.getElem?_modify,Ne.symm hk])
 exact St.perm ((h2 (cl l' t)).append_right F) (by simpa using H2)
theorem XW.read {w:World}{b:Nat}{o:Obj}{L F:HL}{L':Obj→HL}(h:XW b L o L')(H:St w (L++F)):w.heap[b]? =some o:=by
 obtain ⟨R,h1,_⟩:=h.at_;exact St.pt_read (L:=R++F) (by simpa using St.perm (h1.append_right F) H)
def vN (l:List Value)(o:Nat)(cs:List Value):List Value:=l.take o++cs++l.drop (o+cs.length)
theorem S.st {x y:Operand}{t t0 sz bts:Nat}{ag:Bool}{zs:List Value}{b o:Nat}{v:Value}{l l' cs:List Value}{L':Obj→HL}[h:Ty P t ag sz zs bts][hb:XW b L (cl l t0) L']
  (hx:ev f x=some (.pointer (some ⟨b,o,none⟩))) (hy:ev f y=some v) (hv:v.cells.toList=cs) (hn:cs.length=sz) (h1:cs.all (·.oneCell')=true) (hlb:Nat.ble (o+sz) l.length=true) (hl':vN l o cs=l')
  (hk:qq P n ops rest Q f (L' (cl l' t0))):qq P n ops (⟨none,.store t x y,ty,pos,af,none⟩::rest) Q f L:=by
 have hl:o+sz≤l.length:=Nat.le_of_ble_eq_true hlb;refine YJ (L':=L' (cl l' t0)) (λF a w s t1=> ?_) hk;have hw:=hb.read t1;refine ⟨w.setRow b l'.toArray,?_,Qb hw t1⟩;have hst:=run_storeCells_at P b o t0 cs 0 l.toArray w hw (by simpa[hn] using hl) (λv hv=>by simpa using List.all_eq_true.1 h1 v hv);have hvs:v.cells=cs.toArray:=by rw[←hv]
 simp only[Nat.add_zero] at hst;unfold vN at hl';rw[hl'] at hst
 simp[execOp,s.eval hx,s.eval hy,Instr.storeAt,Instr.sureAddr,storeVar,hvs,h.size,hn,hst]
theorem tI {l:List Value}{o:Nat}{v:Value}(h:o<l.length):vN l o [v]=l.set o v:=by
 unfold vN;rw[List.set_eq_take_append_cons_drop,jb h];simp
theorem S.st1 {x y:Operand}{t t0 bts:Nat}{ag:Bool}{zs:List Value}{b o:Nat}{v:Value}{l l':List Value}{L':Obj→HL}[h:Ty P t ag 1 zs bts][hb:XW b L (cl l t0) L']
  (hx:ev f x=some (.pointer (some ⟨b,o,none⟩))) (hy:ev f y=some v) (h1:v.oneCell'=true) (hl:Nat.ble (o+1) l.length=true) (hl':l.set o v=l')
  (hk:qq P n ops rest Q f (L' (cl l' t0))):qq P n ops (⟨none,.store t x y,ty,pos,af,none⟩::rest) Q f L:=
 S.st (sz:=1) (cs:=[v]) hx hy (by cases v<;>simp_all[Value.cells,Value.oneCell']) rfl (by simpa using h1) hl (by rw[tI (Nat.le_of_ble_eq_true hl)];exact hl') hk
def Xn (places:List (Nat×Nat×Bool))(cells:List Value):List (Nat×List Value)→List Value
 | []=>cells
 |(i,cs)::r=>Xn places (vN cells ((places[i]?).map (·.1)|>.getD 0) cs) r
theorem jAr (v:List Value)(off:Nat):∀(k:Nat) (cs:Array Value),off+k+v.length≤cs.size→
  (v.zipIdx k).foldl (λcs (c,j)=>cs.setIfInBounds (off+j) c) cs=(vN cs.toList (off+k) v).toArray:=by
 induction v with
 |nil=>intro k cs h;simp[vN]
 |cons c v ih=>
  intro k cs h;simp only[List.zipIdx_cons,List.foldl_cons];simp only[jC] at h;rw[ih (k+1) _ (by simp;omega)]
  congr 1
  have:=Go.list_seg_step cs.toList (off+k) c v (by simp;omega);simp only[vN,Array.toList_setIfInBounds,jC]
  simpa[Nat.add_assoc] using this
theorem Yd {places:List (Nat×Nat×Bool)}{pl:Nat→Option (Nat×Nat)}(hpl:∀i off sz ag,places[i]? =some (off,sz,ag)→pl i=some (off,sz)):
  ∀(parts:List (Nat×Value)) (cells:List Value),(∀p∈parts,∃off sz ag,places[p.1]? =some (off,sz,ag)∧p.2.cells.size=sz∧off+sz≤cells.length)→
   Instr.fill pl cells.toArray parts=some (Xn places cells (parts.map λp=>(p.1,p.2.cells.toList))).toArray
 | [],cells,_=>rfl
 |(i,v)::r,cells,h=>by
  obtain ⟨off,sz,ag,h1,h2,h3⟩:=h (i,v) (by simp);simp only at h1 h2;have e1:=hpl i off sz ag h1;have e2:(decide (v.cells.size≠sz)||decide (off+v.cells.size>cells.toArray.size))=false:=by simp[h2];omega
  have hpa:(vN cells off v.cells.toList).length=cells.length:=by simp[vN,h2];omega
  have hz:v.cells.zipIdx.foldl (λcs (c,j)=>cs.setIfInBounds (off+j) c) cells.toArray=(vN cells off v.cells.toList).toArray:=by
   have:=jAr v.cells.toList off 0 cells.toArray (by simp[h2];omega);rw[←Array.foldl_toList]
   simpa using this
  have ih := Yd hpl r (vN cells off v.cells.toList) (fun p hp => by
   obtain ⟨a,b,c,d,e,g⟩:=h p (by simp[hp]);exact ⟨a,b,c,d,e,by rw[hpa];exact g⟩)
  simp only[Instr.fill,e1,e2,if_false,kb,hz,ih,jL,Xn,h1,Option.map_some,Option.getD_some]
def Qd (f:vL):List (Nat×Operand)→Option (List (Nat×Value))
 | []=>some []
 |(i,x)::r=>match ev f x,Qd f r with
  |some v,some l=>some ((i,v)::l)
  |_,_=>none
theorem QO {a:Act}(s:KO n a f):∀{parts:List (Nat×Operand)} {l:List (Nat×Value)},Qd f parts=some l→parts.map (λp=>(p.1,a.eval p.2))=l
 | [],l,h=>by simp[Qd] at h;simp[h]
 |(i,x)::r,l,h=>by
  simp only[Qd] at h
  cases hx:ev f x with
  |none=>rw[hx] at h;simp at h
  |some v=>
   rw[hx] at h
   cases hr:Qd f r with
   |none=>rw[hr] at h;simp at h
   |some l'=>
    rw[hr] at h;simp only[jk] at h
    simp[s.eval hx,QO s hr,←h]
def bZ (places:List (Nat×Nat×Bool))(m:Nat)(parts:List (Nat×List Value)):Bool:=
 parts.all λp=>match places[p.1]? with
  |some (off,sz,_)=>Nat.beq p.2.length sz&&Nat.ble (off+sz) m
  |none=>false
def cellsOf (l:List (Nat×Value)):List (Nat×List Value):=l.map λp=>(p.1,p.2.cells.toList)
theorem Y6 {places:List (Nat×Nat×Bool)}{m:Nat}{l:List (Nat×Value)}(h:bZ places m (cellsOf l)=true):∀p∈l,∃off sz ag,places[p.1]? =some (off,sz,ag)∧p.2.cells.size=sz∧off+sz≤m:=by
 intro p hp;have:=List.all_eq_true.1 h (p.1,p.2.cells.toList) (jM.2 ⟨p,hp,rfl⟩);simp only at this
 cases hq:places[p.1]? with
 |none=>rw[hq] at this;simp at this
 |some q=>
  obtain ⟨off,sz,ag⟩:=q;rw[hq] at this;simp only[jF] at this;exact ⟨off,sz,ag,rfl,by simpa using Nat.eq_of_beq_eq_true this.1,Nat.le_of_ble_eq_true this.2⟩
theorem nL {fields:Array Field}{fs:List (Nat×Nat×Bool)}(hs:fields.size=fs.length)
  (h:∀(i off sz:Nat) (ag:Bool),fs[i]? =some (off,sz,ag)→∃f:Field,fields[i]? =some f∧f.offset=off∧(∀w,(sizeOf f.type).run P w=.ok sz w)∧(∀w,(isAgg f.type).run P w=.ok ag w)) (w:World):
  (fields.mapM (m:=Sem) λf=>do pure (f.offset,←sizeOf f.type)).run P w=.ok (fs.map λx=>(x.1,x.2.1)).toArray w:=by
 obtain ⟨fl⟩:=fields;simp only[List.size_toArray] at hs;have key:∀(fl:List Field) (fs:List (Nat×Nat×Bool)),fl.length=fs.length→(∀(i off sz:Nat) (ag:Bool),fs[i]? =some (off,sz,ag)→∃f:Field,fl[i]? =some f∧f.offset=off∧(∀w,(sizeOf f.type).run P w=.ok sz w))→
   (fl.mapM (m:=Sem) λf=>do pure (f.offset,←sizeOf f.type)).run P w=.ok (fs.map λx=>(x.1,x.2.1)) w:=by
  intro fl
  induction fl with
  |nil=>intro fs h1 _;cases fs<;>simp_all
  |cons x fl ih=>
   intro fs h1 h2
   cases fs with
   |nil=>simp at h1
   |cons q fs=>
    obtain ⟨off,sz,ag⟩:=q;obtain ⟨f0,e1,e2,e3⟩:=h2 0 off sz ag rfl;simp only[jh,jk] at e1;subst e1;have:=ih fs (by simpa using h1) (λi off sz ag e=>h2 (i+1) off sz ag (by simpa using e));rw[List.mapM_cons];simp only[Sem.run_bind,e3,Result.andThen_ok,Sem.run_pure,this,e2,jL]
 have:=key fl fs hs (λi off sz ag e=>by obtain ⟨f0,a,b,c,_⟩:=h i off sz ag e;exact ⟨f0,by simpa using a,b,c⟩);rw[List.mapM_toArray];simp only[Sem.run_map,this,Result.andThen_ok]
def XG (sz:Nat)(k:Nat):List (Nat×Nat×Bool):=(List.range k).map λi=>(i*sz,sz,false)
def Vh :Nat→List Value→List Value
 |0,_=> []
 |k+1,z=>z++Vh k z
theorem yu (z:List Value):∀k,(Vh k z).length=k*z.length
 |0=>by simp[Vh]
 |k+1=>by simp[Vh,yu z k,Nat.succ_mul,Nat.add_comm]
theorem rL (z:List Value):∀(k i:Nat),i<k*z.length→(Vh k z)[i]? =some (z[i % z.length]!)
 |0,i,h=>by simp at h
 |k+1,i,h=>by
  have hz:0<z.length:=by cases hz:z.length with|zero=>rw[hz] at h;simp at h|succ m=>omega
  simp only[Vh]
  by_cases hi:i<z.length
  ·rw[ko hi,Nat.mod_eq_of_lt hi];simp[hi]
  ·rw[kG zo,rL z k (i - z.length) (by rw[Nat.succ_mul] at h;omega)]
   have:i % z.length=(i - z.length) % z.length:=by rw[←Nat.mod_eq_sub_mod zo]
   rw[this]
theorem Yj (z:Array Value)(m sz:Nat)(hz:z.size=sz):(Array.range (m*sz)).map (λi=>z[i % z.size]!)=(Vh m z.toList).toArray:=by
 apply Array.ext_getElem?;intro i;have hl:(Vh m z.toList).length=m*sz:=by rw[yu];simp[hz]
 by_cases hi:i<m*sz
 ·have e1:(Vh m z.toList).toArray[i]? =(Vh m z.toList)[i]? :=by simp
  rw[e1,rL z.toList m i (by simpa[hz] using hi)]
  simp[hi,hz]
  rw[getElem!_def];cases z[i % sz]? <;>rfl
 ·have e1:(Vh m z.toList).toArray[i]? =(Vh m z.toList)[i]? :=by simp
  rw[Array.getElem?_eq_none (by simp;omega),e1,List.getElem?_eq_none zo]
theorem S.bs {t e:TypeId}{len:Nat}{parts:Array (Nat×Operand)}{sz bts:Nat}{ag:Bool}{zs cs:List Value}{l:List (Nat×Value)}[h1:wS P t e][h2:Ty P e ag sz zs bts]
  (hp:Qd f parts.toList=some l) (hz0:Nat.beq zs.length sz=true) (hsm:Nat.ble (len*sz) 16777216=true) (hf:bZ (XG sz len) (len*sz) (cellsOf l)=true) (hc:Xn (XG sz len) (Vh len zs) (cellsOf l)=cs)
  (hk:∀b,qq P n ops rest Q (upd f d (.slice (some ⟨b,0,none⟩) len len)) (pt b (cl cs e)::L)):qq P n ops (⟨some d,.buildSlice t len parts,ty,pos,af,none⟩::rest) Q f L:=by
 obtain ⟨z,hz,hz2⟩:=h2.zero;refine vF (R:=λv L'=>∃b,v=.slice (some ⟨b,0,none⟩) len len∧L'=pt b (cl cs e)::L) (λF a w s t0=> ?_) (by rintro _ _ ⟨b,rfl,rfl⟩;exact hk b);refine ⟨_,_,pt w.heap.size (cl cs e)::L,?_,St.new t0,_,rfl,rfl⟩;have e1:(parts.map λp=>(p.1,a.eval p.2)).toList=l:=by simpa using QO s hp
 have hzl:zs.length=sz:=Nat.eq_of_beq_eq_true hz0;have hsm':len*sz≤16777216:=Nat.le_of_ble_eq_true hsm;have e3:z.cells=zs.toArray:=by rw[←hz2]
 have hsz:z.cells.size=sz:=by rw[e3];simpa using hzl
 have e5:=Yj z.cells len sz hsz;rw[hz2] at e5;have hlen:(Vh len zs).length=len*sz:=by rw[yu,hzl]
 have e4 := Yd (places := XG sz len) (pl := fun i => some (i * sz,sz)) (fun i off sz' ag e => by
  simp only[XG,jZ] at e
  by_cases hi:i<len
  ·rw[List.getElem?_range hi] at e
   simp only[Option.map_some,jk,js] at e;rw[←e.1,←e.2.1]
  ·rw[List.getElem?_eq_none (by simpa using hi)] at e;simp at e) l (Vh len zs) (by rw[hlen];exact Y6 hf)
 unfold cellsOf at hc;rw[hc] at e4;obtain ⟨pl⟩:=parts;simp only[List.map_toArray] at e1;have hng:¬(len*sz>2^24):=by omega
 simp only[execOp,Instr.buildSlice,Sem.run_bind,h1.und,Result.andThen_ok,h2.size,hng,if_false,List.map_toArray,e1]
 by_cases h0:len*sz=0
 ·have e6:Vh len zs=[]:=jO zo
  rw[e6] at e4;have e7:∀g:Nat→Value,(Array.range 0).map g=([]:List Value).toArray:=λg=>by simp
  simp only[h0,if_true,Sem.run_pure,Result.andThen_ok,e7,e4]
  simp[newRow,cl]
 ·simp only[h0,if_false,Sem.run_bind,hz,Result.andThen_ok,Sem.run_pure,e5,e4]
  simp[newRow,cl]
theorem S.len {x:Operand}{t e:TypeId}{a:OA}{m c:Nat}[h:wS P t e](hx:ev f x=some (.slice a m c))(hk:qq P n ops rest Q (upd f d (.int .i64 m)) L):
  qq P n ops (⟨some d,.call ⟨.builtin .len,#[x],#[t]⟩,ty,pos,af,none⟩::rest) Q f L:=
 wR (λa w s=>by simp[execOp,resolve,invoke,s.eval hx,builtin,Builtin.len_,h.und,goInt]) hk
def xJ (f:vL):List Operand→Option (List Value)
 | []=>some []
 |x::r=>match ev f x,xJ f r with
  |some v,some l=>some (v::l)
  |_,_=>none
theorem Qz {a:Act}(s:KO n a f):∀{xs:List Operand} {l:List Value},xJ f xs=some l→xs.map a.eval=l
 | [],l,h=>by simp[xJ] at h;simp[h]
 |x::r,l,h=>by
  simp only[xJ] at h
  cases hx:ev f x with
  |none=>rw[hx] at h;simp at h
  |some v=>
   rw[hx] at h
   cases hr:xJ f r with
   |none=>rw[hr] at h;simp at h
   |some l'=>
    rw[hr] at h;simp only[jk] at h
    simp[s.eval hx,Qz s hr,←h]
theorem S.call {dd:Option Tmp}{g:FuncId}{xs:Array Operand}{ats:Array TypeId}{args:List Value}{L1 L2:HL}{R:Value→HL→Prop}[he:qj P g]
  (hx:xJ f xs.toList=some args) (hc:qh P g args L1 R) (hL:qi L (L1++L2)) (hk:∀v L',R v L'→qq P n ops rest Q (XB f dd v) (L'++L2)):
  qq P n ops (⟨dd,.call ⟨.value (.func g),xs,ats⟩,ty,pos,af,none⟩::rest) Q f L:=by
 intro ok F a w s t;simp only[wA,List.all_cons,jF] at ok;refine wpList_plain rfl λK hK=> ?_
 have hr:(execOp a.eval ⟨dd,.call ⟨.value (.func g),xs,ats⟩,ty,pos,af,none⟩).run P w=.ok (.enter g args.toArray) w:=by
  have:xs.map a.eval=args.toArray:=by
   obtain ⟨xl⟩:=xs
   simp[Qz s hx]
  have hev:a.eval (.func g)=.func (.func g) #[] #[]:=rfl
  simp[execOp,resolve,Deferred.ofValue,invoke,this,he.run,hev]
 simp only[Oper.wp,hr,Oper.upon];have H1:=hL w F t;rw[ju] at H1;refine (hc (L2++F) w H1).mono ?_;rintro e w' ⟨v,L',rfl,t',r⟩;exact hK _ _ (hk v L' r ok.2 F _ _ (s.put ok.1 v) (by rwa [ju]))
theorem S.cs {g:FuncId}{xs:Array Operand}{ats:Array TypeId}{args:List Value}{L1 L2:HL}{R:Value→HL→Prop}[he:qj P g]
  (hx:xJ f xs.toList=some args) (hc:qh P g args L1 R) (hL:qi L (L1++L2)) (hk:∀v L',R v L'→qq P n ops rest Q (upd f d v) (L'++L2)):
  qq P n ops (⟨some d,.call ⟨.value (.func g),xs,ats⟩,ty,pos,af,none⟩::rest) Q f L:=S.call hx hc hL hk
theorem S.callR {dd:Option Tmp}{g:FuncId}{xs:Array Operand}{ats:Array TypeId}{args:List Value}{R:Value→HL→Prop}[he:qj P g]
  (hx:xJ f xs.toList=some args) (hc:qh P g args L R) (hk:∀v L',R v L'→qq P n ops rest Q (XB f dd v) L'):
  qq P n ops (⟨dd,.call ⟨.value (.func g),xs,ats⟩,ty,pos,af,none⟩::rest) Q f L:=
 S.call (L1:=L) (L2:=[]) hx hc (by simpa using kZ L) (λv L' r=>by simpa using hk v L' r)
theorem S.cr {g:FuncId}{xs:Array Operand}{ats:Array TypeId}{args:List Value}{R:Value→HL→Prop}[he:qj P g]
  (hx:xJ f xs.toList=some args) (hc:qh P g args L R) (hk:∀v L',R v L'→qq P n ops rest Q (upd f d v) L'):
  qq P n ops (⟨some d,.call ⟨.value (.func g),xs,ats⟩,ty,pos,af,none⟩::rest) Q f L:=S.callR hx hc hk
end
def rK (a:Act):ResultVar→Sem Value
 | .tmp t=>pure (a.tmps.getD t undef)
 | .cell b t=>do loadVar t (←asAddr (a.tmps.getD b undef))
def RV (P:Program)(n:Nat)(rs:List ResultVar)(f:vL)(L:HL)(l:List Value):Prop:=
 ∀F a w,KO n a f→St w (L++F)→(rs.mapM (rK a)).run P w=.ok l w
theorem RV.nil {P:Program}{n:Nat}{f:vL}{L:HL}:RV P n [] f L []:=λF a w s t=>by simp
theorem RV.tmp {P:Program}{n:Nat}{rs:List ResultVar}{f:vL}{L:HL}{l:List Value}{t:Nat}{v:Value}(h:f t=some v)(hr:RV P n rs f L l):RV P n (.tmp t::rs) f L (v::l):=λF a w s st=>by
 have:=hr F a w s st;simp only[List.mapM_cons,rK,Sem.run_bind,this,Sem.run_pure,Result.andThen_ok,s.at_ t v h]
theorem RV.cellN {P:Program}{n:Nat}{rs:List ResultVar}{f:vL}{L:HL}{l:List Value}{t ty b o sz bts:Nat}{zs cs:List Value}[hy:Ty P ty true sz zs bts](h:f t=some (.pointer (some ⟨b,o,none⟩)))(hc:vi L b o cs)(hn:cs.length=sz)(hr:RV P n rs f L l):RV P n (.cell t ty::rs) f L (.agg cs.toArray::l):=λF a w s st=>by
 have:=hr F a w s st;have h2:=V2 (h:=hy) hn (hc w F st);simp only[Instr.loadAt,Instr.sureAddr,Sem.run_bind,Sem.run_pure,Result.andThen_ok] at h2;simp only[List.mapM_cons,rK,asAddr,Sem.run_bind,this,Sem.run_pure,Result.andThen_ok,s.at_ t _ h,h2]
def Xj :List Value→Value
 | [v]=>v
 |l=>.tuple l.toArray
def vZ (P:Program)(n:Nat)(rs:List ResultVar)(R:Value→HL→Prop):vm:=λe f L=>
 match e with
 | .normal| .ret=>∃l,RV P n rs f L l∧∃L',qi L L'∧R (Xj l) L'
 |_=>False
def QA :List Value→Nat→vL
 | [],_=>e0
 |v::r,k=>upd (QA r (k+1)) k v
theorem Ku :∀(l:List Value) (k i:Nat) (v:Value),QA l k i=some v→k≤i∧l[i - k]? =some v
 | [],k,i,v,h=>by simp[QA,e0] at h
 |u::r,k,i,v,h=>by
  simp only[QA,upd] at h
  cases hb:Nat.beq i k with
  |true=>
   rw[hb] at h;have:i=k:=Nat.eq_of_beq_eq_true hb;subst this
   simpa using h
  |false=>
   rw[hb] at h;obtain ⟨h1,h2⟩:=Ku r (k+1) i v h;refine ⟨by omega,?_⟩;have:i - k=(i - (k+1))+1:=by omega
   rw[this];simpa using h2
theorem qg {P:Program}{g:FuncId}{fn:Func}{c:Code}{args:List Value}{L:HL}{R:Value→HL→Prop}(hf:P.funcs[g]? =some fn)(hb:fn.body=some c)
  (hok:xZ fn.ntmps c=true) (hn:Nat.ble args.length fn.ntmps=true) (h:swp P fn.ntmps c (vZ P fn.ntmps fn.results.toList R) (QA args 0) L):qh P g args L R:=by
 intro F w t;have hn':args.length≤fn.ntmps:=Nat.le_of_ble_eq_true hn;refine calls_of_wp hf hb (wp_mono (h hok F _ w ?_ t) ?_)
 ·refine ⟨rfl,by simp;omega,λi v e=> ?_⟩
  obtain ⟨_,h2⟩:=Ku args 0 i v e;simp only[Nat.sub_zero] at h2;have hi:i<args.length:=(jm.1 h2).1;rw[Array.getD_eq_getD_getElem?,Array.getElem?_append_left (by simpa using hi)]
  simp[h2]
 ·rintro e a w ⟨f,L',s,t,q⟩
  have fin:(∃l,RV P fn.ntmps fn.results.toList f L' l∧∃L'',qi L' L''∧R (Xj l) L'')→a.defers=[]∧∃v,(results fn a.tmps).run P w=.ok v w∧∃v' L'',Ending.returned v=.returned v'∧St w (L''++F)∧R v' L'':=by
   rintro ⟨l,hl,L2,he,r⟩;refine ⟨s.defers,Xj l,?_,_,_,rfl,he w F t,r⟩;have e3:fn.results=fn.results.toList.toArray:=by simp
   have h2:=hl F a w s t;have e4:results fn a.tmps=(do let vs ←fn.results.mapM (rK a);pure (if h:vs.size=1 then vs[0] else .tuple vs)):=by
    unfold results
    congr 1
   rw[e4,e3,List.mapM_toArray];simp only[Sem.run_bind,Sem.run_map];rw[h2];simp only[Result.andThen_ok,Sem.run_pure]
   cases l with
   |nil=>rfl
   |cons x l=>cases l<;>simp[Xj]
  cases e<;>first|exact fin q|exact q.elim
section
variable {K : vL → HL → Prop} {Q : vm} {f : vL} {L : HL} {rs : List ResultVar} {R : Value → HL → Prop}
theorem N.tn (h:K f L):qL K Q .normal f L:=h
theorem N.tr (h:Q .ret f L):qL K Q .ret f L:=h
theorem N.te {i:Nat}(h:Q (.exit i) f L):qL K Q (.exit i) f L:=h
theorem N.bn {i:Nat}(h:Q .normal f L):qJ i Q .normal f L:=h
theorem N.br {i:Nat}(h:Q .ret f L):qJ i Q .ret f L:=h
theorem N.be {i:Nat}(h:Q .normal f L):qJ i Q (.exit i) f L:=by simp only[qJ];rw[show Nat.beq i i=true from by simp];exact h
theorem N.bx {i j:Nat}(e:Nat.beq j i=false)(h:Q (.exit j) f L):qJ i Q (.exit j) f L:=by simp only[qJ];rw[e];exact h
theorem N.r0 {P:Program}{n:Nat}(h0:RV P n rs f L []){L':HL}(he:qi L L')(h:R (.tuple #[]) L'):vZ P n rs R .ret f L:=⟨_,h0,_,he,h⟩
theorem N.r1 {P:Program}{n:Nat}{v:Value}(h0:RV P n rs f L [v]){L':HL}(he:qi L L')(h:R v L'):vZ P n rs R .ret f L:=⟨_,h0,_,he,h⟩
theorem N.r2 {P:Program}{n:Nat}{v u:Value}(h0:RV P n rs f L [v,u]){L':HL}(he:qi L L')(h:R (.tuple #[v,u]) L'):vZ P n rs R .ret f L:=⟨_,h0,_,he,h⟩
theorem N.t {P:Program}{n i:Nat}{v:Value}(h1:f i=some v){L':HL}(he:qi L L')(h:R v L'):vZ P n [.tmp i] R .ret f L:=N.r1 (RV.tmp h1 RV.nil) he h
theorem N.u {P:Program}{n i j:Nat}{v u:Value}(h1:f i=some v)(h2:f j=some u){L':HL}(he:qi L L')(h:R (.tuple #[v,u]) L'):vZ P n [.tmp i,.tmp j] R .ret f L:=N.r2 (RV.tmp h1 (RV.tmp h2 RV.nil)) he h
theorem N.r3 {P:Program}{n:Nat}{v u x:Value}(h0:RV P n rs f L [v,u,x]){L':HL}(he:qi L L')(h:R (.tuple #[v,u,x]) L'):vZ P n rs R .ret f L:=⟨_,h0,_,he,h⟩
theorem N.n0 {P:Program}{n:Nat}(h0:RV P n rs f L []){L':HL}(he:qi L L')(h:R (.tuple #[]) L'):vZ P n rs R .normal f L:=⟨_,h0,_,he,h⟩
end
class xp (A:HP)(L:HL)(L0:outParam (HL)):Prop where
 ent:qi L (A::L0)
instance xp.here {A:HP}{L:HL}:xp A (A::L) L:=⟨kZ _⟩
instance (priority :=low) xp.there {A B:HP} {L L0:HL} [h:xp A L L0]:xp A (B::L) (B::L0):=⟨(h.ent.cons).trans (qi.perm (.swap _ _ _))⟩
theorem S.cq {P:Program}{n:Nat}{ops rest:List Oper}{Q:vm}{f:vL}{L:HL}{d:Tmp}{ty:TypeId}{pos:String}{af:Array Edge}{A:HP}{L0:HL}{g:FuncId}{xs:Array Operand}{ats:Array TypeId}{args:List Value}{R:Value→HL→Prop}[he:qj P g]
  (hx:xJ f xs.toList=some args) (hc:qh P g args (A::L0) R) [hp:xp A L L0] (hk:∀v L',R v L'→qq P n ops rest Q (upd f d v) L'):
  qq P n ops (⟨some d,.call ⟨.value (.func g),xs,ats⟩,ty,pos,af,none⟩::rest) Q f L:=qo hp.ent (S.cr hx hc hk)
theorem qi.pick {A:HP}{L L0 L':HL}[h:xp A L L0](H:qi L0 L'):qi L (A::L'):=h.ent.trans H.cons
theorem qh.weak {P:Program}{g:FuncId}{args:List Value}{L L':HL}{R R':Value→HL→Prop}(hL:qi L L')(h:qh P g args L' R)(hR:∀v M,R v M→∃M',qi M M'∧R' v M'):qh P g args L R':=by
 intro F w t;refine (h F w (hL w F t)).mono ?_;rintro e w' ⟨v,M,rfl,t',r⟩;obtain ⟨M',h1,h2⟩:=hR v M r;exact ⟨v,M',rfl,h1 _ _ t',h2⟩
theorem qh.ent {P:Program}{g:FuncId}{args:List Value}{L L':HL}{R:Value→HL→Prop}(hL:qi L L')(h:qh P g args L' R):qh P g args L R:=λF w t=>h F w (hL w F t)
theorem qh.ex {P:Program}{g:FuncId}{args:List Value}{α:Sort _}{X:α→HP}{L:HL}{R:Value→HL→Prop}(h:∀x,qh P g args (X x::L) R):qh P g args (d9 X::L) R:=λF w t=>
 let ⟨x,t⟩:=St.open_ex t;h x F w t
theorem qh.pure {P:Program}{g:FuncId}{args:List Value}{φ:Prop}{L:HL}{R:Value→HL→Prop}(h:φ→qh P g args L R):qh P g args (wT φ::L) R:=λF w t=>
 let ⟨x,t⟩:=St.open_pure t;h x F w t
theorem qh.all {P:Program}{g:FuncId}{args:List Value}{L0 L:HL}{R:Value→HL→Prop}(h:qh P g args (L0++L) R):qh P g args (yA L0::L) R:=h.ent qi.open_all
theorem qh.mono {P:Program}{g:FuncId}{args:List Value}{L:HL}{R R':Value→HL→Prop}(h:qh P g args L R)(hR:∀v M,R v M→R' v M):qh P g args L R':=h.weak (kZ _) λv M r=>⟨M,kZ _,hR v M r⟩
theorem qi.ex {α:Sort _}{X:α→HP}{L L':HL}(h:∀x,qi (X x::L) L'):qi (d9 X::L) L':=λw F t=>let ⟨x,t⟩:=St.open_ex (M:=L++F) t;h x w F t
theorem qi.pure {φ:Prop}{L L':HL}(h:φ→qi L L'):qi (wT φ::L) L':=λw F t=>let ⟨x,t⟩:=St.open_pure (M:=L++F) t;h x w F t
theorem YK {P:Program}{n:Nat}{ops rest:List Oper}{Q:vm}{f:vL}{L0 L:HL}(h:qq P n ops rest Q f (L0++L)):qq P n ops rest Q f (yA L0::L):=qo qi.open_all h
theorem de {P:Program}{n:Nat}{c:Code}{Q:vm}{f:vL}{L0 L:HL}(h:swp P n c Q f (L0++L)):swp P n c Q f (yA L0::L):=vh qi.open_all h
def slO (t sz:Nat)(a:OA)(m c:Nat)(cs:List Value):HP:=λ_ h=>
 cs.length=m*sz∧((a=none∧m=0∧c=0)∨∃b rest,a=some ⟨b,0,none⟩∧m≤c∧(cs++rest).length=c*sz∧h b=some (true,cl (cs++rest) t))
class K2 (a:OA)(L:HL)(t sz m c:outParam Nat)(cs:outParam (List Value))(L':outParam (HP→HL)):Prop where
 at_:∃R,L.Perm (slO t sz a m c cs::R)∧∀x,(x::R).Perm (L' x)
instance K2.here {a:OA}{t sz m c:Nat}{cs:List Value}{L:HL}:K2 a (slO t sz a m c cs::L) t sz m c cs (λx=>x::L):=⟨L,.refl _,λ_=>.refl _⟩
instance (priority :=low) K2.there {a:OA} {t sz m c:Nat} {cs:List Value} {A:HP} {L:HL} {L':HP→HL} [h:K2 a L t sz m c cs L']:K2 a (A::L) t sz m c cs (λx=>A::L' x):=by
 obtain ⟨R,h1,h2⟩:=h.at_;exact ⟨A::R,(h1.cons A).trans (.swap _ _ _),λx=>List.Perm.trans (.swap _ _ _) ((h2 x).cons A)⟩
theorem vg {b t sz m:Nat}{cs:List Value}{L:HL}(h:cs.length=m*sz):qi (pt b (cl cs t)::L) (slO t sz (some ⟨b,0,none⟩) m m cs::L):=λw F H=>
 St.of_sep (L:=pt b (cl cs t)::(L++F)) (λhh ⟨h1,h2,o,e,p,r⟩=>⟨h1,h2,o,e,⟨h,.inr ⟨b,[],rfl,jz _,by simpa using h,by have p':h1 b=some (true,cl cs t):=p;simpa using p'⟩⟩,r⟩) H
theorem vj {t sz:Nat}{L:HL}:qi L (slO t sz none 0 0 []::L):=λw F H=>
 St.of_sep (λhh hl=>⟨(λ_=>none:Nat→Option (Bool×Obj)),hh,λb p o q o' e=>by simp at e,by funext b;simp[Hp.add],⟨by simp,.inl ⟨rfl,rfl,rfl⟩⟩,hl⟩) H
theorem qi.nilS {t sz:Nat}{L L':HL}(h:qi L L'):qi L (slO t sz none 0 0 []::L'):=h.trans vj
theorem St.slO_open {w:World}{t sz m c:Nat}{a:OA}{cs:List Value}{L:HL}(H:St w (slO t sz a m c cs::L)):
  cs.length=m*sz∧((a=none∧m=0∧c=0∧cs=[]∧St w L)∨∃b rest,a=some ⟨b,0,none⟩∧m≤c∧(cs++rest).length=c*sz∧St w (pt b (cl (cs++rest) t)::L)):=by
 obtain ⟨h0,f,h1,h2,o,e,⟨hl,hp⟩,m⟩:=H;refine ⟨hl,?_⟩
 rcases hp with ⟨ha,hm,hc⟩|⟨b,rest,ha,hm,hc,hb⟩
 ·refine .inl ⟨ha,hm,hc,jO (by rw[hl,hm];simp),h2,?_,m⟩
  subst e;exact Hp.fits_right o f
 ·exact .inr ⟨b,rest,ha,hm,hc,h0,f,h1,h2,o,e,hb,m⟩
theorem St.slO_shut {w:World}{t sz m c b:Nat}{cs rest:List Value}{L:HL}(hl:cs.length=m*sz)(hm:m≤c)(hc:(cs++rest).length=c*sz)(H:St w (pt b (cl (cs++rest) t)::L)):St w (slO t sz (some ⟨b,0,none⟩) m c cs::L):=
 St.of_sep (L:=pt b (cl (cs++rest) t)::L) (λhh ⟨h1,h2,o,e,p,r⟩=>⟨h1,h2,o,e,⟨hl,.inr ⟨b,rest,rfl,hm,hc,p⟩⟩,r⟩) H
theorem St.slO_none {w:World}{t sz:Nat}{L:HL}(H:St w L):St w (slO t sz none 0 0 []::L):=vj (t:=t) (sz:=sz) (L:=L) w [] (by simpa using H)|>λh=>by simpa using h
theorem vi.slO {L:HL}{t sz m c b:Nat}{cs:List Value}(h:∃R,qi L (slO t sz (some ⟨b,0,none⟩) m c cs::R)):vi L b 0 cs:=λw F H j v e=>by
 obtain ⟨R,h⟩:=h;have:=St.slO_open (h w F H)
 rcases this.2 with ⟨h1,_⟩|⟨b',rest,h1,_,_,h4⟩
 ·simp at h1
 ·simp only[jk,Addr.mk.injEq,and_true] at h1
  subst h1;have:=St.pt_read h4;have hj:j<cs.length:=(jm.1 e).1
  simp[World.cell?,this,cl,ko hj,e]
section
variable {P : Program} {n : Nat} {ops rest : List Oper} {Q : vm} {f : vL} {L : HL}
variable {d : Tmp} {ty : TypeId} {pos : String} {af : Array Edge}
theorem V1 (b:Nat):∀(vs:List Value) (o:Nat) (w:World),ext (w.setCells b o vs)=ext w
 | [],_,_=>rfl
 |v::r,o,w=>(V1 b r (o+1) (w.setCell ⟨b,o,none⟩ v)).trans rfl
theorem gm (b:Nat)(t:TypeId)(w:World):∀(vs l:List Value) (o:Nat),w.heap[b]? =some (cl l t)→o+vs.length≤l.length→
  (w.setCells b o vs).heap[b]? =some (cl (vN l o vs) t)∧∀k,k≠b→(w.setCells b o vs).heap[k]? =w.heap[k]? :=by
 intro vs
 induction vs generalizing w with
 |nil=>intro l o h hl;simp[World.setCells,vN,h]
 |cons v r ih=>
  intro l o h hl;simp only[jC] at hl;have h1:(w.setCell ⟨b,o,none⟩ v).heap[b]? =some (cl (l.set o v) t):=by
   simp[World.setCell,Array.getElem?_modify,h,cl]
  obtain ⟨e1,e2⟩:=ih (w.setCell ⟨b,o,none⟩ v) (l.set o v) (o+1) h1 (by simp;omega);refine ⟨?_,λk hk=> ?_⟩
  ·simp only[World.setCells]
   rw[e1];have:=Go.list_seg_step l o v r zo;simp only[vN,jC];rw[←this]
  ·simp only[World.setCells]
   rw[e2 k hk]
   simp[World.setCell,Array.getElem?_modify,Ne.symm hk]
structure vG (P:Program)(L:HL)(sz:Nat)(tx:TypeId)(x:Value)(k:Nat)(ys:List Value):Prop where
 src:∀w F,St w (L++F)→Src P sz tx x k ys w
theorem vG.sl {sz:Nat}{tx e':TypeId}[h:wS P tx e']{b o k c:Nat}{ys:List Value}(hr:vi L b o ys)(hl:ys.length=k*sz)(h1:ys.all (·.oneCell')=true):vG P L sz tx (.slice (some ⟨b,o,none⟩) k c) k ys:=
 ⟨fun w F H => Src.ofSlice w h.raw ⟨b,o,none⟩ k c ys hl (fun j u e => by
  have:=hr w F H j u e;have e2:(⟨b,o,none⟩:Addr).add j=⟨b,o+j,none⟩:=by unfold Addr.add;split<;>simp_all
  rw[e2];exact this) (λu hu=>by simpa using List.all_eq_true.1 h1 u hu)⟩
theorem vG.nil {sz:Nat}{tx e':TypeId}[h:wS P tx e']{c:Nat}:vG P L sz tx (.slice none 0 c) 0 []:=⟨λw F H=>Src.ofNil w h.raw c⟩
theorem S.app {x y:Operand}{t tx e:TypeId}{sz bts:Nat}{ag:Bool}{zs:List Value}{a:OA}{m c k:Nat}{v:Value}{cs ys:List Value}{L':HP→HL}[h:wS P t e][h2:Ty P e ag sz zs bts][hu:K2 a L e sz m c cs L']
  (hx:ev f x=some (.slice a m c)) (hy:ev f y=some v) (hs:vG P L sz tx v k ys) (hz:zs.length=sz) (hfit:(m+k)*bts≤140737488355328) (h63:m+k≤9223372036854775807)
  (hk:∀a' c',qq P n ops rest Q (upd f d (.slice a' (m+k) c')) (L' (slO e sz a' (m+k) c' (cs++ys)))):
  qq P n ops (⟨some d,.call ⟨.builtin .append,#[x,y],#[t,tx]⟩,ty,pos,af,none⟩::rest) Q f L:=by
 obtain ⟨i,z,hi,hisz,hib,hiz,hzz⟩:=h2.raw;refine vF (R:=λv L1=>∃a' c',v=.slice a' (m+k) c'∧L1=L' (slO e sz a' (m+k) c' (cs++ys))) (λF ac w s t0=> ?_) (by rintro _ _ ⟨a',c',rfl,rfl⟩;exact hk a' c');obtain ⟨R,p1,p2⟩:=hu.at_;have H1:St w (slO e sz a m c cs::(R++F)):=by simpa using St.perm (p1.append_right F) t0
 have hsrc:=hs.src w F t0;obtain ⟨hcl,hcase⟩:=St.slO_open H1;have hev:(execOp ac.eval ⟨some d,.call ⟨.builtin .append,#[x,y],#[t,tx]⟩,ty,pos,af,none⟩).run P w=((Builtin.append_ #[t,tx] ty #[.slice a m c,v]).run P w).andThen λu w'=>.ok (.value u) w':=by
  simp[execOp,resolve,invoke,s.eval hx,s.eval hy,builtin]
 rw[hev];clear hev;have hyl:ys.length=k*sz:=by rw[hsrc.newsLen]
 have grow:∀(hg:c<m+k),(Builtin.firstCells i.size m (.slice a m c)).run P w.drew=.ok cs.toArray w.drew→St w (R++F)→
   ∃v' w' L1,(((Builtin.append_ #[t,tx] ty #[.slice a m c,v]).run P w).andThen λu w'=>Result.ok (Next.value u) w')=Result.ok (Next.value v') w'∧St w' (L1++F)∧∃a' c',v'=Value.slice a' (m+k) c'∧L1=L' (slO e sz a' (m+k) c' (cs++ys)):=by
  intro hg hold hR;have hfit':Builtin.nextslicecap (m+k) c*i.bytes≤281474976710656:=growslice_fits hg (by rw[hib];exact hfit);have hr:=run_append_grow_src (P:=P) w t tx ty e i z h.raw hi hiz a m c cs hold v k ys (hisz▸hsrc) hg zo hfit';refine ⟨_,_,L' (slO e sz (some ⟨w.heap.size,0,none⟩) (m+k) (grownCap w (m+k) c e) (cs++ys)),by rw[hr];rfl,?_,_,_,rfl,rfl⟩;have hcap:m+k≤grownCap w (m+k) c e:=by
   simp only[grownCap,Question.cut];omega
  have hcl2:(cs++ys).length=(m+k)*sz:=by simp[hcl,hyl,Nat.add_mul]
  have hzl:z.cells.size=sz:=by rw[←hz,←hzz];simp
  have H2:St (w.drew.alloc (.cells ((cs++ys).toArray++Builtin.zeroCells z.cells (grownCap w (m+k) c e - (m+k))) e)) (pt w.heap.size (cl ((cs++ys)++(Builtin.zeroCells z.cells (grownCap w (m+k) c e - (m+k))).toList) e)::(R++F)):=by
   refine St.pt_new hR ?_
   show w.heap.push _=_
   congr 1
   simp[cl]
  have H3 := St.slO_shut hcl2 hcap (by
   simp only[jc,hcl,hyl,Builtin.zeroCells,Array.length_toList,Array.size_map,Array.size_range,hzl];rw[←Nat.add_mul,←Nat.add_mul];congr 1;omega) H2
  exact St.perm ((p2 _).append_right F) (by simpa using H3)
 rcases hcase with ⟨rfl,rfl,rfl,rfl,hR⟩|⟨b,rest',rfl,hmc,hrl,hpt⟩
 ·by_cases hk0:k=0
  ·subst hk0
   have hys:ys=[]:=jO (by simpa using hyl);subst hys;refine ⟨.slice none 0 0,w,L' (slO e sz none 0 0 []),?_,?_,none,0,rfl,rfl⟩
   ·have:=hsrc.cells
    rcases hsrc.kind with ⟨e',hk'⟩|hk'<;>simp[Builtin.append_,run_underlying h.raw,run_underlying hk',sizeOf,typeInfo,hi,hsrc.len,hisz,this]
   ·exact St.perm ((p2 _).append_right F) (by simpa using St.slO_none (t:=e) (sz:=sz) hR)
  ·exact grow zo (by rw[run_firstCells_none]) hR
 ·have hrow:=St.pt_read hpt
  by_cases hroom:m+k≤c
  ·have hlen:m*sz+ys.length≤(cs++rest').length:=by rw[hrl,hyl,←Nat.add_mul];exact Nat.mul_le_mul_right _ hroom
   have hr := run_append_room_src (P := P) w t tx ty e i h.raw hi b 0 m c v k ys (hisz ▸ hsrc) hroom (fun j hj => by
    rw[hisz];have:m*sz+j<(cs++rest').length:=by omega
    simp only[World.cell?,hrow,cl]
    simp[kR,jY this]) (λj hj=>by simp[World.frozen?,hrow,cl])
   rw[hisz,kR] at hr;refine ⟨.slice (some ⟨b,0,none⟩) (m+k) c,_,L' (slO e sz (some ⟨b,0,none⟩) (m+k) c (cs++ys)),by rw[hr];rfl,?_,_,_,rfl,rfl⟩;obtain ⟨e1,e2⟩:=gm b e w ys (cs++rest') (m*sz) hrow hlen;have hput:vN (cs++rest') (m*sz) ys=(cs++ys)++rest'.drop ys.length:=by
    simp only[vN,←hcl,List.take_left,kN,ju]
    congr 2
    rw[List.drop_eq_nil_of_le zo];simp
   have H2 := St.pt_write (w' := w.setCells b (m * sz) ys) (o' := cl ((cs ++ ys) ++ rest'.drop ys.length) e) hpt (by rw [e1,hput]) e2 (V1 ..);have H3 := St.slO_shut (m := m + k) (c := c) (sz := sz) (by simp [hcl,hyl,Nat.add_mul]) hroom (by
    simp only[jc,jE] at hrl hlen ⊢;omega) H2
   exact St.perm ((p2 _).append_right F) (by simpa using H3)
  ·refine grow zo ?_ hpt.tail
   refine run_firstCells_some w.drew i.size m _ m c cs (by rw[hisz];exact hcl) (λj u hj=> ?_);have e2:(⟨b,0,none⟩:Addr).add j=⟨b,j,none⟩:=by unfold Addr.add;split<;>simp_all
   have hj':j<cs.length:=(jm.1 hj).1;have hrow':w.drew.heap[b]? =some (cl (cs++rest') e):=hrow;rw[e2];simp[World.cell?,hrow',cl,ko hj',hj]
theorem S.app0 {x y:Operand}{t tx e:TypeId}{sz bts:Nat}{ag:Bool}{zs:List Value}{a:OA}{c k:Nat}{v:Value}{cs ys:List Value}{L':HP→HL}[h:wS P t e][h2:Ty P e ag sz zs bts][hu:K2 a L e sz 0 c cs L']
  (hx:ev f x=some (.slice a 0 c)) (hy:ev f y=some v) (hcs:cs=[]) (hs:vG P L sz tx v k ys) (hz:zs.length=sz) (hfit:k*bts≤140737488355328) (h63:k≤9223372036854775807)
  (hk:∀a' c',qq P n ops rest Q (upd f d (.slice a' k c')) (L' (slO e sz a' k c' ys))):
  qq P n ops (⟨some d,.call ⟨.builtin .append,#[x,y],#[t,tx]⟩,ty,pos,af,none⟩::rest) Q f L:=by
 subst hcs;refine S.app hx hy hs hz (by simpa using hfit) (by simpa using h63) (λa' c'=> ?_)
 simpa using hk a' c'
end
theorem qh.slO {P:Program}{g:FuncId}{args:List Value}{L:HL}{R:Value→HL→Prop}{t sz m c:Nat}{a:OA}{cs:List Value}(hm:0<m)
  (h:∀b rest,a=some ⟨b,0,none⟩→m≤c→(cs++rest).length=c*sz→qh P g args (pt b (cl (cs++rest) t)::L) R):qh P g args (slO t sz a m c cs::L) R:=λF w H=>by
 rcases (St.slO_open H).2 with ⟨_,h0,_⟩|⟨b,rest,e,h1,h2,h3⟩
 ·omega
 ·exact h b rest e h1 h2 F w h3
theorem slO_shut {b t sz m c:Nat}{cs rest:List Value}{L:HL}(hl:cs.length=m*sz)(hm:m≤c)(hc:(cs++rest).length=c*sz):qi (pt b (cl (cs++rest) t)::L) (slO t sz (some ⟨b,0,none⟩) m c cs::L):=λw F H=>St.slO_shut hl hm hc H
section
variable {P : Program} {ops : Array Oper} {Q : Exit → Act → World → Prop} {J : Array Bool → World → Prop}
def reach (ops:Array Oper):Nat→Nat→Nat→Bool
 |0,_,_=>false
 |k+1,i,j=>match ops[j]? with
  |some o=>o.after.any λe=>Region.binds .any e&&(e.on==i||reach ops k i e.on)
  |none=>false
def XF (ops:Array Oper)(listed:Array Bool):Prop:=∀j o,ops[j]? =some o→listed.getD j false=true→∀e∈o.after,Region.binds .any e=true→listed.getD e.on false=true
theorem XF.reach {listed:Array Bool}(hs:XF ops listed):∀(k i j:Nat) (o:Oper),ops[j]? =some o→(∀e∈o.after,Region.binds .any e=true→listed.getD e.on false=true)→reach ops k i j=true→listed.getD i false=true
 |0,_,_,_,_,_,h=>by simp[SX.reach] at h
 |k+1,i,j,o,ho,hall,h=>by
  simp only[SX.reach,ho] at h;obtain ⟨e,he,hb⟩:=Array.any_eq_true'.1 h;simp only[jF,kU,beq_iff_eq] at hb;have hl:=hall e he hb.1
  rcases hb.2 with h1|h1
  ·rw[←h1];exact hl
  ·cases ho2:ops[e.on]? with
   |none=>cases k<;>simp[SX.reach,ho2] at h1
   |some o2=>exact hs.reach k i e.on o2 ho2 (λe2 h2 b2=>hs e.on o2 ho2 hl e2 h2 b2) h1
theorem XF.set {listed:Array Bool}{i:Nat}(hs:XF ops listed)(hr:i∈Region.ready .any ops listed):XF ops (listed.setIfInBounds i true):=by
 intro j o ho hj e he hb
 by_cases hij:i=j
 ·subst hij
  obtain ⟨_,o',ho',hall⟩:=mem_ready.1 hr;rw[ho] at ho';cases ho';exact getD_set_true (hall e he hb)
 ·rw[getD_set_ne false hij] at hj
  exact getD_set_true (hs j o ho hj e he hb)
def ZV (P:Program)(ops:Array Oper)(Q:Exit→Act→World→Prop)(J:Array Bool→World→Prop):Nat→Array Bool→Act→World→Prop
 |0,listed,a,w=>Region.ready .any ops listed=[]∧Q .normal a w
 |k+1,listed,a,w=>(Region.ready .any ops listed=[]→Q .normal a w)∧
   ∀i∈Region.ready .any ops listed,wpOp P ops Q i (λa w=>J (listed.setIfInBounds i true) w∧ZV P ops Q J k (listed.setIfInBounds i true) a w) a w
theorem mh :∀(k:Nat) (listed:Array Bool) (a:Act) (w:World),ZV P ops Q J k listed a w→wpAny P .any ops Q k listed a w
 |0,_,_,_,h=>h
 |k+1,_,_,_,h=>⟨h.1,λi hi=>wpOp_mono (λa w hh=>mh k _ a w hh.2) (h.2 i hi)⟩
def YI (P:Program)(ops:Array Oper)(I:World→Prop)(o:Oper)(v:Value)(a:Act):Prop:=
 (Region.wanted o (yielded ops a.tmps)=true∧∀w,I w→(execOp a.eval o).run P w=.ok (.value v) w)∨(Region.wanted o (yielded ops a.tmps)=false∧v=undef)
theorem YI.wpOp {I:World→Prop}{i:Nat}{o:Oper}{v:Value}{a:Act}{w:World}(hi:ops[i]? =some o)(hw:I w)(hy:YI P ops I o v a){K:Act→World→Prop}(h:K (a.put o.dst v) w):wpOp P ops Q i K a w:=by
 unfold Go.wpOp;simp only[hi]
 rcases hy with ⟨h1,h2⟩|⟨h1,rfl⟩
 ·simp only[h1,if_true,Oper.wp,h2 w hw,Oper.upon];exact .inl h
 ·simp only[h1,kb,if_false];exact h
theorem YI.put {I:World→Prop}{oi oj:Oper}{v:Value}{a:Act}(hsi:∀cs b,oi.op≠.select cs b)(h3:∀d,oj.dst=some d→d∉oi.looksAt ops)(hy:YI P ops I oi v a)(u:Value):YI P ops I oi v (a.put oj.dst u):=by
 unfold YI at*;rw[execOp_put oi hsi a oj.dst u h3,wanted_put oi a oj.dst u h3];exact hy
theorem fU {I:World→Prop}{j:Nat}{oi oj:Oper}{v:Value}(hj:ops[j]? =some oj)(hap:oi.apart ops oj=true)(hsi:∀cs b,oi.op≠.select cs b)(hsj:∀cs b,oj.op≠.select cs b)
  (hQ:∀c a w,Q (.panic c) (a.put oi.dst v) w→Q (.panic c) a w) {K:Act→World→Prop} {a:Act} {w:World} (hy:YI P ops I oi v a) (h:wpOp P ops Q j K (a.put oi.dst v) w):
  wpOp P ops Q j (λa' w'=>YI P ops I oi v a'∧K (a'.put oi.dst v) w') a w:=by
 obtain ⟨h1,h2,h3⟩:=Oper.apart_spec hap;unfold wpOp at*;simp only[hj] at*;rw[wanted_put oj a oi.dst v h1] at h
 by_cases hw:Region.wanted oj (yielded ops a.tmps)=true
 ·rw[jb hw] at h ⊢
  unfold Oper.wp Oper.asks at*;rw[execOp_put oj hsj a oi.dst v h1] at h
  rcases h with h|h
  case inr=>exact .inr h
  refine .inl ?_;generalize (execOp a.eval oj).run P w=r at*
  cases r with
  |ok m w'=>
   cases m<;>simp only[Oper.upon] at h ⊢
   case value u=>exact ⟨hy.put hsi h3 u,by rw[←Act.put_comm a v u h2];exact h⟩
   case skip=>exact ⟨hy.put hsi h3 _,by rw[←Act.put_comm a v undef h2];exact h⟩
   case defer d=>
    refine ⟨YI.put hsi h3 (show YI P ops I oi v {a with defers:=d::a.defers} from hy) _,?_⟩;rw[←Act.put_comm _ v undef h2,←Act.put_defers];exact h
   case enter f args=>
    refine Calls.mono h λe w'' he=> ?_
    cases e with
    |returned u=>exact ⟨hy.put hsi h3 u,by rw[←Act.put_comm a v u h2];exact he⟩
    |panicked c=>exact hQ _ _ _ he
    |outgrown=>exact he
   case row row args=>exact Rows.mono h λu w'' he=>⟨hy.put hsi h3 u,by rw[←Act.put_comm a v u h2];exact he⟩
  |halt x w'=>
   cases x<;>simp only[Oper.upon] at h ⊢
   case panic u=>exact hQ _ _ _ h
 ·rw[ja hw] at h ⊢
  exact ⟨hy.put hsi h3 _,by rw[←Act.put_comm a v undef h2];exact h⟩
theorem Zk {I:World→Prop}{i:Nat}{oi:Oper}{v:Value}(hi:ops[i]? =some oi)(hsel:Region.noSelect ops=true)(hQ:∀c a w,Q (.panic c) (a.put oi.dst v) w→Q (.panic c) a w)
  (hJ:∀listed w,XF ops listed→listed.getD i false=false→J (listed.setIfInBounds i true) w→J listed w∧I w):
  ∀(k:Nat) (listed:Array Bool) (a:Act) (w:World),XF ops listed→
   (∀j oj,ops[j]? =some oj→j≠i→listed.getD j true=false→(∀e∈oj.after,Region.binds .any e=true→e.on≠i)→oi.apart ops oj=true)→
   i∈Region.ready .any ops listed→YI P ops I oi v a→I w→J (listed.setIfInBounds i true) w→
   ZV P ops Q J k (listed.setIfInBounds i true) (a.put oi.dst v) w→ZV P ops Q J (k+1) listed a w:=by
 intro k
 induction k with
 |zero=>
  intro listed a w _ _ hr hy hw hjw H;refine ⟨λh=>(by rw[h] at hr;cases hr),λj hj=> ?_⟩
  by_cases hji:j=i
  ·subst hji;exact hy.wpOp hi hw ⟨hjw,H⟩
  ·have:=ready_mono hj hji
   rw[H.1] at this;cases this
 |succ k ih=>
  intro listed a w hsh hfree hr hy hw hjw H;refine ⟨λh=>(by rw[h] at hr;cases hr),λj hj=> ?_⟩
  by_cases hji:j=i
  ·subst hji;exact hy.wpOp hi hw ⟨hjw,H⟩
  ·have h1:=H.2 j (ready_mono hj hji)
   obtain ⟨hjun,oj,hoj,hall⟩:=mem_ready.1 hj;have hiun:listed.getD i false=false:=by
    have h0:=(mem_ready.1 hr).1
    rcases Nat.lt_or_ge i listed.size with h'|h'
    ·simp[h'] at h0 ⊢;exact h0
    ·simp[Array.getElem?_eq_none h']
   have hnot:∀e∈oj.after,Region.binds .any e=true→e.on≠i:=λe he hb heq=>by
    have h1:=hall e he hb;rw[heq,hiun] at h1;cases h1
   have h2:=fU hoj (hfree j oj hoj hji hjun hnot) (Region.noSelect_spec hsel i oi · · hi) (Region.noSelect_spec hsel j oj · · hoj) hQ hy h1;have hfree':∀m om,ops[m]? =some om→m≠i→(listed.setIfInBounds j true).getD m true=false→(∀e∈om.after,Region.binds .any e=true→e.on≠i)→oi.apart ops om=true:=λm om hm hmi hun hno=>by
    refine hfree m om hm hmi ?_ hno
    by_cases hjm:j=m
    ·subst hjm;exact hjun
    ·rw[getD_set_ne true hjm] at hun;exact hun
   have hsh':=hsh.set hj;have hr':=ready_mono hr (Ne.symm hji);have hiun':(listed.setIfInBounds j true).getD i false=false:=by rw[getD_set_ne false hji];exact hiun
   refine wpOp_mono (λa' w' h3=> ?_) h2;obtain ⟨hy',hj',h3⟩:=h3;rw[Array.setIfInBounds_comm _ _ (Ne.symm hji)] at hj' h3;obtain ⟨hJ1,hI1⟩:=hJ _ _ hsh' hiun' hj';exact ⟨hJ1,ih _ a' w' hsh' hfree' hr' hy' hI1 hj' h3⟩
def xE (cs:List Nat)(I:World→Prop)(listed:Array Bool)(w:World):Prop:=(∃m∈cs,listed.getD m false=true)∨I w
theorem ng {cs:List Nat}{I I0:World→Prop}{i:Nat}{listed:Array Bool}{w:World}(h0:∀w,I0 w→I w)(hc:(cs.all λm=>m !=i&&(ops[m]?).isSome&&reach ops 4 i m)=true)(hsh:XF ops listed)(hi:listed.getD i false=false)
  (h:xE cs I0 (listed.setIfInBounds i true) w):xE cs I0 listed w∧I w:=by
 rcases h with ⟨m,hm,hl⟩|h
 ·have:=List.all_eq_true.1 hc m hm
  simp only[jF,bne_iff_ne] at this;obtain ⟨⟨h1,h2⟩,h3⟩:=this;rw[getD_set_ne false (Ne.symm h1)] at hl;obtain ⟨o,ho⟩:=Option.isSome_iff_exists.1 h2;have:=hsh.reach 4 i m o ho (λe he hb=>hsh m o ho hl e he hb) h3;rw[hi] at this;cases this
 ·exact ⟨.inr h,h0 w h⟩
theorem f5 {cs:List Nat}{I0:World→Prop}{i:Nat}{listed:Array Bool}{w:World}(hc:cs.contains i=false)
  (h:xE cs I0 (listed.setIfInBounds i true) w):xE cs I0 listed w:=by
 rcases h with ⟨m,hm,hl⟩|h
 ·have:m≠i:=λe=>by subst e;simp at hc;exact hc hm
  rw[getD_set_ne false (Ne.symm this)] at hl;exact .inl ⟨m,hm,hl⟩
 ·exact .inr h
theorem tz (m:Nat):XF ops (Array.replicate m false):=by
 intro j o ho hj
 simp[Array.getD_eq_getD_getElem?,Array.getElem?_replicate] at hj
 split at hj<;>simp at hj
end
section
variable {P : Program} {n : Nat} {ops : List Oper} {Q : vm} {f : vL} {A L : HL} {cs : List Nat}
def vu (P:Program)(n:Nat)(ops:List Oper)(Q:vm)(cs:List Nat)(A:HL)(k:Nat)(listed:Array Bool)(held:Bool)(f:vL)(L:HL):Prop:=
 wA n ops=true→∀F a w,KO n a f→XF ops.toArray listed→St w ((bif held then L++A else L)++F)→(held=false→∃m∈cs,listed.getD m false=true)→
  ZV P ops.toArray (lift n F Q) (xE cs λw=>∃L,St w (L++(A++F))) k listed a w
theorem jBD {id:Nat}(cs:List Nat)(A L1:HL)(hm:P.follows .mixedOrders=true)(hL:qi L (L1++A))(h:vu P n ops Q cs A ops.length (Array.replicate ops.length false) true f L1):swp P n (.region id ops.toArray true) Q f L:=by
 intro ok F a w s t;refine wp_region_any hm ?_;have h0:=h (by simpa[xZ] using ok) F a {w with drawn:=w.drawn+1} s (tz _) (St.heap (w:=w) rfl (hL w F t)) (λh=>by cases h);have:=mh _ _ _ _ h0
 simpa using this
theorem Qh {i:Nat}{o:Oper}(ok:wA n ops=true)(hi:ops[i]? =some o):o.dst.all (λd=>decide (d<n))=true:=
 List.all_eq_true.1 ok o (jn hi)
def qk (P:Program)(n:Nat)(ops:List Oper)(o:Oper)(f:vL)(A:HL)(v:Value):Prop:=
 ∀a,KO n a f→(Region.wanted o (yielded ops.toArray a.tmps)=true∧∀w F,St w (A++F)→(execOp a.eval o).run P w=.ok (.value v) w)∨(Region.wanted o (yielded ops.toArray a.tmps)=false∧v=undef)
def xg (P:Program)(n:Nat)(ops:List Oper)(o:Oper)(K:vL→HL→Prop)(f:vL)(L:HL):Prop:=
 qq P n ops [o] (λe f L=>match e with| .normal=>K f L|_=>False) f L
theorem YC {i:Nat}{listed:Array Bool}{ops:Array Oper}(hr:i∈Region.ready .any ops listed):listed.getD i false=false:=by
 have h0:=(mem_ready.1 hr).1
 rcases Nat.lt_or_ge i listed.size with h'|h'
 ·simp[h'] at h0 ⊢;exact h0
 ·simp[Array.getElem?_eq_none h']
theorem Wg {i:Nat}{listed:Array Bool}(h:∃m∈cs,listed.getD m false=true):∃m∈cs,(listed.setIfInBounds i true).getD m false=true:=by
 obtain ⟨m,hm,hl⟩:=h;exact ⟨m,hm,getD_set_true hl⟩
theorem A.takeR (i:Nat){k:Nat}{listed:Array Bool}{o:Oper}{v:Value}(hi:ops[i]? =some o)(hs:Region.noSelect ops.toArray=true)(hf:Region.free .any ops.toArray listed i=true)(hr:(Region.ready .any ops.toArray listed).contains i=true)
  (hc:(cs.all λm=>m !=i&&(ops.toArray[m]?).isSome&&reach ops.toArray 4 i m)=true) (hy:qk P n ops o f A v) (hQ:∀c f L,¬Q (.panic c) f L) (h:vu P n ops Q cs A k (listed.setIfInBounds i true) true (XB f o.dst v) L):vu P n ops Q cs A (k+1) listed true f L:=by
 intro ok F a w s hsh t hh;have hi':ops.toArray[i]? =some o:=by simpa using hi
 have hr':i∈Region.ready .any ops.toArray listed:=by simpa using hr
 have t':St w (L++(A++F)):=by simpa using t
 refine Zk (I:=λw=>∃L,St w (L++(A++F))) (J:=xE cs λw=>∃L,St w (L++(A++F))) hi' hs (λc a w ⟨_,_,_,_,q⟩=>absurd q (hQ _ _ _)) (λlisted w hsh hun hj=>ng (λ_ h=>h) hc hsh hun hj) k listed a w hsh (Region.free_spec hi' hf) hr' ?_ ⟨L,t'⟩ (.inr ⟨L,t'⟩)
  (h ok F _ w (s.put (Qh ok hi) v) (hsh.set hr') t (λh=>by cases h))
 rcases hy a s with ⟨h1,h2⟩|h1
 ·exact .inl ⟨h1,λw ⟨L,t⟩=>h2 w F (St.drop_left t)⟩
 ·exact .inr h1
theorem A.take (i:Nat){k:Nat}{listed:Array Bool}{held:Bool}{o:Oper}{v:Value}(hi:ops[i]? =some o)(hs:Region.noSelect ops.toArray=true)(hf:Region.free .any ops.toArray listed i=true)(hr:(Region.ready .any ops.toArray listed).contains i=true)
  (hc:cs.contains i=false) (hy:qk P n ops o f [] v) (hQ:∀c f L,¬Q (.panic c) f L) (h:vu P n ops Q cs A k (listed.setIfInBounds i true) held (XB f o.dst v) L):vu P n ops Q cs A (k+1) listed held f L:=by
 intro ok F a w s hsh t hh;have hi':ops.toArray[i]? =some o:=by simpa using hi
 have hr':i∈Region.ready .any ops.toArray listed:=by simpa using hr
 refine Zk (I:=λw=>∃L,St w L) (J:=xE cs λw=>∃L,St w (L++(A++F))) hi' hs (λc a w ⟨_,_,_,_,q⟩=>absurd q (hQ _ _ _)) (λlisted w hsh hun hj=>⟨f5 hc hj,[],St.drop_all w⟩) k listed a w hsh (Region.free_spec hi' hf) hr' ?_ ⟨[],St.drop_all w⟩ ?_
  (h ok F _ w (s.put (Qh ok hi) v) (hsh.set hr') t (λh=>Wg (hh h)))
 ·rcases hy a s with ⟨h1,h2⟩|h1
  ·exact .inl ⟨h1,λw ⟨L,t⟩=>h2 w L t⟩
  ·exact .inr h1
 ·cases held with
  |true=>exact .inr ⟨L,by simpa using t⟩
  |false=>exact .inl (Wg (hh rfl))
theorem xn {i:Nat}{o:Oper}{M M':HL}{F:HL}{a:Act}{w:World}{k:Nat}{listed:Array Bool}{held:Bool}(hi:ops[i]? =some o)(ok:wA n ops=true)(s:KO n a f)(t:St w (M++(M'++F)))(hsh:XF ops.toArray (listed.setIfInBounds i true))
    (hcond:(held=true∧M'=A)∨(held=false∧M'=[]∧∃m∈cs,(listed.setIfInBounds i true).getD m false=true))
    (h:xg P n ops o (λf L=>vu P n ops Q cs A k (listed.setIfInBounds i true) held f L) f M):
    wpOp P ops.toArray (lift n F Q) i (λa w=>xE cs (λw=>∃L,St w (L++(A++F))) (listed.setIfInBounds i true) w∧ZV P ops.toArray (lift n F Q) (xE cs λw=>∃L,St w (L++(A++F))) k (listed.setIfInBounds i true) a w) a w:=by
  have h2:=h (by simpa[wA] using Qh ok hi) (M'++F) a w s t;simp only[wpList] at h2;unfold wpOp;have hi':ops.toArray[i]? =some o:=by simpa using hi
  simp only[hi'];have key:∀a w,lift n (M'++F) (λe f L=>match e with| .normal=>vu P n ops Q cs A k (listed.setIfInBounds i true) held f L|_=>False) .normal a w→
      xE cs (λw=>∃L,St w (L++(A++F))) (listed.setIfInBounds i true) w∧ZV P ops.toArray (lift n F Q) (xE cs λw=>∃L,St w (L++(A++F))) k (listed.setIfInBounds i true) a w:=by
    rintro a w ⟨f,L,s,t,q⟩
    rcases hcond with ⟨rfl,rfl⟩|⟨rfl,rfl,hm⟩
    · exact ⟨.inr ⟨L,t⟩,q ok F a w s hsh (by simpa using t) (λh=>by cases h)⟩
    · exact ⟨.inl hm,q ok F a w s hsh (by simpa using t) (λ_=>hm)⟩
  by_cases hw:Region.wanted o (yielded ops.toArray a.tmps)=true
  · rw[jb hw] at h2 ⊢
    refine .inl ?_
    rcases h2 with h2|⟨_,a',w',f,L,_,_,q⟩
    · unfold Oper.wp at h2 ⊢
      generalize (execOp a.eval o).run P w=r at*
      cases r with
      |ok m w'=>
        cases m<;>simp only[Oper.upon] at h2 ⊢ <;>first
          |exact key _ _ h2
          |exact h2
          | (refine Calls.mono h2 fun e w'' he => ?_
             cases e with
             |returned u=>exact key _ _ he
             |panicked c=>obtain ⟨_,_,_,_,q⟩:=he;exact q.elim
             |outgrown=>obtain ⟨_,_,_,_,_,_,q⟩:=he;exact q.elim)
          |exact Rows.mono h2 λ_ _ he=>key _ _ he
      |halt x w'=>cases x<;>simp only[Oper.upon] at h2 ⊢ <;>first|exact h2|(obtain ⟨_,_,_,_,q⟩:=h2;exact q.elim)
    · exact q.elim
  · rw[ja hw] at h2 ⊢
    exact key _ _ h2
theorem A.one (i:Nat){k:Nat}{listed:Array Bool}{held:Bool}{o:Oper}(hr:Region.ready .any ops.toArray listed=[i])(hi:ops[i]? =some o)
  (h:xg P n ops o (λf L=>vu P n ops Q cs A k (listed.setIfInBounds i true) held f L) f L):vu P n ops Q cs A (k+1) listed held f L:=by
 intro ok F a w s hsh t hh;refine ⟨λh0=>(by rw[h0] at hr;cases hr),λj hj=> ?_⟩;have hri:i∈Region.ready .any ops.toArray listed:=by rw[hr];simp
 rw[hr] at hj;obtain rfl:j=i:=by simpa using hj
 cases held with
 |true=>exact xn (M':=A) hi ok s (by simpa using t) (hsh.set hri) (.inl ⟨rfl,rfl⟩) h
 |false=>exact xn (M':=[]) hi ok s (by simpa using t) (hsh.set hri) (.inr ⟨rfl,rfl,Wg (hh rfl)⟩) h
theorem A.oneC (i:Nat){k:Nat}{listed:Array Bool}{o:Oper}(hr:Region.ready .any ops.toArray listed=[i])(hi:ops[i]? =some o)(hc:cs.contains i=true)
  (h:xg P n ops o (λf L=>vu P n ops Q cs A k (listed.setIfInBounds i true) false f L) f (L++A)):vu P n ops Q cs A (k+1) listed true f L:=by
 intro ok F a w s hsh t hh;refine ⟨λh0=>(by rw[h0] at hr;cases hr),λj hj=> ?_⟩;have hri:i∈Region.ready .any ops.toArray listed:=by rw[hr];simp
 rw[hr] at hj;obtain rfl:j=i:=by simpa using hj
 refine xn (M':=[]) hi ok s (by simpa using t) (hsh.set hri) (.inr ⟨rfl,rfl,j,by simpa using hc,?_⟩) h;have h0:=YC hri;have:=mem_ready.1 hri;have hlt:j<listed.size:=by
  rcases Nat.lt_or_ge j listed.size with h'|h'
  ·exact h'
  ·have:=this.1;simp[Array.getElem?_eq_none h'] at this
 simp[hlt]
theorem A.two (i j:Nat){k:Nat}{listed:Array Bool}{held:Bool}{o o':Oper}(hr:Region.ready .any ops.toArray listed=[i,j])(hi:ops[i]? =some o)(hj:ops[j]? =some o')
  (h:xg P n ops o (λf L=>vu P n ops Q cs A k (listed.setIfInBounds i true) held f L) f L)
  (h':xg P n ops o' (λf L=>vu P n ops Q cs A k (listed.setIfInBounds j true) held f L) f L):vu P n ops Q cs A (k+1) listed held f L:=by
 intro ok F a w s hsh t hh;refine ⟨λh0=>(by rw[h0] at hr;cases hr),λm hm=> ?_⟩;have hri:i∈Region.ready .any ops.toArray listed:=by rw[hr];simp
 have hrj:j∈Region.ready .any ops.toArray listed:=by rw[hr];simp
 rw[hr] at hm
 rcases (by simpa using hm:m=i∨m=j) with rfl|rfl
 ·cases held with
  |true=>exact xn (M':=A) hi ok s (by simpa using t) (hsh.set hri) (.inl ⟨rfl,rfl⟩) h
  |false=>exact xn (M':=[]) hi ok s (by simpa using t) (hsh.set hri) (.inr ⟨rfl,rfl,Wg (hh rfl)⟩) h
 ·cases held with
  |true=>exact xn (M':=A) hj ok s (by simpa using t) (hsh.set hrj) (.inl ⟨rfl,rfl⟩) h'
  |false=>exact xn (M':=[]) hj ok s (by simpa using t) (hsh.set hrj) (.inr ⟨rfl,rfl,Wg (hh rfl)⟩) h'
theorem A.done {k:Nat}{listed:Array Bool}(hr:Region.ready .any ops.toArray listed=[])(h:Q .normal f L):vu P n ops Q cs A k listed false f L:=by
 intro ok F a w s _ t _;have hq:lift n F Q .normal a w:=⟨f,_,s,t,h⟩
 cases k with
 |zero=>exact ⟨hr,hq⟩
 |succ k=>exact ⟨λ_=>hq,by rw[hr];simp⟩
theorem jAK {k:Nat}{listed:Array Bool}{L2:HL}(hL:qi (L++A) L2)(hr:Region.ready .any ops.toArray listed=[])(h:Q .normal f L2):vu P n ops Q cs A k listed true f L:=by
 intro ok F a w s _ t _;have hq:lift n F Q .normal a w:=⟨f,L2,s,hL w F t,h⟩
 cases k with
 |zero=>exact ⟨hr,hq⟩
 |succ k=>exact ⟨λ_=>hq,by rw[hr];simp⟩
end
theorem wc {P:Program}{ops:Array Oper}{Q Q':Exit→Act→World→Prop}:∀{l:List Oper} {a:Act} {w:World},wpList P ops Q l a w→(∀e a w,Q e a w→Q' e a w)→wpList P ops Q' l a w
  | [],a,w,h,hq=>hq _ _ _ h
  |o::l,a,w,h,hq=>by
    unfold wpList at h ⊢
    split at h
    · rename_i hw
      rw[jb hw]
      rcases h with h|⟨h1,a',w',h2⟩
      · refine .inl ?_
        unfold Oper.wp at h ⊢;generalize (execOp a.eval o).run P w=r at*
        cases r with
        |ok m w'=>
          cases m<;>simp only[Oper.upon] at h ⊢ <;>first
            |exact wc h hq
            |exact h
            | (refine Calls.mono h fun e w'' he => ?_
               cases e with
               |returned u=>exact wc he hq
               |panicked c=>exact hq _ _ _ he
               |outgrown=>obtain ⟨a',w',q⟩:=he;exact ⟨a',w',hq _ _ _ q⟩)
            |exact Rows.mono h λ_ _ he=>wc he hq
        |halt x w'=>cases x<;>simp only[Oper.upon] at h ⊢ <;>first|exact h|exact hq _ _ _ h
      · exact .inr ⟨h1,a',w',hq _ _ _ h2⟩
    · rename_i hw
      rw[ja hw];exact wc h hq
section
variable {P : Program} {n : Nat} {ops rest : List Oper} {Q : vm} {f : vL} {A L : HL}
variable {d : Tmp} {ty : TypeId} {pos : String} {af : Array Edge}
theorem Y.of {dd:Option Tmp}{op:Op}{v:Value}(h:∀a w,KO n a f→(execOp a.eval ⟨dd,op,ty,pos,af,none⟩).run P w=.ok (.value v) w):qk P n ops ⟨dd,op,ty,pos,af,none⟩ f A v:=
 λa s=>.inl ⟨rfl,λw _ _=>h a w s⟩
theorem Y.of' {dd:Option Tmp}{op:Op}{v:Value}(h:∀a w F,KO n a f→St w (A++F)→(execOp a.eval ⟨dd,op,ty,pos,af,none⟩).run P w=.ok (.value v) w):qk P n ops ⟨dd,op,ty,pos,af,none⟩ f A v:=
 λa s=>.inl ⟨rfl,λw F t=>h a w F s t⟩
theorem Y.guard {dd:Option Tmp}{op:Op}{v:Value}{g:Nat×Bool}(hg:Yl ops f g=some true)(h:qk P n ops ⟨dd,op,ty,pos,af,none⟩ f A v):qk P n ops ⟨dd,op,ty,pos,af,some g⟩ f A v:=λa s=>by
 have hw:=QJ s hg ⟨dd,op,ty,pos,af,some g⟩ rfl
 rcases h a s with ⟨_,h2⟩|⟨h1,_⟩
 ·exact .inl ⟨hw,h2⟩
 ·exact absurd h1 (by simp[Region.wanted])
theorem Y.gskip {dd:Option Tmp}{op:Op}{g:Nat×Bool}(hg:Yl ops f g=some false):qk P n ops ⟨dd,op,ty,pos,af,some g⟩ f A undef:=λa s=>
 .inr ⟨QJ s hg ⟨dd,op,ty,pos,af,some g⟩ rfl,rfl⟩
theorem S.y {op:Op}{g:Option (Nat×Bool)}{v:Value}(hy:qk P n ops ⟨some d,op,ty,pos,af,g⟩ f L v)(hk:qq P n ops rest Q (upd f d v) L):qq P n ops (⟨some d,op,ty,pos,af,g⟩::rest) Q f L:=by
 intro ok F a w s t;simp only[wA,List.all_cons,jF] at ok;unfold wpList
 rcases hy a s with ⟨h1,h2⟩|⟨h1,rfl⟩
 ·rw[jb h1]
  refine .inl ?_;simp only[Oper.wp,h2 w F t,Oper.upon];exact hk ok.2 F _ _ (s.put ok.1 v) t
 ·rw[ja (by rw[h1];simp)]
  exact hk ok.2 F _ _ (s.put ok.1 undef) t
theorem Y.mv {x:Operand}{v:Value}(hx:ev f x=some v):qk P n ops ⟨some d,.move x,ty,pos,af,none⟩ f A (v):=  Y.of (λa w s=>by simp[execOp,s.eval hx])
theorem Y.as {x:Operand}{v:Value}(hx:ev f x=some v):qk P n ops ⟨some d,.assign x,ty,pos,af,none⟩ f A (v):=  Y.of (λa w s=>by simp[execOp,s.eval hx])
theorem Y.pk_t {c x y:Operand}{v:Value}(hc:ev f c=some (.bool true))(hx:ev f x=some v):qk P n ops ⟨some d,.pick c x y,ty,pos,af,none⟩ f A (v):=  Y.of (λa w s=>by simp[execOp,s.eval hx,s.eval hc,asBool])
theorem Y.pk_f {c x y:Operand}{v:Value}(hc:ev f c=some (.bool false))(hy:ev f y=some v):qk P n ops ⟨some d,.pick c x y,ty,pos,af,none⟩ f A (v):=  Y.of (λa w s=>by simp[execOp,s.eval hy,s.eval hc,asBool])
theorem Y.pk {c x y:Operand}{b b1 b2:Bool}(hc:ev f c=some (.bool b))(hx:ev f x=some (.bool b1))(hy:ev f y=some (.bool b2)):qk P n ops ⟨some d,.pick c x y,ty,pos,af,none⟩ f A ((.bool (bif b then b1 else b2))):=  Y.of (λa w s=>by cases b<;>simp[execOp,s.eval hx,s.eval hy,s.eval hc,asBool])
theorem Y.ext {x:Operand}{i:Nat}{vs:Array Value}{v:Value}(hx:ev f x=some (.tuple vs))(hv:vs.toList[i]? =some v):qk P n ops ⟨some d,.extract x i,ty,pos,af,none⟩ f A (v):=  Y.of (λa w s=>by
  have hv':vs[i]? =some v:=by simpa using hv
  simp[execOp,s.eval hx,Instr.extract,hv'])
theorem Y.nc {x:Operand}{ad:Addr}(hx:ev f x=some (.pointer (some ad))):qk P n ops ⟨some d,.nilCheck x,ty,pos,af,none⟩ f A ((.pointer (some ad))):=  Y.of (λa w s=>by simp[execOp,s.eval hx])
theorem Y.lss {x y:Operand}{t t':TypeId}{k:IntKind}{a b:Int}(hx:ev f x=some (.int k a))(hy:ev f y=some (.int k b)):qk P n ops ⟨some d,.binOp .lss t x y t',ty,pos,af,none⟩ f A ((.bool (decide (a<b)))):=  Y.of (λ_ w s=>by simp[execOp,s.eval hx,s.eval hy,eqGuard,binOp,Op.intCmp])
theorem Y.leq {x y:Operand}{t t':TypeId}{k:IntKind}{a b:Int}(hx:ev f x=some (.int k a))(hy:ev f y=some (.int k b)):qk P n ops ⟨some d,.binOp .leq t x y t',ty,pos,af,none⟩ f A ((.bool (decide (a≤b)))):=  Y.of (λ_ w s=>by simp[execOp,s.eval hx,s.eval hy,eqGuard,binOp,Op.intCmp])
theorem Y.gtr {x y:Operand}{t t':TypeId}{k:IntKind}{a b:Int}(hx:ev f x=some (.int k a))(hy:ev f y=some (.int k b)):qk P n ops ⟨some d,.binOp .gtr t x y t',ty,pos,af,none⟩ f A ((.bool (decide (b<a)))):=  Y.of (λ_ w s=>by simp[execOp,s.eval hx,s.eval hy,eqGuard,binOp,Op.intCmp])
theorem Y.geq {x y:Operand}{t t':TypeId}{k:IntKind}{a b:Int}(hx:ev f x=some (.int k a))(hy:ev f y=some (.int k b)):qk P n ops ⟨some d,.binOp .geq t x y t',ty,pos,af,none⟩ f A ((.bool (decide (b≤a)))):=  Y.of (λ_ w s=>by simp[execOp,s.eval hx,s.eval hy,eqGuard,binOp,Op.intCmp])
theorem Y.eqi {x y:Operand}{t t':TypeId}{k:IntKind}{a b:Int}(hx:ev f x=some (.int k a))(hy:ev f y=some (.int k b)):qk P n ops ⟨some d,.binOp .eql t x y t',ty,pos,af,none⟩ f A ((.bool (decide (a=b)))):=  Y.of (λ_ w s=>by simp[execOp,s.eval hx,s.eval hy,eqGuard,binOp,Op.intCmp];rfl)
theorem Y.nei {x y:Operand}{t t':TypeId}{k:IntKind}{a b:Int}(hx:ev f x=some (.int k a))(hy:ev f y=some (.int k b)):qk P n ops ⟨some d,.binOp .neq t x y t',ty,pos,af,none⟩ f A ((.bool (!decide (a=b)))):=  Y.of (λ_ w s=>by simp[execOp,s.eval hx,s.eval hy,eqGuard,binOp,Op.intCmp];rfl)
theorem Y.add {x y:Operand}{t t':TypeId}{k:IntKind}{a b:Int}(hx:ev f x=some (.int k a))(hy:ev f y=some (.int k b)):qk P n ops ⟨some d,.binOp .add t x y t',ty,pos,af,none⟩ f A ((.int k (k.wrap (a+b)))):=  Y.of (λ_ w s=>by simp[execOp,s.eval hx,s.eval hy,eqGuard,binOp,Op.intArith])
theorem Y.sub {x y:Operand}{t t':TypeId}{k:IntKind}{a b:Int}(hx:ev f x=some (.int k a))(hy:ev f y=some (.int k b)):qk P n ops ⟨some d,.binOp .sub t x y t',ty,pos,af,none⟩ f A ((.int k (k.wrap (a - b)))):=  Y.of (λ_ w s=>by simp[execOp,s.eval hx,s.eval hy,eqGuard,binOp,Op.intArith])
theorem Y.mul {x y:Operand}{t t':TypeId}{k:IntKind}{a b:Int}(hx:ev f x=some (.int k a))(hy:ev f y=some (.int k b)):qk P n ops ⟨some d,.binOp .mul t x y t',ty,pos,af,none⟩ f A ((.int k (k.wrap (a*b)))):=  Y.of (λ_ w s=>by simp[execOp,s.eval hx,s.eval hy,eqGuard,binOp,Op.intArith])
theorem Y.addi {x y:Operand}{t t':TypeId}{a b c:Int}(hx:ev f x=some (.int .i64 a))(hy:ev f y=some (.int .i64 b))(hc:a+b=c)(h1: -9223372036854775808≤c)(h2:c≤9223372036854775807):qk P n ops ⟨some d,.binOp .add t x y t',ty,pos,af,none⟩ f A ((.int .i64 c)):=by
 have:=Y.add (P:=P) (n:=n) (ops:=ops) (A:=A) (d:=d) (ty:=ty) (pos:=pos) (af:=af) (t:=t) (t':=t') hx hy
 rwa [hc,vl h1 h2] at this
theorem Y.subi {x y:Operand}{t t':TypeId}{a b c:Int}(hx:ev f x=some (.int .i64 a))(hy:ev f y=some (.int .i64 b))(hc:a - b=c)(h1: -9223372036854775808≤c)(h2:c≤9223372036854775807):qk P n ops ⟨some d,.binOp .sub t x y t',ty,pos,af,none⟩ f A ((.int .i64 c)):=by
 have:=Y.sub (P:=P) (n:=n) (ops:=ops) (A:=A) (d:=d) (ty:=ty) (pos:=pos) (af:=af) (t:=t) (t':=t') hx hy
 rwa [hc,vl h1 h2] at this
theorem Y.rem {x y:Operand}{t t':TypeId}{k:IntKind}{a b:Int}(hx:ev f x=some (.int k a))(hy:ev f y=some (.int k b))(hb:¬b=0):qk P n ops ⟨some d,.binOp .rem t x y t',ty,pos,af,none⟩ f A ((.int k (a.tmod b))):=  Y.of (λ_ w s=>by simp[execOp,s.eval hx,s.eval hy,eqGuard,binOp,Op.intDiv,hb])
theorem Y.quo {x y:Operand}{t t':TypeId}{k:IntKind}{a b:Int}(hx:ev f x=some (.int k a))(hy:ev f y=some (.int k b))(hb:¬b=0):qk P n ops ⟨some d,.binOp .quo t x y t',ty,pos,af,none⟩ f A ((.int k (k.wrap (a.tdiv b)))):=  Y.of (λ_ w s=>by simp[execOp,s.eval hx,s.eval hy,eqGuard,binOp,Op.intDiv,hb])
theorem Y.xor {x y:Operand}{t t':TypeId}{k:IntKind}{a b:Int}(hx:ev f x=some (.int k a))(hy:ev f y=some (.int k b)):qk P n ops ⟨some d,.binOp .xor t x y t',ty,pos,af,none⟩ f A ((.int k (k.wrap ((BitVec.ofInt k.bits a)^^^(BitVec.ofInt k.bits b)).toNat))):=  Y.of (λ_ w s=>by simp[execOp,s.eval hx,s.eval hy,eqGuard,binOp,Op.intBits])
theorem Y.not {x:Operand}{t:TypeId}{b:Bool}(hx:ev f x=some (.bool b)):qk P n ops ⟨some d,.unOp .not t x,ty,pos,af,none⟩ f A ((.bool (!b))):=  Y.of (λ_ w s=>by simp[execOp,s.eval hx,Op.unary])
theorem Y.neb {x y:Operand}{t t':TypeId}[h:rp P t]{a b:Bool}(hx:ev f x=some (.bool a))(hy:ev f y=some (.bool b)):qk P n ops ⟨some d,.binOp .neq t x y t',ty,pos,af,none⟩ f A ((.bool (!(a==b)))):=  Y.of (λ_ w s=>by
  have e:(Op.equal t (.bool a) (.bool b)).run P w=.ok (a==b) w:=ZJ 9999 h.und w
  simp[execOp,s.eval hx,s.eval hy,eqGuard,binOp,e])
theorem Y.eqp {x y:Operand}{t t' e:TypeId}[h:KT P t e]{a:OA}(hx:ev f x=some (.pointer a))(hy:ev f y=some (.pointer none)):qk P n ops ⟨some d,.binOp .eql t x y t',ty,pos,af,none⟩ f A ((.bool a.isNone)):=  Y.of (λ_ w s=>by
  have e:(Op.equal t (.pointer a) (.pointer none)).run P w=.ok (a.isNone) w:=V3 9999 h.und w
  simp[execOp,s.eval hx,s.eval hy,eqGuard,binOp,e])
theorem Y.nep {x y:Operand}{t t' e:TypeId}[h:KT P t e]{a:OA}(hx:ev f x=some (.pointer a))(hy:ev f y=some (.pointer none)):qk P n ops ⟨some d,.binOp .neq t x y t',ty,pos,af,none⟩ f A ((.bool (!a.isNone))):=  Y.of (λ_ w s=>by
  have e:(Op.equal t (.pointer a) (.pointer none)).run P w=.ok (a.isNone) w:=V3 9999 h.und w
  simp[execOp,s.eval hx,s.eval hy,eqGuard,binOp,e])
theorem Y.eqs {x y:Operand}{t t' e:TypeId}[h:wS P t e]{a:OA}{m c m' c':Nat}(hx:ev f x=some (.slice a m c))(hy:ev f y=some (.slice none m' c')):qk P n ops ⟨some d,.binOp .eql t x y t',ty,pos,af,none⟩ f A ((.bool a.isNone)):=  Y.of (λ_ w s=>by
  have e:(Op.equal t (.slice a m c) (.slice none m' c')).run P w=.ok (a.isNone) w:=gp 9999 h.und w
  simp[execOp,s.eval hx,s.eval hy,eqGuard,binOp,e])
theorem Y.eqst {x y:Operand}{t t':TypeId}{a b:List UInt8}(hx:ev f x=some (str a))(hy:ev f y=some (str b)):qk P n ops ⟨some d,.binOp .eql t x y t',ty,pos,af,none⟩ f A ((.bool (decide (a=b)))):=  Y.of (λ_ w s=>by
  have h1:=s.eval hx;have h2:=s.eval hy;unfold str at h1 h2;have e:(a==b)=decide (a=b):=by by_cases h:a=b<;>simp[h]
  simp[execOp,h1,h2,eqGuard,binOp,Op.stringOp,e])
theorem Y.nest {x y:Operand}{t t':TypeId}{a b:List UInt8}(hx:ev f x=some (str a))(hy:ev f y=some (str b)):qk P n ops ⟨some d,.binOp .neq t x y t',ty,pos,af,none⟩ f A ((.bool (!decide (a=b)))):=  Y.of (λ_ w s=>by
  have h1:=s.eval hx;have h2:=s.eval hy;unfold str at h1 h2;have e:(a==b)=decide (a=b):=by by_cases h:a=b<;>simp[h]
  simp[execOp,h1,h2,eqGuard,binOp,Op.stringOp,e])
theorem Y.cvi {x:Operand}{t t':TypeId}{k k':IntKind}{a:Int}[h0:zi P t][h:Jp P t' k'](hx:ev f x=some (.int k a)):qk P n ops ⟨some d,.convert t t' x,ty,pos,af,none⟩ f A ((.int k' (k'.wrap a))):=by
 obtain ⟨d0,hd⟩:=h0.und;exact Y.of (λ_ w s=>by simp[execOp,s.eval hx,convert,hd,h.und,Conv.intToInt])
theorem Y.fa {x:Operand}{t i:Nat}{b o off sz:Nat}{ag:Bool}{fs:List (Nat×Nat×Bool)}[h:zR P t fs](hx:ev f x=some (.pointer (some ⟨b,o,none⟩)))(hf:fs[i]? =some (off,sz,ag))(hz:sz≠0):qk P n ops ⟨some d,.fieldAddr t x i,ty,pos,af,none⟩ f A ((.pointer (some ⟨b,o+off,none⟩))):=by
 obtain ⟨fields,hu,_,hfs⟩:=h.und;obtain ⟨fld,h1,h2,h3,_⟩:=hfs i off sz ag hf;refine Y.of (λ_ w s=> ?_);have:(⟨b,o,none⟩:Addr).add off=⟨b,o+off,none⟩:=by unfold Addr.add;split<;>simp_all
 simp[execOp,s.eval hx,Instr.fieldAt,hu,h1,Instr.sureAddr,fieldPlace,h3,hz,h2,this]
theorem Y.ia {x y:Operand}{t e:TypeId}{b o m c sz bts k:Nat}{ag:Bool}{zs:List Value}{kk:IntKind}{i:Int}[h:wS P t e][h2:Ty P e ag sz zs bts](hx:ev f x=some (.slice (some ⟨b,o,none⟩) m c))(hy:ev f y=some (.int kk i))
  (hi:i=(k:Int)) (h1:k<m):qk P n ops ⟨some d,.indexAddr t x y,ty,pos,af,none⟩ f A (.pointer (some ⟨b,o+k*sz,none⟩)):=by
 refine Y.of (λ_ w s=> ?_);subst hi;have:(⟨b,o,none⟩:Addr).add (k*sz)=⟨b,o+k*sz,none⟩:=by unfold Addr.add;split<;>simp_all
 have h1':(k:Int)<(m:Int):=by omega
 simp[execOp,s.eval hx,s.eval hy,Instr.indexAt,asIntOf,h.und,h2.size,h1,this]
theorem Y.iaa {x y:Operand}{t e:TypeId}{b o len sz bts k:Nat}{ag:Bool}{zs:List Value}{kk:IntKind}{i:Int}[h:ZB P t len e][h2:Ty P e ag sz zs bts](hx:ev f x=some (.pointer (some ⟨b,o,none⟩)))(hy:ev f y=some (.int kk i))
  (hi:i=(k:Int)) (h1:k<len):qk P n ops ⟨some d,.indexAddr t x y,ty,pos,af,none⟩ f A (.pointer (some ⟨b,o+k*sz,none⟩)):=by
 refine Y.of (λ_ w s=> ?_);subst hi;have:(⟨b,o,none⟩:Addr).add (k*sz)=⟨b,o+k*sz,none⟩:=by unfold Addr.add;split<;>simp_all
 simp[execOp,s.eval hx,s.eval hy,Instr.indexAt,asIntOf,h.und,h2.size,h1,this,Instr.sureAddr]
theorem Y.ldR {x:Operand}{t:TypeId}{sz bts:Nat}{zs:List Value}{b o:Nat}{v:Value}[h:Ty P t false sz zs bts](hx:ev f x=some (.pointer (some ⟨b,o,none⟩)))(hr:vi A b o [v]):qk P n ops ⟨some d,.load t x,ty,pos,af,none⟩ f A v:=
 Y.of' λa w F s t=>by
  have:=KE (h:=h) (hr w F t 0 v rfl);rw[Nat.add_zero] at this
  simp[execOp,s.eval hx,this]
theorem Y.ldRN {x:Operand}{t:TypeId}{sz bts:Nat}{zs:List Value}{b o:Nat}{cs:List Value}[h:Ty P t true sz zs bts](hx:ev f x=some (.pointer (some ⟨b,o,none⟩)))(hr:vi A b o cs)(hn:cs.length=sz):qk P n ops ⟨some d,.load t x,ty,pos,af,none⟩ f A (.agg cs.toArray):=
 Y.of' λa w F s t=>by
  have:=V2 (h:=h) hn (hr w F t)
  simp[execOp,s.eval hx,this]
theorem Y.ld {x:Operand}{t t0:TypeId}{sz bts:Nat}{zs:List Value}{b o:Nat}{v:Value}{l:List Value}[h:Ty P t false sz zs bts][hb:zK b A (cl l t0)](hx:ev f x=some (.pointer (some ⟨b,o,none⟩)))(hv:l[o]? =some v):qk P n ops ⟨some d,.load t x,ty,pos,af,none⟩ f A v:=
 Y.ldR hx (vi.find (h:=hb) λj u e=>by cases j<;>simp_all)
theorem Y.ldN {x:Operand}{t t0:TypeId}{sz bts:Nat}{zs:List Value}{b o:Nat}{cs:List Value}{l:List Value}[h:Ty P t true sz zs bts][hb:zK b A (cl l t0)](hx:ev f x=some (.pointer (some ⟨b,o,none⟩)))(hv:(l.drop o).take sz=cs)(hn:cs.length=sz):qk P n ops ⟨some d,.load t x,ty,pos,af,none⟩ f A (.agg cs.toArray):=
 Y.ldRN hx (vi.find (h := hb) fun j u e => by
  rw[←hv] at e
  by_cases hj:j<sz
  ·rw[List.getElem?_take_of_lt hj,List.getElem?_drop] at e;exact e
  ·rw[List.getElem?_take_eq_none zo] at e;simp at e) hn
theorem Y.len {x:Operand}{t e:TypeId}{a:OA}{m c:Nat}[h:wS P t e](hx:ev f x=some (.slice a m c)):
  qk P n ops ⟨some d,.call ⟨.builtin .len,#[x],#[t]⟩,ty,pos,af,none⟩ f A (.int .i64 m):=
 Y.of λa w s=>by simp[execOp,resolve,invoke,s.eval hx,builtin,Builtin.len_,h.und,goInt]
theorem Y.min {x y:Operand}{t t':TypeId}{k:IntKind}{a b:Int}(hx:ev f x=some (.int k a))(hy:ev f y=some (.int k b)):
  qk P n ops ⟨some d,.call ⟨.builtin .min,#[x,y],#[t,t']⟩,ty,pos,af,none⟩ f A (.int k (Min.min a b)):=
 Y.of λac w s=>by
  have:Min.min a b=if b<a then b else a:=by simp only[Int.min_def];split<;>split<;>omega
  simp[execOp,resolve,invoke,s.eval hx,s.eval hy,builtin,Builtin.min_,Builtin.min2,this]
theorem Y.max {x y:Operand}{t t':TypeId}{k:IntKind}{a b:Int}(hx:ev f x=some (.int k a))(hy:ev f y=some (.int k b)):
  qk P n ops ⟨some d,.call ⟨.builtin .max,#[x,y],#[t,t']⟩,ty,pos,af,none⟩ f A (.int k (Max.max a b)):=
 Y.of λac w s=>by
  have:Max.max a b=if a<b then b else a:=by simp only[Int.max_def];split<;>split<;>omega
  simp[execOp,resolve,invoke,s.eval hx,s.eval hy,builtin,Builtin.max_,Builtin.max2,this]
end
section
variable {P : Program} {n : Nat} {ops : List Oper} {f : vL} {A : HL} {d : Tmp} {ty : TypeId} {pos : String} {af : Array Edge}
theorem Y.bd {t:TypeId}{parts:Array (Nat×Operand)}{fs:List (Nat×Nat×Bool)}{sz bts:Nat}{ag:Bool}{zs cs:List Value}{l:List (Nat×Value)}[h1:zR P t fs][h2:Ty P t ag sz zs bts]
  (hp:Qd f parts.toList=some l) {m:Nat} (hm:zs.length=m) (hf:bZ fs m (cellsOf l)=true) (hc:Xn fs zs (cellsOf l)=cs):qk P n ops ⟨some d,.build t parts,ty,pos,af,none⟩ f A (.agg cs.toArray):=by
 subst hm;obtain ⟨z,hz,hz2⟩:=h2.zero;obtain ⟨fields,hu,hsz,hfs⟩:=h1.und;refine Y.of (v:=.agg cs.toArray) (λa w s=> ?_);have e1:(parts.map λp=>(p.1,a.eval p.2)).toList=l:=by simpa using QO s hp
 have e2:=nL (P:=P) hsz hfs w;have e3:z.cells=zs.toArray:=by rw[←hz2]
 have e4:=Yd (places:=fs) (pl:=λi=>((fs.map λx=>(x.1,x.2.1)).toArray)[i]?) (λi off sz ag e=>by simp[e]) l zs (Y6 hf);unfold cellsOf at hc;rw[hc] at e4;obtain ⟨pl⟩:=parts;simp only[List.map_toArray] at e1;simp only[execOp,Instr.build,Sem.run_bind,hz,Result.andThen_ok,hu,e2,e3,List.map_toArray,e1,e4];rfl
end
section
variable {P : Program} {n : Nat} {ops : List Oper} {f : vL} {A : HL} {d : Tmp} {ty : TypeId} {pos : String} {af : Array Edge} {v : Value} {g : Option (Nat × Bool)}
theorem K.pick {x y z:Operand}(h:qk P n ops ⟨some d,.pick x y z,ty,pos,af,none⟩ f A v):qk P n ops ⟨some d,.pick x y z,ty,pos,af,none⟩ f A v:=h
theorem K.load {t:TypeId}{x:Operand}(h:qk P n ops ⟨some d,.load t x,ty,pos,af,none⟩ f A v):qk P n ops ⟨some d,.load t x,ty,pos,af,none⟩ f A v:=h
theorem K.ia {t:TypeId}{x y:Operand}(h:qk P n ops ⟨some d,.indexAddr t x y,ty,pos,af,none⟩ f A v):qk P n ops ⟨some d,.indexAddr t x y,ty,pos,af,none⟩ f A v:=h
end
section
variable {P : Program} {n : Nat} {ops : List Oper} {Q : vm} {f : vL} {A L : HL} {E cs σ : List Nat} {listed : Array Bool} {held : Bool}
variable {d : Tmp} {ty : TypeId} {pos : String} {af : Array Edge}
def Jd (ops:Array Oper)(E cs:List Nat):List Nat→Array Bool→Bool
 | [],listed=>(Region.ready .any ops listed).isEmpty
 |i::σ,listed=>bif Nat.beq i 99999 then true else (bif E.contains i then Region.ready .any ops listed==[i] else Region.free .any ops listed i&&(Region.ready .any ops listed).contains i&& !cs.contains i)&&Jd ops E cs σ (listed.setIfInBounds i true)
def qH (P:Program)(n:Nat)(ops:List Oper)(E cs:List Nat)(A:HL)(σ:List Nat)(Q:vm)(listed:Array Bool)(held:Bool)(f:vL)(L:HL):Prop:=
 Jd ops.toArray E cs σ listed=true→Region.noSelect ops.toArray=true→(∀c f L,¬Q (.panic c) f L)→vu P n ops Q cs A σ.length listed held f L
theorem D.start {id:Nat}(E cs σ:List Nat)(A L1:HL)(hm:P.follows .mixedOrders=true)(hs:Region.noSelect ops.toArray=true)(hl:σ.length=ops.length)(ho:Jd ops.toArray E cs σ (Array.replicate ops.length false)=true)
  (hQ:∀c f L,¬Q (.panic c) f L) (hL:qi L (L1++A)) (h:qH P n ops E cs A σ Q (Array.replicate ops.length false) true f L1):swp P n (.region id ops.toArray true) Q f L:=
 jBD cs A L1 hm hL (hl▸h ho hs hQ)
theorem D.y {i:Nat}{op:Op}{g:Option (Nat×Bool)}{v:Value}(hi:ops[i]? =some ⟨some d,op,ty,pos,af,g⟩)(h9:Nat.beq i 99999=false)(hE:E.contains i=false)(hc:(cs.all λm=>m !=i&&(ops.toArray[m]?).isSome&&reach ops.toArray 4 i m)=true)
  (hy:qk P n ops ⟨some d,op,ty,pos,af,g⟩ f A v) (h:qH P n ops E cs A σ Q (listed.setIfInBounds i true) true (upd f d v) L):qH P n ops E cs A (i::σ) Q listed true f L:=by
 intro ho hs hQ;simp only[Jd,h9,hE,cond_false,jF] at ho;exact _root_.Go.SX.A.takeR i hi hs ho.1.1.1 ho.1.1.2 hc hy hQ (h ho.2 hs hQ)
theorem D.yp {i:Nat}{op:Op}{g:Option (Nat×Bool)}{v:Value}(hi:ops[i]? =some ⟨some d,op,ty,pos,af,g⟩)(h9:Nat.beq i 99999=false)(hE:E.contains i=false)
  (hy:qk P n ops ⟨some d,op,ty,pos,af,g⟩ f [] v) (h:qH P n ops E cs A σ Q (listed.setIfInBounds i true) held (upd f d v) L):qH P n ops E cs A (i::σ) Q listed held f L:=by
 intro ho hs hQ;simp only[Jd,h9,hE,cond_false,jF] at ho;exact _root_.Go.SX.A.take i hi hs ho.1.1.1 ho.1.1.2 (by simpa using ho.1.2) hy hQ (h ho.2 hs hQ)
theorem D.e {i:Nat}{o:Oper}(hi:ops[i]? =some o)(h9:Nat.beq i 99999=false)(hE:E.contains i=true)
  (h:qq P n ops [o] (qL (λf L=>qH P n ops E cs A σ Q (listed.setIfInBounds i true) held f L) (λ_ _ _=>False)) f L):qH P n ops E cs A (i::σ) Q listed held f L:=by
 intro ho hs hQ;simp only[Jd,h9,hE,cond_true,cond_false,jF,beq_iff_eq] at ho;exact _root_.Go.SX.A.one i ho.1 hi (λok F a w s t=>wc (h ok F a w s t) (by rintro e a w ⟨f,L,s,t,q⟩;cases e<;>first|exact ⟨f,L,s,t,q ho.2 hs hQ⟩|exact q.elim))
theorem D.c {i:Nat}{o:Oper}{L2:HL}(hi:ops[i]? =some o)(h9:Nat.beq i 99999=false)(hE:E.contains i=true)(hc:cs.contains i=true)(hL:A++L=L2)
  (h:qq P n ops [o] (qL (λf L=>qH P n ops E cs A σ Q (listed.setIfInBounds i true) false f L) (λ_ _ _=>False)) f L2):qH P n ops E cs A (i::σ) Q listed true f L:=by
 intro ho hs hQ;simp only[Jd,h9,hE,cond_true,cond_false,jF,beq_iff_eq] at ho;refine _root_.Go.SX.A.oneC i ho.1 hi hc (qo (qi.perm (List.perm_append_comm.trans (hL▸List.Perm.refl _))) λok F a w s t=>wc (h ok F a w s t) (by rintro e a w ⟨f,L,s,t,q⟩;cases e<;>first|exact ⟨f,L,s,t,q ho.2 hs hQ⟩|exact q.elim))
theorem D.end_ (h:Q .normal f L):qH P n ops E cs A [] Q listed false f L:=by
 intro ho hs hQ;simp only[Jd,List.isEmpty_iff] at ho;exact _root_.Go.SX.A.done ho h
theorem D.endH {L2:HL}(hL:A++L=L2)(h:Q .normal f L2):qH P n ops E cs A [] Q listed true f L:=by
 intro ho hs hQ;simp only[Jd,List.isEmpty_iff] at ho;refine jAK (A:=A) (L2:=L2) ?_ ho h;rw[←hL];exact qi.perm List.perm_append_comm
def JI :List Bool→HL→HL
 | []=>λ_=> []
 |b::m=>λl=>match l with
  | []=> []
  |x::l=>match b with
   |true=>x::JI m l
   |false=>JI m l
def JH :List Bool→HL→HL
 | []=>λl=>l
 |b::m=>λl=>match l with
  | []=> []
  |x::l=>match b with
   |true=>JH m l
   |false=>x::JH m l
theorem WE :∀(m:List Bool) (L:HL),L.Perm (JH m L++JI m L)
 | [],L=>by simp[JI,JH]
 |b::m,[]=>by simp[JI,JH]
 |true::m,x::L=>by simp only[JI,JH];exact ((WE m L).cons x).trans List.perm_middle.symm
 |false::m,x::L=>by simp only[JI,JH];exact (WE m L).cons x
theorem D.go {id:Nat}(mask:List Bool)(E cs σ:List Nat){L1:HL}(hm:P.follows .mixedOrders=true)(hs:Region.noSelect ops.toArray=true)(hl:σ.length=ops.length)(ho:Jd ops.toArray E cs σ (Array.replicate ops.length false)=true)
  (hQ:∀c f L,¬Q (.panic c) f L) (hA:JI mask L=A) (hL:JH mask L=L1) (h:qH P n ops E cs A σ Q (Array.replicate ops.length false) true f L1):swp P n (.region id ops.toArray true) Q f L:=
 D.start E cs σ A L1 hm hs hl ho hQ (by rw[←hA,←hL];exact qi.perm (WE mask L)) h
theorem D.two (i j:Nat)(σ1 σ2:List Nat){τ:List Nat}{o o':Oper}(hr:Region.ready .any ops.toArray listed=[i,j])(hi:ops[i]? =some o)(hj:ops[j]? =some o')(hl1:σ1.length=τ.length)(hl2:σ2.length=τ.length)
  (ho1:Jd ops.toArray E cs σ1 (listed.setIfInBounds i true)=true) (ho2:Jd ops.toArray E cs σ2 (listed.setIfInBounds j true)=true)
  (h1:qq P n ops [o] (qL (λf L=>qH P n ops E cs A σ1 Q (listed.setIfInBounds i true) held f L) (λ_ _ _=>False)) f L)
  (h2:qq P n ops [o'] (qL (λf L=>qH P n ops E cs A σ2 Q (listed.setIfInBounds j true) held f L) (λ_ _ _=>False)) f L):qH P n ops E cs A (99999::τ) Q listed held f L:=by
 intro _ hs hQ;exact _root_.Go.SX.A.two i j hr hi hj (λok F a w s t=>wc (h1 ok F a w s t) (by rintro e a w ⟨f,L,s,t,q⟩;cases e<;>first|exact ⟨f,L,s,t,hl1▸q ho1 hs hQ⟩|exact q.elim))
  (λok F a w s t=>wc (h2 ok F a w s t) (by rintro e a w ⟨f,L,s,t,q⟩;cases e<;>first|exact ⟨f,L,s,t,hl2▸q ho2 hs hQ⟩|exact q.elim))
end
class QZ (Q:vm):Prop where
 no:∀c f L,¬Q (.panic c) f L
instance {K :vL→HL→Prop} {Q:vm} [h:QZ Q]:QZ (qL K Q):=⟨λc f L q=>h.no c f L q⟩
instance {i :Nat} {Q:vm} [h:QZ Q]:QZ (qJ i Q):=⟨λc f L q=>h.no c f L q⟩
instance {P :Program} {n:Nat} {rs:List ResultVar} {R:Value→HL→Prop}:QZ (vZ P n rs R):=⟨λc f L q=>q⟩
def qY (L:HL)(a:OA)(m sz:Nat)(cs:List Value):Prop:=cs.length=m*sz∧(m=0∨∃b o,a=some ⟨b,o,none⟩∧vi L b o cs)
theorem qY.sub {L0 L:HL}{a:OA}{m sz:Nat}{cs:List Value}(h:qY L0 a m sz cs)[s:Sub L0 L]:qY L a m sz cs:=
 ⟨h.1,h.2.imp id λ⟨b,o,e,r⟩=>⟨b,o,e,r.sub⟩⟩
theorem qY.ent {L0 L:HL}{a:OA}{m sz:Nat}{cs:List Value}(h:qY L0 a m sz cs)(s:qi L L0):qY L a m sz cs:=
 ⟨h.1,h.2.imp id λ⟨b,o,e,r⟩=>⟨b,o,e,r.ent s⟩⟩
theorem vG.rd {P:Program}{L:HL}{sz:Nat}{tx e':TypeId}[h:wS P tx e']{a:OA}{m c:Nat}{cs:List Value}(hr:qY L a m sz cs)(h1:cs.all (·.oneCell')=true):vG P L sz tx (.slice a m c) m cs:=by
 obtain ⟨hl,hm⟩:=hr
 rcases hm with rfl|⟨b,o,rfl,hc⟩
 ·have:cs=[]:=jO (by simpa using hl)
  subst this
  cases a with
  |none=>exact vG.nil
  |some ad=>exact ⟨λw F H=>Src.ofSlice w h.raw ad 0 c [] (by simp) (λj u e=>by simp at e) (λu hu=>by cases hu)⟩
 ·exact vG.sl hc hl h1
theorem qY.slO {L L1:HL}{t sz m c:Nat}{a:OA}{cs:List Value}(h:qi L (slO t sz a m c cs::L1))(hl:cs.length=m*sz)(ha:m=0∨∃b,a=some ⟨b,0,none⟩):qY L a m sz cs:=
 ⟨hl,ha.imp id λ⟨b,e⟩=>⟨b,0,e,by subst e;exact vi.slO ⟨L1,h⟩⟩⟩
theorem lD {α:Type}{g:α→List Value}{sz:Nat}(hg:∀x,(g x).length=sz):∀l:List α,(l.flatMap g).length=l.length*sz
 | []=>by simp
 |x::l=>by simp[hg,lD hg l,Nat.succ_mul,Nat.add_comm]
theorem Ko {α:Type}{g:α→List Value}{sz:Nat}(hg:∀x,(g x).length=sz):∀(l:List α) (k j:Nat) (x:α) (v:Value),l[k]? =some x→(g x)[j]? =some v→(l.flatMap g)[k*sz+j]? =some v
 | [],k,j,x,v,h,_=>by simp at h
 |y::l,0,j,x,v,h,hv=>by
  simp at h;subst h
  have:j<(g y).length:=(jm.1 hv).1
  simp[ko this,hv]
 |y::l,k+1,j,x,v,h,hv=>by
  have ih:=Ko hg l k j x v (by simpa using h) hv;rw[jK,kG (by rw[hg];rw[Nat.succ_mul];omega),hg];rw[show (k+1)*sz+j - sz=k*sz+j from by rw[Nat.succ_mul];omega];exact ih
theorem vi.elem {α:Type}{g:α→List Value}{sz:Nat}(hg:∀x,(g x).length=sz){L:HL}{b o:Nat}{l:List α}{k:Nat}{x:α}(h:vi L b o (l.flatMap g))(hk:l[k]? =some x):vi L b (o+k*sz) (g x):=
 h.part λj v e=>Ko hg l k j x v hk e
theorem qY.elem {α:Type}{g:α→List Value}{sz:Nat}(hg:∀x,(g x).length=sz){L:HL}{a:OA}{m:Nat}{l:List α}{k:Nat}{x:α}(h:qY L a m sz (l.flatMap g))(hk:l[k]? =some x)(hm:m=l.length):∃b o,a=some ⟨b,o,none⟩∧vi L b (o+k*sz) (g x):=by
 have hlt:k<l.length:=(jm.1 hk).1
 rcases h.2 with h0|⟨b,o,e,r⟩
 ·omega
 ·exact ⟨b,o,e,r.elem hg hk⟩
theorem vi.at {L:HL}{b o j:Nat}{v:Value}{cs:List Value}(h:vi L b o cs)(hj:cs[j]? =some v):vi L b (o+j) [v]:=h.part λi u e=>by
 cases i with
 |zero=>simp at e;subst e;simpa using hj
 |succ i=>simp at e
theorem vi.ofS {L:HL}{t sz m c b:Nat}{cs:List Value}{L':HP→HL}[h:K2 (some ⟨b,0,none⟩) L t sz m c cs L']:vi L b 0 cs:=by
 obtain ⟨R,p,_⟩:=h.at_;exact vi.slO ⟨R,qi.perm p⟩
theorem K2.addr {a:OA}{L:HL}{t sz m c:Nat}{cs:List Value}{L':HP→HL}(h:K2 a L t sz m c cs L'){w:World}{F:HL}(H:St w (L++F)):(m=0∨∃b,a=some ⟨b,0,none⟩)∧cs.length=m*sz:=by
 obtain ⟨R,p,_⟩:=h.at_;have:=St.slO_open (L:=R++F) (by simpa using St.perm (p.append_right F) H);refine ⟨?_,this.1⟩
 rcases this.2 with ⟨_,h,_⟩|⟨b,_,h,_⟩
 ·exact .inl h
 ·exact .inr ⟨b,h⟩
theorem qY.ofS {a:OA}{L:HL}{t sz m c:Nat}{cs:List Value}{L':HP→HL}[h:K2 a L t sz m c cs L'](hl:cs.length=m*sz)(ha:m=0∨∃b,a=some ⟨b,0,none⟩):qY L a m sz cs:=
 ⟨hl,ha.imp id λ⟨b,e⟩=>⟨b,0,e,by subst e;exact vi.ofS (h:=h)⟩⟩
theorem qZ (a:OA){P:Program}{n:Nat}{ops rest:List Oper}{Q:vm}{f:vL}{L:HL}{t sz m c:Nat}{cs:List Value}{L':HP→HL}[h:K2 a L t sz m c cs L'](H:m=0∨(∃b,a=some ⟨b,0,none⟩)→qq P n ops rest Q f L):qq P n ops rest Q f L:=
 λok F ac w s t=>H (h.addr t).1 ok F ac w s t
def B (x:UInt8):Value:=.int .u8 x.toNat
def qp (M:OM):HP:=λ_ h=>∀b o,M b=some o→h b=some (false,o)
def qV (M M':OM):Prop:=∀b o,M b=some o→M' b=some o
theorem qV.refl (M:OM):qV M M:=λ_ _ h=>h
theorem qV.trans {M M' M'':OM}(h:qV M M')(h':qV M' M''):qV M M'':=λb o e=>h' b o (h b o e)
class xq (M:OM)(L:HL):Prop where
 at_:∀w F,St w (L++F)→∀b o,M b=some o→w.heap[b]? =some o
theorem St.roM_read {w:World}{M:OM}{L:HL}(H:St w (qp M::L)){b:Nat}{o:Obj}(hb:M b=some o):w.heap[b]? =some o:=by
 obtain ⟨h,f,a⟩:=H.read_cons;exact f b _ _ (a b o hb)
instance xq.here {M:OM}{L:HL}:xq M (qp M::L):=⟨λ_ _ H _ _ e=>St.roM_read H e⟩
instance (priority :=low) xq.there {M:OM} {A:HP} {L:HL} [h:xq M L]:xq M (A::L):=⟨λw F H=>h.at_ w F H.tail⟩
theorem qi.roM_dup {M:OM}{L:HL}:qi (qp M::L) (qp M::qp M::L):=λw F H=>by
 refine St.of_sep (L:=qp M::(L++F)) (λhh H=> ?_) H;obtain ⟨h1,h2,ok,rfl,a,l⟩:=H;refine ⟨λk=>(M k).map (false,·),h1.add h2,?_,?_,λb o e=>by simp[e],h1,h2,ok,rfl,a,l⟩
 ·intro k p ob q o2 e1 e2
  cases hm:M k with
  |none=>simp[hm] at e1
  |some o=>
   have:=a k o hm
   simp[hm] at e1
   simp[Hp.add,this] at e2
   exact ⟨e1.1.symm▸rfl,e2.1.symm▸rfl,e1.2▸e2.2▸rfl⟩
 ·funext k
  simp only[Hp.add]
  cases hm:M k with
  |none=>simp
  |some o=>simp[a k o hm]
theorem qi.roM_join {M M':OM}{L:HL}:qi (qp M::qp M'::L) (d9 (λN=>yA [wT (qV M N∧qV M' N),qp N])::L):=λw F H=>by
 refine St.of_sep (L:=qp M::qp M'::(L++F)) (λhh H=> ?_) H;obtain ⟨h1,h2,ok,rfl,a,h3,h4,ok',rfl,a',l⟩:=H;have e12:=Hp.ok_left' ok;refine ⟨h1.add h3,h4,Hp.ok_add (Hp.ok_right' ok' ok) ok',by rw[Hp.add_assoc],⟨λb=>(M b).or (M' b),?_⟩,l⟩;refine ⟨(λ_=>none:Nat→Option (Bool×Obj)),h1.add h3,λb p o q o' e=>by simp at e,by funext b;simp[Hp.add],⟨?_,?_⟩,h1.add h3,(λ_=>none:Nat→Option (Bool×Obj)),λb p o q o' _ e=>by simp at e,by funext b;simp[Hp.add],?_,trivial⟩
 ·intro b o e;simp[e]
 ·intro b o e
  show (M b).or (M' b)=some o
  cases hm:M b with
  |none=>simpa using e
  |some o1=>
   have:=(e12 b _ _ _ _ (a b o1 hm) (a' b o e)).2.2
   simp[this]
 ·intro b o e
  simp only[Hp.add]
  cases hm:M b with
  |none=>
   simp[hm] at e
   cases h1b:h1 b with
   |none=>simp[a' b o e]
   |some x=>
    obtain ⟨p,o1⟩:=x;have:=e12 b _ _ _ _ h1b (a' b o e)
    simp[this.1,this.2.2]
  |some o1=>simp[hm] at e;subst e;simp[a b o1 hm]
theorem qi.nilM {L L':HL}(h:qi L L'):qi L (qp (λ_=>none)::L'):=h.trans λw F H=>
 St.of_sep (L:=L'++F) (λhh h=>⟨(λ_=>none:Nat→Option (Bool×Obj)),hh,λb p o q o' e=>by simp at e,by funext b;simp[Hp.add],λb o e=>by simp at e,h⟩) H
def nV (b:Nat)(o:Obj):OM:=λk=>if k=b then some o else none
theorem qi.roM_one {b:Nat}{o:Obj}{L:HL}:qi (pt b o::L) (qp (nV b o)::L):=qi.shed.trans λw F H=>
 St.of_sep (L := ro b o :: (L ++ F)) (fun hh ⟨h1,h2,ok,e,a,l⟩ => ⟨h1,h2,ok,e,fun k o' e' => by
  unfold nV at e';split at e'
  ·rename_i hk;subst hk;simp at e';subst e';exact a
  ·simp at e',l⟩) H
def qI (M:OM)(a:OA)(m sz:Nat)(cs:List Value):Prop:=
 cs.length=m*sz∧(m=0∨∃b o l t fz,a=some ⟨b,o,none⟩∧M b=some (.cells l t fz)∧∀j v,cs[j]? =some v→l[o+j]? =some v)
theorem qI.mono {M M':OM}{a:OA}{m sz:Nat}{cs:List Value}(h:qI M a m sz cs)(hl:qV M M'):qI M' a m sz cs:=
 ⟨h.1,h.2.imp id λ⟨b,o,l,t,fz,e1,e2,e3⟩=>⟨b,o,l,t,fz,e1,hl _ _ e2,e3⟩⟩
theorem qI.rd {M:OM}{L:HL}{a:OA}{m sz:Nat}{cs:List Value}(h:qI M a m sz cs)[hm:xq M L]:qY L a m sz cs:=
 ⟨h.1,h.2.imp id λ⟨b,o,l,t,fz,e1,e2,e3⟩=>⟨b,o,e1,λw F H j v e=>by
  have:=hm.at_ w F H b _ e2
  simp[World.cell?,this,e3 j v e]⟩⟩
theorem qI.nil {M:OM}{a:OA}{sz:Nat}:qI M a 0 sz []:=⟨by simp,.inl rfl⟩
theorem qi.slM {t sz m c:Nat}{a:OA}{cs:List Value}{L:HL}:qi (slO t sz a m c cs::L) (d9 (λM=>yA [wT (qI M a m sz cs),qp M])::L):=λw F H=>by
 obtain ⟨hl,hc⟩:=St.slO_open H
 rcases hc with ⟨rfl,rfl,rfl,rfl,hs⟩|⟨b,rest,rfl,hmc,hr,hs⟩
 ·refine qi.shut_ex (P:=λM=>yA [wT (qI M none 0 sz []),qp M]) (λ_=>none) w F ?_
  refine qi.shut_all (L:=[wT (qI (λ_=>none) none 0 sz []),qp (λ_=>none)]) w F ?_;refine qi.shut_pure (M:=qp (λ_=>none)::L) qI.nil w F ?_;exact St.of_sep (L:=L++F) (λhh h=>⟨(λ_=>none:Nat→Option (Bool×Obj)),hh,λb p o q o' e=>by simp at e,by funext b;simp[Hp.add],λb o e=>by simp at e,h⟩) hs
 ·have h1:=qi.roM_one (L:=L) w F hs
  refine qi.shut_ex (P:=λM=>yA [wT (qI M (some ⟨b,0,none⟩) m sz cs),qp M]) (nV b (cl (cs++rest) t)) w F ?_;refine qi.shut_all (L:=[wT (qI (nV b (cl (cs++rest) t)) (some ⟨b,0,none⟩) m sz cs),qp (nV b (cl (cs++rest) t))]) w F ?_;refine qi.shut_pure (M:=qp (nV b (cl (cs++rest) t))::L) ?_ w F h1;refine ⟨hl,.inr ⟨b,0,(cs++rest).toArray,t,(0,0),rfl,by simp[nV,cl],λj v e=> ?_⟩⟩;have hj:j<cs.length:=(jm.1 e).1
  simp[ko hj,e]
class xw (L:HL)(M:outParam (OM))(L0:outParam (HL)):Prop where
 ent:qi L (qp M::L0)
instance xw.here {M:OM}{L:HL}:xw (qp M::L) M L:=⟨kZ _⟩
instance (priority :=low) xw.there {M:OM} {A:HP} {L L0:HL} [h:xw L M L0]:xw (A::L) M (A::L0):=⟨(h.ent.cons).trans (qi.perm (.swap _ _ _))⟩
theorem qi.absorb {t sz m c:Nat}{a:OA}{cs:List Value}{L L0:HL}{M:OM}[h:xw L M L0]:qi (SX.slO t sz a m c cs::L) (d9 (λM'=>yA [wT (qV M M'∧qI M' a m sz cs),qp M'])::L0):=by
 refine (h.ent.cons).trans ?_;refine qi.slM.trans ?_;refine qi.ex λM1=>qi.open_all.trans (qi.pure λhs=> ?_)
 refine qi.roM_join.trans (qi.ex λN=>qi.open_all.trans (qi.pure λhl=> ?_));refine qi.trans ?_ (qi.shut_ex N);refine qi.trans ?_ qi.shut_all;exact qi.shut_pure ⟨hl.2,hs.mono hl.1⟩
theorem JC {P:Program}{n:Nat}{ops rest:List Oper}{Q:vm}{f:vL}{t sz m c:Nat}{a:OA}{cs:List Value}{L L0:HL}{M:OM}[h:xw L M L0]
  (hk:∀M',qV M M'→qI M' a m sz cs→qq P n ops rest Q f (qp M'::L0)):qq P n ops rest Q f (SX.slO t sz a m c cs::L):=by
 refine qo qi.absorb (dD λM'=>YK (Ke λh=>hk M' h.1 h.2))
theorem _root_.Go.eG {L L':HL}(h:qi L L':=by repeat (first|exact kZ _|exact qi.nil|refine qi.pick ?_|refine qi.nilS ?_|refine qi.nilM ?_|refine qi.drop ?_)):qi L L':=h
section
variable {P : Program} {n : Nat} {ops rest : List Oper} {Q : vm} {f : vL} {A L : HL} {E cs σ : List Nat} {listed : Array Bool} {held : Bool}
variable {d : Tmp} {ty : TypeId} {pos : String} {af : Array Edge}
theorem pD {k:Nat}(dg:Nat){b:Bool}(hd:f dg=some (.bool b))(ht:b=true→vu P n ops Q cs A k listed held (upd f dg (.bool true)) L)(hf:b=false→vu P n ops Q cs A k listed held (upd f dg (.bool false)) L):vu P n ops Q cs A k listed held f L:=by
 have key:∀c,b=c→vu P n ops Q cs A k listed held (upd f dg (.bool c)) L→vu P n ops Q cs A k listed held f L:=λc e h ok F a w s=>
  h ok F a w (s.weaken fun i v hv => by
   simp only[upd] at hv
   cases hb:Nat.beq i dg with
   |false=>rw[hb] at hv;exact hv
   |true=>rw[hb] at hv;rw[Nat.eq_of_beq_eq_true hb,hd,e];exact hv)
 cases b
 ·exact key false rfl (hf rfl)
 ·exact key true rfl (ht rfl)
theorem D.gsp {i:Nat}{dd:Option Tmp}{op:Op}{g:Nat×Bool}{dg:Nat}{b:Bool}(hi:ops[i]? =some ⟨dd,op,ty,pos,af,some g⟩)(h0:(ops[g.1]?).bind (·.dst)=some dg)(hd:f dg=some (.bool b))
  (ht:b=true→qH P n ops E cs A (i::σ) Q listed held (upd f dg (.bool true)) L) (hf:b=false→qH P n ops E cs A (i::σ) Q listed held (upd f dg (.bool false)) L):qH P n ops E cs A (i::σ) Q listed held f L:=
 λho hs hQ=>pD dg hd (λe=>ht e ho hs hQ) (λe=>hf e ho hs hQ)
theorem D.gT {i:Nat}{dd:Option Tmp}{op:Op}{g:Nat×Bool}{dg:Nat}{b:Bool}(hi:ops[i]? =some ⟨dd,op,ty,pos,af,some g⟩)(h0:(ops[g.1]?).bind (·.dst)=some dg)(hd:f dg=some (.bool b))(hb:b=true)
  (ht:qH P n ops E cs A (i::σ) Q listed held (upd f dg (.bool true)) L):qH P n ops E cs A (i::σ) Q listed held f L:=D.gsp hi h0 hd (λ_=>ht) (λh=>by rw[hb] at h;cases h)
theorem D.gF {i:Nat}{dd:Option Tmp}{op:Op}{g:Nat×Bool}{dg:Nat}{b:Bool}(hi:ops[i]? =some ⟨dd,op,ty,pos,af,some g⟩)(h0:(ops[g.1]?).bind (·.dst)=some dg)(hd:f dg=some (.bool b))(hb:b=false)
  (hf:qH P n ops E cs A (i::σ) Q listed held (upd f dg (.bool false)) L):qH P n ops E cs A (i::σ) Q listed held f L:=D.gsp hi h0 hd (λh=>by rw[hb] at h;cases h) (λ_=>hf)
theorem Y.sl3 {x lo hi mx:Operand}{t e:TypeId}{a:OA}{m c sz bts:Nat}{ag:Bool}{zs:List Value}{l h mm:Nat}{i j k:Int}{kl kh km:IntKind}[hs:wS P t e][h2:Ty P e ag sz zs bts](hx:ev f x=some (.slice a m c))
  (hl:ev f lo=some (.int kl i)) (hh:ev f hi=some (.int kh j)) (hm:ev f mx=some (.int km k)) (el:i=(l:Int)) (eh:j=(h:Int)) (em:k=(mm:Int)) (h1:l≤h) (h3:h≤mm) (h4:mm≤c):
  qk P n ops ⟨some d,.slice t x (some lo) (some hi) (some mx),ty,pos,af,none⟩ f A (.slice (if mm=l then a else a.map (·.add (l*sz))) (h - l) (mm - l)):=by
 refine Y.of (λac w s=> ?_);subst el eh em;have e1:(l:Int)≤(h:Int):=by omega
 have e2:(h:Int)≤(mm:Int):=by omega
 have e3:(mm:Int)≤(c:Int):=by omega
 simp[execOp,s.eval hx,s.eval hl,s.eval hh,s.eval hm,Instr.sliceAt,hs.und,Instr.slice,Instr.sliceBounds,h2.size,Instr.sliceBound,asIntOf,h1,h3,h4]
theorem Y.slT {x hi:Operand}{t e:TypeId}{a:OA}{m c sz bts h:Nat}{ag:Bool}{zs:List Value}{j:Int}{kh:IntKind}[hs:wS P t e][h2:Ty P e ag sz zs bts](hx:ev f x=some (.slice a m c))
  (hh:ev f hi=some (.int kh j)) (eh:j=(h:Int)) (h3:h≤c):qk P n ops ⟨some d,.slice t x none (some hi) none,ty,pos,af,none⟩ f A (.slice a h c):=by
 refine Y.of (λac w s=> ?_);subst eh;have e1:∀ad:Addr,ad.add 0=ad:=λ_=>rfl
 cases a<;>simp[execOp,s.eval hx,s.eval hh,Instr.sliceAt,hs.und,Instr.slice,Instr.sliceBounds,h2.size,Instr.sliceBound,asIntOf,h3,e1]
theorem Y.slF {x lo:Operand}{t e:TypeId}{b o m c sz bts l:Nat}{ag:Bool}{zs:List Value}{i:Int}{kl:IntKind}[hs:wS P t e][h2:Ty P e ag sz zs bts](hx:ev f x=some (.slice (some ⟨b,o,none⟩) m c))
  (hl:ev f lo=some (.int kl i)) (el:i=(l:Int)) (h1:l≤m):qk P n ops ⟨some d,.slice t x (some lo) none none,ty,pos,af,none⟩ f A (.slice (some ⟨b,if c=l then o else o+l*sz,none⟩) (m - l) (c - l)):=by
 refine Y.of (λac w s=> ?_);subst el;have e2:(⟨b,o,none⟩:Addr).add (l*sz)=⟨b,o+l*sz,none⟩:=by unfold Addr.add;split<;>simp_all
 have e1:(l:Int)≤(m:Int):=by omega
 by_cases hc:c=l<;>simp[execOp,s.eval hx,s.eval hl,Instr.sliceAt,hs.und,Instr.slice,Instr.sliceBounds,h2.size,Instr.sliceBound,asIntOf,h1,hc,e2]
theorem Y.slFn {x lo:Operand}{t e:TypeId}{c sz bts:Nat}{ag:Bool}{zs:List Value}{i:Int}{kl:IntKind}[hs:wS P t e][h2:Ty P e ag sz zs bts](hx:ev f x=some (.slice none 0 c))
  (hl:ev f lo=some (.int kl i)) (el:i=0):qk P n ops ⟨some d,.slice t x (some lo) none none,ty,pos,af,none⟩ f A (.slice none 0 c):=by
 refine Y.of (λac w s=> ?_);subst el
 by_cases hc:c=0<;>simp[execOp,s.eval hx,s.eval hl,Instr.sliceAt,hs.und,Instr.slice,Instr.sliceBounds,h2.size,Instr.sliceBound,asIntOf,hc]
theorem Y.slB {x lo hi:Operand}{t e:TypeId}{b o m c sz bts l h:Nat}{ag:Bool}{zs:List Value}{i j:Int}{kl kh:IntKind}[hs:wS P t e][h2:Ty P e ag sz zs bts](hx:ev f x=some (.slice (some ⟨b,o,none⟩) m c))
  (hl:ev f lo=some (.int kl i)) (hh:ev f hi=some (.int kh j)) (el:i=(l:Int)) (eh:j=(h:Int)) (h1:l≤h) (h3:h≤c):
  qk P n ops ⟨some d,.slice t x (some lo) (some hi) none,ty,pos,af,none⟩ f A (.slice (some ⟨b,if c=l then o else o+l*sz,none⟩) (h - l) (c - l)):=by
 refine Y.of (λac w s=> ?_);subst el eh;have e2:(⟨b,o,none⟩:Addr).add (l*sz)=⟨b,o+l*sz,none⟩:=by unfold Addr.add;split<;>simp_all
 have e1:(l:Int)≤(h:Int):=by omega
 have e3:(h:Int)≤(c:Int):=by omega
 by_cases hc:c=l
 ·subst hc
  obtain rfl:h=c:=by omega
  simp[execOp,s.eval hx,s.eval hl,s.eval hh,Instr.sliceAt,hs.und,Instr.slice,Instr.sliceBounds,h2.size,Instr.sliceBound,asIntOf]
 ·simp[execOp,s.eval hx,s.eval hl,s.eval hh,Instr.sliceAt,hs.und,Instr.slice,Instr.sliceBounds,h2.size,Instr.sliceBound,asIntOf,h1,h3,hc,e2]
theorem qY.from {b o m c l sz:Nat}{cs:List Value}(hr:vi L b o cs)(hl:cs.length=m*sz)(h1:l≤m)(h2:m≤c):qY L (some ⟨b,if c=l then o else o+l*sz,none⟩) (m - l) sz (cs.drop (l*sz)):=by
 refine ⟨by rw[jE,hl,Nat.sub_mul],?_⟩
 by_cases hc:c=l
 ·exact .inl zo
 ·rw[ja hc]
  exact .inr ⟨b,_,rfl,hr.part λj v e=>by rwa [List.getElem?_drop] at e⟩
end
section
variable {P : Program} {n : Nat} {ops rest : List Oper} {Q : vm} {f : vL} {L : HL}
variable {d : Tmp} {ty : TypeId} {pos : String} {af : Array Edge}
def jBm (ops:List Oper)(f:vL)(g:Nat×Bool):Bool:=
 match (ops[g.1]?).bind (·.dst) with
 |some d=>match f d with
  |some (.tuple _)=>true
  |_=>false
 |none=>false
theorem jBl {a:Act}{g:Nat×Bool}(s:KO n a f)(h:jBm ops f g=true)(o:Oper)(ho:o.guard=some g):
  Region.wanted o (yielded ops.toArray a.tmps)=false:=by
 simp only[jBm] at h
 cases hd:(ops[g.1]?).bind (·.dst) with
 |none=>rw[hd] at h;simp at h
 |some d=>
  rw[hd] at h;simp only at h
  cases hf:f d with
  |none=>rw[hf] at h;simp at h
  |some v=>
   rw[hf] at h
   cases v<;>simp at h
   have:=s.at_ d _ hf;have hy:yielded ops.toArray a.tmps g.1=none:=by
    rw[Array.getD_eq_getD_getElem?] at this
    cases h2:a.tmps[d]? with
    |none=>simp[yielded,hd,h2]
    |some u=>rw[h2] at this;simp at this;simp[yielded,hd,h2,this]
   simp only[Region.wanted,ho];rw[hy];rfl
theorem Y.gskipU {A:HL}{dd:Option Tmp}{op:Op}{g:Nat×Bool}(hg:jBm ops f g=true):qk P n ops ⟨dd,op,ty,pos,af,some g⟩ f A undef:=λa s=>
 .inr ⟨jBl s hg ⟨dd,op,ty,pos,af,some g⟩ rfl,rfl⟩
theorem Y.neB {A:HL}{x y:Operand}{t t':TypeId}[h:rp P t]{a b:Bool}(hx:ev f x=some (.bool a))(hy:ev f y=some (.bool b)):qk P n ops ⟨some d,.binOp .neq t x y t',ty,pos,af,none⟩ f A (.bool (!decide ((a=true∧b=true)∨(a=false∧b=false)))):=by
 have:=Y.neb (P:=P) (n:=n) (ops:=ops) (d:=d) (ty:=ty) (pos:=pos) (af:=af) (A:=A) (t:=t) (t':=t') hx hy;have e:(a==b)=decide ((a=true∧b=true)∨(a=false∧b=false)):=by cases a<;>cases b<;>rfl
 rwa [e] at this
end
end Go.SX
