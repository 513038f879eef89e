/- The juror: intent, taken, above. The juror: prepare. The juror: decide. The juror: Plan. The juror: Apply. The juror: New; the law's example. The document's note, cut: Hits, Few. The document's notes: fields by letters, Right, apart from any program. The juror's laws, apart from the program: votes, what comes twice. The document's notes: Name, has, num, vec, Right. No condition. -/
import Derived.Test.YtjlgabojhnnbaaaGreatDoorPk06
set_option linter.unusedVariables false
set_option linter.unusedSimpArgs false
set_option linter.unusedSectionVars false
set_option maxHeartbeats 4000000
namespace Go.Proofs.YtjlgabojhnnbaaaGreatDoor
open Go Go.SX
attribute [local irreducible] swp opsS thenS blockS retS CallsS St Ent YieldS anyS drawS
abbrev IV.zero :IV:=⟨0,0,none,0,[]⟩
theorem okI.zero {M:OM}:okI M IV.zero:=⟨SlM.nil0,λo ho=>by cases ho⟩
theorem intent_spec (M:OM)(p:Nat)(j:JS)(n:Nat)(t:Int)(L:HL)(hw:WFK j.v n)(hn:n≤10000):
  CallsS Tryz.prog 129 [ptrJ p,.int .u64 t] (jurH M p j::roM M::L) (λr L'=>∃(i:IV) (M':OM),r=.tuple #[i.val,.bool (lkL j.v.its t).isSome]∧leM M M'∧okI M' i∧(∀x,lkL j.v.its t=some x→i.after=x.1∧i.ops.map OV.abs=x.2)∧L'=jurH M' p j::roM M'::L):=by
 refine CallsS.of_body Tryz.func129 rfl rfl rfl ?_;refine Q.r ?_;(repeat (intro b1;refine Q.r ?_));refine S.cj p rfl (JIntents_spec M p j n _ hw.wf hn) ?_;rintro _ _ ⟨a,c,es,M',rfl,hl,hs,hok,hp,rfl⟩;refine Q.r ?_;have hle:es.length≤10000:=by
  have:=hp.length_eq;rw[List.length_map] at this;have h2:=hw.wf.il;omega
 refine swp_cutB (σ:=Unit) (λ_=> [(4,.pointer (some ⟨b1,0,none⟩))]) (λ_=>pt b1 (cl IV.zero.cells 100)::jurH M' p j::roM M'::L) (λ_=>lkL j.v.its t=none) ?_ ?_
 ·refine swp_loop (σ:=Nat) (λk=> [(1,.int .u64 t),(4,.pointer (some ⟨b1,0,none⟩)),(9,.slice a es.length c),(10,.int .i64 es.length),(11,.int .i64 k)])
   (λ_=>pt b1 (cl IV.zero.cells 100)::jurH M' p j::roM M'::L) (λk=>k≤es.length∧∀e∈es.take k,e.txn≠t) (λk=>es.length - k) 0 zt eG ⟨by omega,by simp⟩ ?_
  rintro k ⟨hk1,hk2⟩
  by_cases hlt:k<es.length
  ·obtain ⟨e,he⟩:=mem_get hlt
   have hme:e∈es:=List.mem_of_getElem? he;obtain ⟨b,o,rfl,hr⟩:=RdS.elem (g:=IV.cells) (λ_=>rfl) (L:=pt b1 (cl IV.zero.cells 100)::jurH M' p j::roM M'::L) hs.rd he rfl
   by_cases ht:e.txn=t
   ·have hlk:lkL j.v.its t=some (e.after,e.ops.map OV.abs):=(lkL_iff hw.k2).2 (by rw[←ht];exact hp.mem_iff.1 (List.mem_map_of_mem (f:=IV.abs) hme))
    rw[hlk];refine Q.r ?_;(repeat (intro b1;refine Q.r ?_));exact N.r2 (by apply RV.cellN;rfl;exact RdC.row;rfl;exact RV.tmp rfl RV.nil) eG ⟨e,M',rfl,hl,hok e hme,(λx hx=>by cases hx;exact ⟨rfl,rfl⟩),rfl⟩
   ·refine Q.r ?_;(repeat (intro b1;refine Q.r ?_))
    refine ⟨k+1,zt,by exact eG,⟨by omega,λx hx=> ?_⟩,by omega⟩;rw[take_snoc he] at hx
    rcases List.mem_append.1 hx with hx|hx
    ·exact hk2 x hx
    ·rw[List.mem_singleton.1 hx];exact ht
  ·have hke:k=es.length:=by omega
   subst hke;rw[List.take_length] at hk2;have hlk:lkL j.v.its t=none:=lkL_none λu hu e=>by
    obtain ⟨x,hx,rfl⟩:=List.mem_map.1 (hp.mem_iff.2 hu);exact hk2 x hx e
   refine Q.r ?_;exact ⟨(),zt,by exact eG,hlk⟩
 ·rintro _ h0
  refine Q.r ?_;rw[h0];exact N.r2 (by apply RV.cellN;rfl;exact RdC.row;rfl;exact RV.tmp rfl RV.nil) eG ⟨IV.zero,M',rfl,hl,okI.zero,(λx hx=>by cases hx),rfl⟩
theorem taken1_spec (b:Nat)(o x:OV)(A:HL):CallsS Tryz.prog 161 ([]++[x.val]++[.pointer (some ⟨b,0,none⟩)]) (pt b (cl o.cells 119)::A) (λv L'=>v=.bool (decide (x.id=o.id))∧L'=pt b (cl o.cells 119)::A):=by
 refine CallsS.of_body Tryz.func161 rfl rfl rfl ?_;refine Q.r ?_;(repeat (intro b1;refine Q.r ?_));exact N.t rfl (Ent.drop (Ent.refl _)) ⟨rfl,rfl⟩
theorem above1_spec (b:Nat)(e:EV)(x:OV)(A:HL):CallsS Tryz.prog 162 ([]++[x.val]++[.pointer (some ⟨b,0,none⟩)]) (pt b (cl e.cells 94)::A) (λv L'=>v=.bool (decide (x.id=e.id))∧L'=pt b (cl e.cells 94)::A):=by
 refine CallsS.of_body Tryz.func162 rfl rfl rfl ?_;refine Q.r ?_;(repeat (intro b1;refine Q.r ?_));exact N.t rfl (Ent.drop (Ent.refl _)) ⟨rfl,rfl⟩
theorem taken_spec (M:OM)(p:Nat)(j:JS)(n:Nat)(a0:OA)(c0:Nat)(ops:List OV)(L:HL)(hw:WFK j.v n)(hn:n≤10000)(ho:SlM M a0 ops.length 2 (ops.flatMap OV.cells))(hol:ops.length≤1000000):
  CallsS Tryz.prog 131 [ptrJ p,.slice a0 ops.length c0] (jurH M p j::roM M::L) (λr L'=>∃(M':OM),r=.bool (takenV j.v (ops.map OV.abs))∧leM M M'∧L'=jurH M' p j::roM M'::L):=by
 refine CallsS.of_body Tryz.func131 rfl rfl rfl ?_;refine Q.r ?_;refine S.cj p rfl (JIntents_spec M p j n _ hw.wf hn) ?_;rintro _ _ ⟨a,c,es,M',rfl,hl,hs,hok,hp,rfl⟩;refine Q.r ?_;have hle:es.length≤10000:=by
  have:=hp.length_eq;rw[List.length_map] at this;have h2:=hw.wf.il;omega
 have hte:takenV j.v (ops.map OV.abs)=es.any λe=>e.ops.any λo=>ops.any λx=>decide (x.id=o.id):=by
  unfold takenV;rw[←hp.any_eq,List.any_map]
  congr 1;funext e
  rw[show ((λi:Int×Int×VL=>i.2.2.any λo=>holdsV (ops.map OV.abs) o.1)∘IV.abs) e=(e.ops.map OV.abs).any λo=>holdsV (ops.map OV.abs) o.1 from rfl,List.any_map]
  congr 1;funext o
  show holdsV (ops.map OV.abs) o.id=_
  rw[holds_abs]
 rw[hte];have hopl:∀e∈es,e.ops.length≤16:=λe he=>by
  have:=(hw.wf.io e.abs (hp.mem_iff.1 (List.mem_map_of_mem (f:=IV.abs) he))).1
  simpa using this
 refine swp_cutB (σ:=Unit) (λ_=> []) (λ_=>jurH M' p j::roM M'::L) (λ_=>(es.any λe=>e.ops.any λo=>ops.any λx=>decide (x.id=o.id))=false) ?_ ?_
 ·refine swp_loop (σ:=Nat) (λk=> [(1,.slice a0 ops.length c0),(10,.slice a es.length c),(11,.int .i64 es.length),(12,.int .i64 k)])
   (λ_=>jurH M' p j::roM M'::L) (λk=>k≤es.length∧((es.take k).any λe=>e.ops.any λo=>ops.any λx=>decide (x.id=o.id))=false) (λk=>es.length - k) 0 zt eG ⟨by omega,by simp⟩ ?_
  rintro k ⟨hk1,hk2⟩
  by_cases hlt:k<es.length
  ·obtain ⟨e,he⟩:=mem_get hlt
   have hme:e∈es:=List.mem_of_getElem? he;have hel:=hopl e hme;obtain ⟨b,o,hab,hr⟩:=RdS.elem (g:=IV.cells) (λ_=>rfl) (L:=jurH M' p j::roM M'::L) hs.rd he rfl;rw[hab];refine Q.r ?_;(repeat (intro b1;refine Q.r ?_));refine swp_loop (σ:=Nat) (λm=> [(1,.slice a0 ops.length c0),(10,.slice (some ⟨b,o,none⟩) es.length c),(11,.int .i64 es.length),(12,.int .i64 k),(17,.slice e.a e.ops.length e.c),(18,.int .i64 e.ops.length),(19,.int .i64 m)])
     (λ_=>jurH M' p j::roM M'::L) (λm=>m≤e.ops.length∧((e.ops.take m).any λo=>ops.any λx=>decide (x.id=o.id))=false) (λm=>e.ops.length - m) 0 zt eG ⟨by omega,by simp⟩ ?_
   rintro m ⟨hm1,hm2⟩
   by_cases hmt:m<e.ops.length
   ·obtain ⟨u,hu⟩:=mem_get hmt
    have hmu:u∈e.ops:=List.mem_of_getElem? hu;obtain ⟨bu,ou,hau,hru⟩:=RdS.elem (g:=OV.cells) (λ_=>rfl) (L:=jurH M' p j::roM M'::L) (hok e hme).1.rd hu rfl;rw[hau];refine Q.r ?_;(repeat (intro b1;refine Q.r ?_));refine S.y (Y.mf rfl rfl) ?_;refine S.cr rfl (HasO_spec 161 [] [.pointer (some ⟨b1,0,none⟩)] (λx=>decide (x.id=u.id)) a0 c0 ops _ (ho.mono hl).rd zo (λx hx=>taken1_spec b1 u x _)) ?_;rintro _ _ ⟨rfl,rfl⟩
    cases hany:ops.any λx=>decide (x.id=u.id) with
    |true=>
     refine Q.r ?_;refine N.t rfl eG ⟨M',?_,hl,rfl⟩;rw[List.any_eq_true.2 ⟨e,hme,List.any_eq_true.2 ⟨u,hmu,hany⟩⟩]
    |false=>
     refine Q.r ?_;refine ⟨m+1,zt,by exact eG,⟨by omega,?_⟩,by omega⟩;rw[take_snoc hu,List.any_append,hm2,List.any_cons,hany];rfl
   ·have hme2:m=e.ops.length:=by omega
    subst hme2;rw[List.take_length] at hm2;refine Q.r ?_;refine ⟨k+1,zt,by exact eG,⟨by omega,?_⟩,by omega⟩;rw[take_snoc he,List.any_append,hk2,List.any_cons,hm2];rfl
  ·have hke:k=es.length:=by omega
   subst hke;rw[List.take_length] at hk2;refine Q.r ?_;exact ⟨(),trivial,by exact eG,hk2⟩
 ·rintro _ h0
  refine Q.r ?_;rw[h0];exact N.t rfl eG ⟨M',rfl,hl,rfl⟩
theorem last_get {vs:List OV}(h:0<vs.length):∃u,vs[vs.length - 1]? =some u∧lastS (vs.map OV.abs)=u.id:=by
 refine ⟨vs[vs.length - 1],List.getElem?_eq_getElem zo,?_⟩;unfold lastS;rw[List.getLast?_map,List.getLast?_eq_getElem?,List.getElem?_eq_getElem zo];rfl
theorem above_spec (M:OM)(p:Nat)(j:JS)(n:Nat)(s:Int)(a0:OA)(c0:Nat)(ops:List OV)(L:HL)(hw:WFK j.v n)(hn:n≤10000)(hne:∀c∈j.v.ch,0<c.2.length)(ho:SlM M a0 ops.length 2 (ops.flatMap OV.cells))(hol:ops.length≤1000000):
  CallsS Tryz.prog 132 [ptrJ p,.int .u64 s,.slice a0 ops.length c0] (jurH M p j::roM M::L) (λr L'=>∃(M':OM),r=.bool (aboveV j.v s (ops.map OV.abs))∧leM M M'∧L'=jurH M' p j::roM M'::L):=by
 refine CallsS.of_body Tryz.func132 rfl rfl rfl ?_;refine Q.r ?_;refine S.cj p rfl (JDump_spec M p j n _ hw.wf hn) ?_;rintro _ _ ⟨a,c,es,M',rfl,hl,hs,hok,hp,rfl⟩;refine Q.r ?_;have hle:es.length≤160000:=by
  have:=hp.length_eq;rw[List.length_map] at this;have h2:=hw.wf.cl;omega
 have hte:aboveV j.v s (ops.map OV.abs)= !es.any λe=>decide (s≤lastS (e.vs.map OV.abs))&&ops.any λx=>decide (x.id=e.id):=by
  unfold aboveV;rw[←hp.any_eq,List.any_map]
  congr 2;funext e
  show (decide (s≤lastS (e.vs.map OV.abs))&&holdsV (ops.map OV.abs) e.id)=_
  rw[holds_abs]
 rw[hte];have hvl:∀e∈es,0<e.vs.length∧e.vs.length≤10000:=λe he=>by
  have hm:=hp.mem_iff.1 (List.mem_map_of_mem (f:=EV.abs) he);have h1:=hne _ hm;have h2:=(hw.wf.co _ hm).2.1
  simp at h1 h2
  omega
 refine swp_cutB (σ:=Unit) (λ_=> []) (λ_=>jurH M' p j::roM M'::L) (λ_=>(es.any λe=>decide (s≤lastS (e.vs.map OV.abs))&&ops.any λx=>decide (x.id=e.id))=false) ?_ ?_
 ·refine swp_loop (σ:=Nat) (λk=> [(1,.int .u64 s),(2,.slice a0 ops.length c0),(11,.slice a es.length c),(12,.int .i64 es.length),(13,.int .i64 k)])
   (λ_=>jurH M' p j::roM M'::L) (λk=>k≤es.length∧((es.take k).any λe=>decide (s≤lastS (e.vs.map OV.abs))&&ops.any λx=>decide (x.id=e.id))=false) (λk=>es.length - k) 0 zt eG ⟨by omega,by simp⟩ ?_
  rintro k ⟨hk1,hk2⟩
  by_cases hlt:k<es.length
  ·obtain ⟨e,he⟩:=mem_get hlt
   have hme:e∈es:=List.mem_of_getElem? he;have hel:=hvl e hme;obtain ⟨b,o,hab,hr⟩:=RdS.elem (g:=EV.cells) (λ_=>rfl) (L:=jurH M' p j::roM M'::L) hs.rd he rfl;rw[hab];obtain ⟨u,hu,hul⟩:=last_get hel.1;obtain ⟨bu,ou,hau,hru⟩:=RdS.elem (g:=OV.cells) (λ_=>rfl) (L:=jurH M' p j::roM M'::L) (hok e hme).1.rd hu rfl;have hru0:=hru.head
   by_cases hc:s≤u.id
   ·repeat (first|refine S.y (Y.ldRj rfl (by first|assumption|exact RdC.sub (by assumption)) rfl) ?_|refine Q.yn ?_|refine S.stI rfl rfl (by first|omega|(rw[Array.size_setIfInBounds];omega)) ?_|(refine GQ.y ?_;refine Q.y ?_)|refine Q.go ?_|(refine GQ.g ?_;refine Q.gq ?_)|(refine GQ.s ?_;refine Q.st ?_)|(refine GQ.g ?_;refine Q.gd ?_)|refine Q.ct rfl ?_|refine Q.cf rfl ?_|(refine GQ.a ?_;refine Q.al (λb1=> ?_)))
    rw[hau]
    repeat (first|refine S.y (Y.ldRj rfl (by first|assumption|exact RdC.sub (by assumption)) rfl) ?_|refine Q.yn ?_|refine S.stI rfl rfl (by first|omega|(rw[Array.size_setIfInBounds];omega)) ?_|(refine GQ.y ?_;refine Q.y ?_)|refine Q.go ?_|(refine GQ.g ?_;refine Q.gq ?_)|(refine GQ.s ?_;refine Q.st ?_)|(refine GQ.g ?_;refine Q.gd ?_)|refine Q.ct rfl ?_|refine Q.cf rfl ?_|(refine GQ.a ?_;refine Q.al (λb1=> ?_)))
    refine S.y (Y.mf rfl rfl) ?_;refine Q.r ?_;refine S.cr rfl (HasO_spec 162 [] [.pointer (some ⟨b1,0,none⟩)] (λx=>decide (x.id=e.id)) a0 c0 ops _ (ho.mono hl).rd zo (λx hx=>by have:=above1_spec b1 e x (jurH M' p j::roM M'::L);rw[←hau];exact this)) ?_;rintro _ _ ⟨rfl,rfl⟩;have hce:decide (s≤lastS (e.vs.map OV.abs))=true:=by rw[hul];exact decide_eq_true hc
    cases hany:ops.any λx=>decide (x.id=e.id) with
    |true=>
     refine Q.r ?_;refine N.t rfl eG ⟨M',?_,hl,rfl⟩;rw[List.any_eq_true.2 ⟨e,hme,by rw[hce,hany];rfl⟩];rfl
    |false=>
     refine Q.r ?_;refine ⟨k+1,zt,by exact eG,⟨by omega,?_⟩,by omega⟩;rw[take_snoc he,List.any_append,hk2,List.any_cons,hany,Bool.and_false];rfl
   ·repeat (first|refine S.y (Y.ldRj rfl (by first|assumption|exact RdC.sub (by assumption)) rfl) ?_|refine Q.yn ?_|refine S.stI rfl rfl (by first|omega|(rw[Array.size_setIfInBounds];omega)) ?_|(refine GQ.y ?_;refine Q.y ?_)|refine Q.go ?_|(refine GQ.g ?_;refine Q.gq ?_)|(refine GQ.s ?_;refine Q.st ?_)|(refine GQ.g ?_;refine Q.gd ?_)|refine Q.ct rfl ?_|refine Q.cf rfl ?_|(refine GQ.a ?_;refine Q.al (λb1=> ?_)))
    rw[hau]
    repeat (first|refine S.y (Y.ldRj rfl (by first|assumption|exact RdC.sub (by assumption)) rfl) ?_|refine Q.yn ?_|refine S.stI rfl rfl (by first|omega|(rw[Array.size_setIfInBounds];omega)) ?_|(refine GQ.y ?_;refine Q.y ?_)|refine Q.go ?_|(refine GQ.g ?_;refine Q.gq ?_)|(refine GQ.s ?_;refine Q.st ?_)|(refine GQ.g ?_;refine Q.gd ?_)|refine Q.ct rfl ?_|refine Q.cf rfl ?_|(refine GQ.a ?_;refine Q.al (λb1=> ?_)))
    have hce:decide (s≤lastS (e.vs.map OV.abs))=false:=by rw[hul];exact decide_eq_false hc
    refine ⟨k+1,zt,by exact eG,⟨by omega,?_⟩,by omega⟩;rw[take_snoc he,List.any_append,hk2,List.any_cons,hce];rfl
  ·have hke:k=es.length:=by omega
   subst hke;rw[List.take_length] at hk2;refine Q.r ?_;exact ⟨(),trivial,by exact eG,hk2⟩
 ·rintro _ h0
  refine Q.r ?_;rw[h0];exact N.t rfl eG ⟨M',rfl,hl,rfl⟩
end Go.Proofs.YtjlgabojhnnbaaaGreatDoor
namespace Go.SX
open Go
section
variable {P : Program} {n : Nat} {ops : List Oper} {Q : Post} {f : Env} {A L : HL} {cs : List Nat}
theorem A.three (i j m0:Nat){k:Nat}{listed:Array Bool}{held:Bool}{o o' o2:Oper}(hr:Region.ready .any ops.toArray listed=[i,j,m0])(hi:ops[i]? =some o)(hj:ops[j]? =some o')(h2:ops[m0]? =some o2)
  (h:oneS P n ops o (λf L=>anyS P n ops Q cs A k (listed.setIfInBounds i true) held f L) f L)
  (h':oneS P n ops o' (λf L=>anyS P n ops Q cs A k (listed.setIfInBounds j true) held f L) f L)
  (h'':oneS P n ops o2 (λf L=>anyS P n ops Q cs A k (listed.setIfInBounds m0 true) held f L) f L):anyS P n ops Q cs A (k+1) listed held f L:=by
 intro ok F a w s hsh t hh;refine ⟨λh0=>(by rw[h0] at hr;cases hr),λm hm=> ?_⟩;have hri:i∈Region.ready .any ops.toArray listed:=by rw[hr];simp
 have hrj:j∈Region.ready .any ops.toArray listed:=by rw[hr];simp
 have hrm:m0∈Region.ready .any ops.toArray listed:=by rw[hr];simp
 rw[hr] at hm
 rcases (by simpa using hm:m=i∨m=j∨m=m0) with rfl|rfl|rfl
 ·cases held with
  |true=>exact one_of (M':=A) hi ok s (by simpa using t) (hsh.set hri) (.inl ⟨rfl,rfl⟩) h
  |false=>exact one_of (M':=[]) hi ok s (by simpa using t) (hsh.set hri) (.inr ⟨rfl,rfl,hit_set (hh rfl)⟩) h
 ·cases held with
  |true=>exact one_of (M':=A) hj ok s (by simpa using t) (hsh.set hrj) (.inl ⟨rfl,rfl⟩) h'
  |false=>exact one_of (M':=[]) hj ok s (by simpa using t) (hsh.set hrj) (.inr ⟨rfl,rfl,hit_set (hh rfl)⟩) h'
 ·cases held with
  |true=>exact one_of (M':=A) h2 ok s (by simpa using t) (hsh.set hrm) (.inl ⟨rfl,rfl⟩) h''
  |false=>exact one_of (M':=[]) h2 ok s (by simpa using t) (hsh.set hrm) (.inr ⟨rfl,rfl,hit_set (hh rfl)⟩) h''
end
section
variable {P : Program} {n : Nat} {ops : List Oper} {Q : Post} {f : Env} {A L : HL} {E cs σ : List Nat} {listed : Array Bool} {held : Bool}
theorem D.three (i j m:Nat)(σ1 σ2 σ3:List Nat){τ:List Nat}{o o' o2:Oper}(hr:Region.ready .any ops.toArray listed=[i,j,m])(hi:ops[i]? =some o)(hj:ops[j]? =some o')(hm:ops[m]? =some o2)(hl1:σ1.length=τ.length)(hl2:σ2.length=τ.length)(hl3:σ3.length=τ.length)
  (ho1:ordOK ops.toArray E cs σ1 (listed.setIfInBounds i true)=true) (ho2:ordOK ops.toArray E cs σ2 (listed.setIfInBounds j true)=true) (ho3:ordOK ops.toArray E cs σ3 (listed.setIfInBounds m true)=true)
  (h1:opsS P n ops [o] (thenS (λf L=>drawS P n ops E cs A σ1 Q (listed.setIfInBounds i true) held f L) (λ_ _ _=>False)) f L)
  (h2:opsS P n ops [o'] (thenS (λf L=>drawS P n ops E cs A σ2 Q (listed.setIfInBounds j true) held f L) (λ_ _ _=>False)) f L)
  (h3:opsS P n ops [o2] (thenS (λf L=>drawS P n ops E cs A σ3 Q (listed.setIfInBounds m true) held f L) (λ_ _ _=>False)) f L):drawS P n ops E cs A (99999::τ) Q listed held f L:=by
 intro _ hs hQ;exact _root_.Go.SX.A.three i j m hr hi hj hm (λok F a w s t=>wpList_mono (h1 ok F a w s t) (by rintro e a w ⟨f,L,s,t,q⟩;cases e<;>first|exact ⟨f,L,s,t,hl1▸q ho1 hs hQ⟩|exact q.elim))
  (λok F a w s t=>wpList_mono (h2 ok F a w s t) (by rintro e a w ⟨f,L,s,t,q⟩;cases e<;>first|exact ⟨f,L,s,t,hl2▸q ho2 hs hQ⟩|exact q.elim))
  (λok F a w s t=>wpList_mono (h3 ok F a w s t) (by rintro e a w ⟨f,L,s,t,q⟩;cases e<;>first|exact ⟨f,L,s,t,hl3▸q ho3 hs hQ⟩|exact q.elim))
end
section
variable {P : Program} {n : Nat} {ops rest : List Oper} {Q : Post} {f : Env} {A L : HL} {d : Tmp} {ty : TypeId} {pos : String} {af : Array Edge}
theorem S.bs1 {t e:TypeId}{x:Operand}{v:Value}{sz bts:Nat}{ag:Bool}{zs cs:List Value}[h1:SlTy P t e][h2:Ty P e ag sz zs bts]
  (hx:ev f x=some v) (hv:v.cells.toList=cs) (hz0:Nat.beq zs.length sz=true) (hsm:Nat.ble sz 16777216=true) (hn:Nat.beq cs.length sz=true)
  (hk:∀b,opsS P n ops rest Q (upd f d (.slice (some ⟨b,0,none⟩) 1 1)) (slO e sz (some ⟨b,0,none⟩) 1 1 cs::L)):opsS P n ops (⟨some d,.buildSlice t 1 #[(0,x)],ty,pos,af,none⟩::rest) Q f L:=by
 have hn':cs.length=sz:=Nat.eq_of_beq_eq_true hn;have hz':zs.length=sz:=Nat.eq_of_beq_eq_true hz0;refine S.bs (len:=1) (parts:= #[(0,x)]) (l:=[(0,v)]) (cs:=cs) (by simp[partsL,hx]) hz0 (by rw[Nat.one_mul];exact hsm) ?_ ?_ (λb=> ?_)
 ·unfold fitsL cellsOf
  simp[rowL,hv,hn',Nat.beq_refl]
 ·unfold cellsOf
  simp only[List.map_cons,List.map_nil,hv,fillL,rowL,rep,List.append_nil]
  simp[putAt,hn',hz']
 ·exact opsS_ent (slO_fold (by rw[hn',Nat.one_mul])) (hk b)
end
end Go.SX
namespace Go.Proofs.YtjlgabojhnnbaaaGreatDoor
open Go Go.SX
attribute [local irreducible] swp opsS thenS blockS retS CallsS St Ent YieldS anyS drawS
def liftN (n:NV)(r:NA):NV:=if r.kind=12 then {n with kind:=12} else r.nv
def planR (n:NV)(M:OM)(p:Nat)(j:JS)(pl:PA)(L:HL)(r:Value)(L':HL):Prop:=∃(ra:OA) (rc:Nat) (ma:OA) (mc:Nat) (ea:OA) (ec:Nat) (M':OM),
 r=.agg #[.slice ra pl.rec_.length rc,.slice ma pl.mail.length mc,.slice ea pl.els.length ec]∧leM M M'∧
 L'=slO 53 16 ra pl.rec_.length rc (pl.rec_.flatMap λr=>(liftN n r).cells)::slO 55 17 ma pl.mail.length mc (pl.mail.flatMap mailC)::slO 55 17 ea pl.els.length ec (pl.els.flatMap mailC)::jurH M' p j::roM M'::L
abbrev eR :HP:=slO 53 16 none 0 0 []
abbrev eM :HP:=slO 55 17 none 0 0 []
theorem prepare_spec (n:NV)(M:OM)(p:Nat)(j:JS)(k:Nat)(L:HL)(hw:WFK j.v k)(hk:k≤10000)(hn:okN M n)(hN:OkN n):
  CallsS Tryz.prog 70 [ptrJ p,n.val] (jurH M p j::roM M::L) (planR n M p j (prepV j n.abs) L):=by
 unfold prepV;refine CallsS.of_body Tryz.func70 rfl rfl rfl ?_;refine Q.r ?_;(repeat (intro b1;refine Q.r ?_));refine S.cj p rfl (intent_spec M p j k n.txn _ hw hk) ?_;rintro _ _ ⟨i,M1,rfl,hl1,hi,hix,rfl⟩;refine Q.r ?_;(repeat (intro b1;refine Q.r ?_));refine swp_jur p (λv mp md self ps hq=> ?_);refine Q.dgo [true,true,true,true,true,true,true,true] [] [] [0,1,2,3,4,5,6,7,8,9,10,11] ?_;refine Q.rd ?_;refine D.y rfl rfl rfl zk (Y.lk true rfl rfl (λw=>Tryz.zeroValue31 w)) ?_
 cases hd:lkL j.done n.txn with
 |some s=>
  rw[if_pos (.inl rfl)];dsimp only;refine Q.rd ?_;refine Q.r ?_;refine Q.dgo [true,true,true,true,true,false,true,true] [8] [] [0,1,2,3,4,5,6,7,8,9,10,11] ?_;refine Q.rd ?_;refine Q.r ?_;refine N.r1 RV.c ?_ ⟨none,0,none,0,none,0,M1,rfl,hl1,rfl⟩;show Ent _ (eR::eM::eM::jurH M1 p j::roM M1::L);refine Ent.trans (jclose (p:=p) (v:=v) (sf:=self) (dim:=j.v.dim) (mp:=mp) (md:=md) (j:=j) (ps:=ps) hq rfl) ?_;exact eG
 |none=>
  dsimp only;refine Q.rd ?_;refine Q.r ?_;refine Q.dgo [true,true,true,true,true,false,true,true] [8] [] [0,1,2,3,4,5,6,7,8,9,10,11] ?_;refine Q.rd ?_;refine D.e rfl rfl rfl ?_;refine S.guard rfl ?_;refine S.cr rfl (Check_spec j.v.dim n.oa n.oc n.ops _ (hn.mono hl1).rd.o hN.o hN.ov (by have:=hw.wf.d1;have:=hw.wf.d2;omega)) ?_;rintro _ _ ⟨rfl,rfl⟩
  by_cases hc:checkV j.v.dim (n.ops.map OV.abs)≠0
  ·rw[if_pos (.inr hc)]
   refine Q.r ?_;refine Q.rd ?_;refine Q.r ?_;refine N.r1 RV.c ?_ ⟨none,0,none,0,none,0,M1,rfl,hl1,rfl⟩;show Ent _ (eR::eM::eM::jurH M1 p j::roM M1::L);refine Ent.trans (jclose (p:=p) (v:=v) (sf:=self) (dim:=j.v.dim) (mp:=mp) (md:=md) (j:=j) (ps:=ps) hq rfl) ?_;exact eG
  rw[if_neg (by rintro (h|h);cases h;exact hc h)];refine Q.r ?_;refine Q.rd ?_;refine Q.r ?_;refine swp_ent (jclose (p:=p) (v:=v) (sf:=self) (dim:=j.v.dim) (mp:=mp) (md:=md) (j:=j) (ps:=ps) hq rfl) ?_
  cases hi2:(lkL j.v.its n.txn).isSome with
  |true=>
   rw[if_pos rfl];refine Q.r ?_;refine S.cr rfl (vote_spec n.txn 0 _) ?_;rintro _ _ ⟨rfl,rfl⟩;refine Q.r ?_;(repeat (intro b1;refine Q.r ?_));refine N.r1 RV.c ?_ ⟨none,0,some ⟨b1,0,none⟩,1,none,0,M1,rfl,hl1,rfl⟩;show Ent _ (eR::slO 55 17 (some ⟨b1,0,none⟩) 1 1 (mailC (voteN n.txn 0))::eM::jurH M1 p j::roM M1::L);refine Ent.nilS ?_;refine Ent.trans ?_ (slO_fold rfl);exact eG
  |false=>
   rw[if_neg zd];refine Q.r ?_;refine S.cj p rfl (taken_spec M1 p j k n.oa n.oc n.ops _ hw hk (hn.mono hl1).o.1 hN.o) ?_;rintro _ _ ⟨M2,rfl,hl2,rfl⟩
   cases ht:takenV j.v (n.ops.map OV.abs) with
   |true=>
    rw[if_pos rfl];refine Q.r ?_;refine S.cr rfl (vote_spec n.txn 11 _) ?_;rintro _ _ ⟨rfl,rfl⟩;refine Q.r ?_;(repeat (intro b1;refine Q.r ?_));refine N.r1 RV.c ?_ ⟨none,0,some ⟨b1,0,none⟩,1,none,0,M2,rfl,hl1.trans hl2,rfl⟩;show Ent _ (eR::slO 55 17 (some ⟨b1,0,none⟩) 1 1 (mailC (voteN n.txn 11))::eM::jurH M2 p j::roM M2::L);refine Ent.nilS ?_;refine Ent.trans ?_ (slO_fold rfl);exact eG
   |false=>
    rw[if_neg zd];refine Q.r ?_;(repeat (intro b1;refine Q.r ?_));refine Q.dgo [true,false,false,false,false,true] [1,4,5,8,9,11] [] [0,2,3,6,7,99999,0,0,0,0,0,0] ?_;refine Q.rd ?_;refine D.two 1 4 [4,99999,0,0,0,0] [99999,0,0,0,0,0] zk rfl rfl rfl rfl zk zk ?_ ?_
    ·refine S.bs1 (cs:=({n with kind:=12}:NV).cells) rfl rfl rfl rfl rfl (λbR=> ?_)
     refine Q.r ?_;refine D.e rfl rfl rfl ?_;refine S.cr rfl (vote_spec n.txn 0 _) ?_;rintro _ _ ⟨rfl,rfl⟩;refine Q.r ?_;refine D.two 5 8 [8,9,10,11] [99999,0,0,0] zk rfl rfl rfl rfl zk zk ?_ ?_
     ·refine S.bs1 (cs:=mailC (voteN n.txn 0)) rfl rfl rfl rfl rfl (λbM=> ?_)
      refine Q.r ?_;refine D.e rfl rfl rfl ?_;refine S.cr rfl (vote_spec n.txn 8 _) ?_;rintro _ _ ⟨rfl,rfl⟩;refine Q.r ?_;refine D.e rfl rfl rfl ?_;refine S.bs1 (cs:=mailC (voteN n.txn 8)) rfl rfl rfl rfl rfl (λbE=> ?_);refine Q.r ?_;refine Q.rd ?_;refine Q.r ?_;refine N.r1 RV.c ?_ ⟨some ⟨bR,0,none⟩,1,some ⟨bM,0,none⟩,1,some ⟨bE,0,none⟩,1,M2,rfl,hl1.trans hl2,rfl⟩;show Ent _ (slO 53 16 (some ⟨bR,0,none⟩) 1 1 ({n with kind:=12}:NV).cells::slO 55 17 (some ⟨bM,0,none⟩) 1 1 (mailC (voteN n.txn 0))::slO 55 17 (some ⟨bE,0,none⟩) 1 1 (mailC (voteN n.txn 8))::jurH M2 p j::roM M2::L);exact eG
     ·refine S.cr rfl (vote_spec n.txn 8 _) ?_
      rintro _ _ ⟨rfl,rfl⟩;refine Q.r ?_;refine D.two 5 9 [9,10,11] [5,10,11] zk rfl rfl rfl rfl zk zk ?_ ?_
      ·refine S.bs1 (cs:=mailC (voteN n.txn 0)) rfl rfl rfl rfl rfl (λbM=> ?_)
       refine Q.r ?_;refine D.e rfl rfl rfl ?_;refine S.bs1 (cs:=mailC (voteN n.txn 8)) rfl rfl rfl rfl rfl (λbE=> ?_);refine Q.r ?_;refine Q.rd ?_;refine Q.r ?_;refine N.r1 RV.c ?_ ⟨some ⟨bR,0,none⟩,1,some ⟨bM,0,none⟩,1,some ⟨bE,0,none⟩,1,M2,rfl,hl1.trans hl2,rfl⟩;show Ent _ (slO 53 16 (some ⟨bR,0,none⟩) 1 1 ({n with kind:=12}:NV).cells::slO 55 17 (some ⟨bM,0,none⟩) 1 1 (mailC (voteN n.txn 0))::slO 55 17 (some ⟨bE,0,none⟩) 1 1 (mailC (voteN n.txn 8))::jurH M2 p j::roM M2::L);exact eG
      ·refine S.bs1 (cs:=mailC (voteN n.txn 8)) rfl rfl rfl rfl rfl (λbE=> ?_)
       refine Q.r ?_;refine D.e rfl rfl rfl ?_;refine S.bs1 (cs:=mailC (voteN n.txn 0)) rfl rfl rfl rfl rfl (λbM=> ?_);refine Q.r ?_;refine Q.rd ?_;refine Q.r ?_;refine N.r1 RV.c ?_ ⟨some ⟨bR,0,none⟩,1,some ⟨bM,0,none⟩,1,some ⟨bE,0,none⟩,1,M2,rfl,hl1.trans hl2,rfl⟩;show Ent _ (slO 53 16 (some ⟨bR,0,none⟩) 1 1 ({n with kind:=12}:NV).cells::slO 55 17 (some ⟨bM,0,none⟩) 1 1 (mailC (voteN n.txn 0))::slO 55 17 (some ⟨bE,0,none⟩) 1 1 (mailC (voteN n.txn 8))::jurH M2 p j::roM M2::L);exact eG
    ·refine S.cr rfl (vote_spec n.txn 0 _) ?_
     rintro _ _ ⟨rfl,rfl⟩;refine Q.r ?_;refine D.three 1 5 8 [99999,0,0,0,0] [99999,0,0,0,0] [99999,0,0,0,0] zk rfl rfl rfl rfl rfl rfl zk zk zk ?_ ?_ ?_
     ·refine S.bs1 (cs:=({n with kind:=12}:NV).cells) rfl rfl rfl rfl rfl (λbR=> ?_)
      refine Q.r ?_;refine D.two 5 8 [8,9,10,11] [99999,0,0,0] zk rfl rfl rfl rfl zk zk ?_ ?_
      ·refine S.bs1 (cs:=mailC (voteN n.txn 0)) rfl rfl rfl rfl rfl (λbM=> ?_)
       refine Q.r ?_;refine D.e rfl rfl rfl ?_;refine S.cr rfl (vote_spec n.txn 8 _) ?_;rintro _ _ ⟨rfl,rfl⟩;refine Q.r ?_;refine D.e rfl rfl rfl ?_;refine S.bs1 (cs:=mailC (voteN n.txn 8)) rfl rfl rfl rfl rfl (λbE=> ?_);refine Q.r ?_;refine Q.rd ?_;refine Q.r ?_;refine N.r1 RV.c ?_ ⟨some ⟨bR,0,none⟩,1,some ⟨bM,0,none⟩,1,some ⟨bE,0,none⟩,1,M2,rfl,hl1.trans hl2,rfl⟩;show Ent _ (slO 53 16 (some ⟨bR,0,none⟩) 1 1 ({n with kind:=12}:NV).cells::slO 55 17 (some ⟨bM,0,none⟩) 1 1 (mailC (voteN n.txn 0))::slO 55 17 (some ⟨bE,0,none⟩) 1 1 (mailC (voteN n.txn 8))::jurH M2 p j::roM M2::L);exact eG
      ·refine S.cr rfl (vote_spec n.txn 8 _) ?_
       rintro _ _ ⟨rfl,rfl⟩;refine Q.r ?_;refine D.two 5 9 [9,10,11] [5,10,11] zk rfl rfl rfl rfl zk zk ?_ ?_
       ·refine S.bs1 (cs:=mailC (voteN n.txn 0)) rfl rfl rfl rfl rfl (λbM=> ?_)
        refine Q.r ?_;refine D.e rfl rfl rfl ?_;refine S.bs1 (cs:=mailC (voteN n.txn 8)) rfl rfl rfl rfl rfl (λbE=> ?_);refine Q.r ?_;refine Q.rd ?_;refine Q.r ?_;refine N.r1 RV.c ?_ ⟨some ⟨bR,0,none⟩,1,some ⟨bM,0,none⟩,1,some ⟨bE,0,none⟩,1,M2,rfl,hl1.trans hl2,rfl⟩;show Ent _ (slO 53 16 (some ⟨bR,0,none⟩) 1 1 ({n with kind:=12}:NV).cells::slO 55 17 (some ⟨bM,0,none⟩) 1 1 (mailC (voteN n.txn 0))::slO 55 17 (some ⟨bE,0,none⟩) 1 1 (mailC (voteN n.txn 8))::jurH M2 p j::roM M2::L);exact eG
       ·refine S.bs1 (cs:=mailC (voteN n.txn 8)) rfl rfl rfl rfl rfl (λbE=> ?_)
        refine Q.r ?_;refine D.e rfl rfl rfl ?_;refine S.bs1 (cs:=mailC (voteN n.txn 0)) rfl rfl rfl rfl rfl (λbM=> ?_);refine Q.r ?_;refine Q.rd ?_;refine Q.r ?_;refine N.r1 RV.c ?_ ⟨some ⟨bR,0,none⟩,1,some ⟨bM,0,none⟩,1,some ⟨bE,0,none⟩,1,M2,rfl,hl1.trans hl2,rfl⟩;show Ent _ (slO 53 16 (some ⟨bR,0,none⟩) 1 1 ({n with kind:=12}:NV).cells::slO 55 17 (some ⟨bM,0,none⟩) 1 1 (mailC (voteN n.txn 0))::slO 55 17 (some ⟨bE,0,none⟩) 1 1 (mailC (voteN n.txn 8))::jurH M2 p j::roM M2::L);exact eG
     ·refine S.bs1 (cs:=mailC (voteN n.txn 0)) rfl rfl rfl rfl rfl (λbM=> ?_)
      refine Q.r ?_;refine D.two 1 8 [8,9,10,11] [99999,0,0,0] zk rfl rfl rfl rfl zk zk ?_ ?_
      ·refine S.bs1 (cs:=({n with kind:=12}:NV).cells) rfl rfl rfl rfl rfl (λbR=> ?_)
       refine Q.r ?_;refine D.e rfl rfl rfl ?_;refine S.cr rfl (vote_spec n.txn 8 _) ?_;rintro _ _ ⟨rfl,rfl⟩;refine Q.r ?_;refine D.e rfl rfl rfl ?_;refine S.bs1 (cs:=mailC (voteN n.txn 8)) rfl rfl rfl rfl rfl (λbE=> ?_);refine Q.r ?_;refine Q.rd ?_;refine Q.r ?_;refine N.r1 RV.c ?_ ⟨some ⟨bR,0,none⟩,1,some ⟨bM,0,none⟩,1,some ⟨bE,0,none⟩,1,M2,rfl,hl1.trans hl2,rfl⟩;show Ent _ (slO 53 16 (some ⟨bR,0,none⟩) 1 1 ({n with kind:=12}:NV).cells::slO 55 17 (some ⟨bM,0,none⟩) 1 1 (mailC (voteN n.txn 0))::slO 55 17 (some ⟨bE,0,none⟩) 1 1 (mailC (voteN n.txn 8))::jurH M2 p j::roM M2::L);exact eG
      ·refine S.cr rfl (vote_spec n.txn 8 _) ?_
       rintro _ _ ⟨rfl,rfl⟩;refine Q.r ?_;refine D.two 1 9 [9,10,11] [1,10,11] zk rfl rfl rfl rfl zk zk ?_ ?_
       ·refine S.bs1 (cs:=({n with kind:=12}:NV).cells) rfl rfl rfl rfl rfl (λbR=> ?_)
        refine Q.r ?_;refine D.e rfl rfl rfl ?_;refine S.bs1 (cs:=mailC (voteN n.txn 8)) rfl rfl rfl rfl rfl (λbE=> ?_);refine Q.r ?_;refine Q.rd ?_;refine Q.r ?_;refine N.r1 RV.c ?_ ⟨some ⟨bR,0,none⟩,1,some ⟨bM,0,none⟩,1,some ⟨bE,0,none⟩,1,M2,rfl,hl1.trans hl2,rfl⟩;show Ent _ (slO 53 16 (some ⟨bR,0,none⟩) 1 1 ({n with kind:=12}:NV).cells::slO 55 17 (some ⟨bM,0,none⟩) 1 1 (mailC (voteN n.txn 0))::slO 55 17 (some ⟨bE,0,none⟩) 1 1 (mailC (voteN n.txn 8))::jurH M2 p j::roM M2::L);exact eG
       ·refine S.bs1 (cs:=mailC (voteN n.txn 8)) rfl rfl rfl rfl rfl (λbE=> ?_)
        refine Q.r ?_;refine D.e rfl rfl rfl ?_;refine S.bs1 (cs:=({n with kind:=12}:NV).cells) rfl rfl rfl rfl rfl (λbR=> ?_);refine Q.r ?_;refine Q.rd ?_;refine Q.r ?_;refine N.r1 RV.c ?_ ⟨some ⟨bR,0,none⟩,1,some ⟨bM,0,none⟩,1,some ⟨bE,0,none⟩,1,M2,rfl,hl1.trans hl2,rfl⟩;show Ent _ (slO 53 16 (some ⟨bR,0,none⟩) 1 1 ({n with kind:=12}:NV).cells::slO 55 17 (some ⟨bM,0,none⟩) 1 1 (mailC (voteN n.txn 0))::slO 55 17 (some ⟨bE,0,none⟩) 1 1 (mailC (voteN n.txn 8))::jurH M2 p j::roM M2::L);exact eG
     ·refine S.cr rfl (vote_spec n.txn 8 _) ?_
      rintro _ _ ⟨rfl,rfl⟩;refine Q.r ?_;refine D.three 1 5 9 [99999,0,0,0] [99999,0,0,0] [99999,0,0,0] zk rfl rfl rfl rfl rfl rfl zk zk zk ?_ ?_ ?_
      ·refine S.bs1 (cs:=({n with kind:=12}:NV).cells) rfl rfl rfl rfl rfl (λbR=> ?_)
       refine Q.r ?_;refine D.two 5 9 [9,10,11] [5,10,11] zk rfl rfl rfl rfl zk zk ?_ ?_
       ·refine S.bs1 (cs:=mailC (voteN n.txn 0)) rfl rfl rfl rfl rfl (λbM=> ?_)
        refine Q.r ?_;refine D.e rfl rfl rfl ?_;refine S.bs1 (cs:=mailC (voteN n.txn 8)) rfl rfl rfl rfl rfl (λbE=> ?_);refine Q.r ?_;refine Q.rd ?_;refine Q.r ?_;refine N.r1 RV.c ?_ ⟨some ⟨bR,0,none⟩,1,some ⟨bM,0,none⟩,1,some ⟨bE,0,none⟩,1,M2,rfl,hl1.trans hl2,rfl⟩;show Ent _ (slO 53 16 (some ⟨bR,0,none⟩) 1 1 ({n with kind:=12}:NV).cells::slO 55 17 (some ⟨bM,0,none⟩) 1 1 (mailC (voteN n.txn 0))::slO 55 17 (some ⟨bE,0,none⟩) 1 1 (mailC (voteN n.txn 8))::jurH M2 p j::roM M2::L);exact eG
       ·refine S.bs1 (cs:=mailC (voteN n.txn 8)) rfl rfl rfl rfl rfl (λbE=> ?_)
        refine Q.r ?_;refine D.e rfl rfl rfl ?_;refine S.bs1 (cs:=mailC (voteN n.txn 0)) rfl rfl rfl rfl rfl (λbM=> ?_);refine Q.r ?_;refine Q.rd ?_;refine Q.r ?_;refine N.r1 RV.c ?_ ⟨some ⟨bR,0,none⟩,1,some ⟨bM,0,none⟩,1,some ⟨bE,0,none⟩,1,M2,rfl,hl1.trans hl2,rfl⟩;show Ent _ (slO 53 16 (some ⟨bR,0,none⟩) 1 1 ({n with kind:=12}:NV).cells::slO 55 17 (some ⟨bM,0,none⟩) 1 1 (mailC (voteN n.txn 0))::slO 55 17 (some ⟨bE,0,none⟩) 1 1 (mailC (voteN n.txn 8))::jurH M2 p j::roM M2::L);exact eG
      ·refine S.bs1 (cs:=mailC (voteN n.txn 0)) rfl rfl rfl rfl rfl (λbM=> ?_)
       refine Q.r ?_;refine D.two 1 9 [9,10,11] [1,10,11] zk rfl rfl rfl rfl zk zk ?_ ?_
       ·refine S.bs1 (cs:=({n with kind:=12}:NV).cells) rfl rfl rfl rfl rfl (λbR=> ?_)
        refine Q.r ?_;refine D.e rfl rfl rfl ?_;refine S.bs1 (cs:=mailC (voteN n.txn 8)) rfl rfl rfl rfl rfl (λbE=> ?_);refine Q.r ?_;refine Q.rd ?_;refine Q.r ?_;refine N.r1 RV.c ?_ ⟨some ⟨bR,0,none⟩,1,some ⟨bM,0,none⟩,1,some ⟨bE,0,none⟩,1,M2,rfl,hl1.trans hl2,rfl⟩;show Ent _ (slO 53 16 (some ⟨bR,0,none⟩) 1 1 ({n with kind:=12}:NV).cells::slO 55 17 (some ⟨bM,0,none⟩) 1 1 (mailC (voteN n.txn 0))::slO 55 17 (some ⟨bE,0,none⟩) 1 1 (mailC (voteN n.txn 8))::jurH M2 p j::roM M2::L);exact eG
       ·refine S.bs1 (cs:=mailC (voteN n.txn 8)) rfl rfl rfl rfl rfl (λbE=> ?_)
        refine Q.r ?_;refine D.e rfl rfl rfl ?_;refine S.bs1 (cs:=({n with kind:=12}:NV).cells) rfl rfl rfl rfl rfl (λbR=> ?_);refine Q.r ?_;refine Q.rd ?_;refine Q.r ?_;refine N.r1 RV.c ?_ ⟨some ⟨bR,0,none⟩,1,some ⟨bM,0,none⟩,1,some ⟨bE,0,none⟩,1,M2,rfl,hl1.trans hl2,rfl⟩;show Ent _ (slO 53 16 (some ⟨bR,0,none⟩) 1 1 ({n with kind:=12}:NV).cells::slO 55 17 (some ⟨bM,0,none⟩) 1 1 (mailC (voteN n.txn 0))::slO 55 17 (some ⟨bE,0,none⟩) 1 1 (mailC (voteN n.txn 8))::jurH M2 p j::roM M2::L);exact eG
      ·refine S.bs1 (cs:=mailC (voteN n.txn 8)) rfl rfl rfl rfl rfl (λbE=> ?_)
       refine Q.r ?_;refine D.two 1 5 [5,10,11] [1,10,11] zk rfl rfl rfl rfl zk zk ?_ ?_
       ·refine S.bs1 (cs:=({n with kind:=12}:NV).cells) rfl rfl rfl rfl rfl (λbR=> ?_)
        refine Q.r ?_;refine D.e rfl rfl rfl ?_;refine S.bs1 (cs:=mailC (voteN n.txn 0)) rfl rfl rfl rfl rfl (λbM=> ?_);refine Q.r ?_;refine Q.rd ?_;refine Q.r ?_;refine N.r1 RV.c ?_ ⟨some ⟨bR,0,none⟩,1,some ⟨bM,0,none⟩,1,some ⟨bE,0,none⟩,1,M2,rfl,hl1.trans hl2,rfl⟩;show Ent _ (slO 53 16 (some ⟨bR,0,none⟩) 1 1 ({n with kind:=12}:NV).cells::slO 55 17 (some ⟨bM,0,none⟩) 1 1 (mailC (voteN n.txn 0))::slO 55 17 (some ⟨bE,0,none⟩) 1 1 (mailC (voteN n.txn 8))::jurH M2 p j::roM M2::L);exact eG
       ·refine S.bs1 (cs:=mailC (voteN n.txn 0)) rfl rfl rfl rfl rfl (λbM=> ?_)
        refine Q.r ?_;refine D.e rfl rfl rfl ?_;refine S.bs1 (cs:=({n with kind:=12}:NV).cells) rfl rfl rfl rfl rfl (λbR=> ?_);refine Q.r ?_;refine Q.rd ?_;refine Q.r ?_;refine N.r1 RV.c ?_ ⟨some ⟨bR,0,none⟩,1,some ⟨bM,0,none⟩,1,some ⟨bE,0,none⟩,1,M2,rfl,hl1.trans hl2,rfl⟩;show Ent _ (slO 53 16 (some ⟨bR,0,none⟩) 1 1 ({n with kind:=12}:NV).cells::slO 55 17 (some ⟨bM,0,none⟩) 1 1 (mailC (voteN n.txn 0))::slO 55 17 (some ⟨bE,0,none⟩) 1 1 (mailC (voteN n.txn 8))::jurH M2 p j::roM M2::L);exact eG
end Go.Proofs.YtjlgabojhnnbaaaGreatDoor
namespace Go.Proofs.YtjlgabojhnnbaaaGreatDoor
open Go Go.SX
attribute [local irreducible] swp opsS thenS blockS retS CallsS St Ent YieldS anyS drawS
theorem decide_spec (n:NV)(M:OM)(p:Nat)(j:JS)(k:Nat)(fr:Int)(L:HL)(hw:WFK j.v k)(hk:k≤10000)(hne:∀c∈j.v.ch,0<c.2.length):
  CallsS Tryz.prog 71 [ptrJ p,.int .i64 fr,n.val] (jurH M p j::roM M::L) (planR n M p j (deciV j fr n.abs) L):=by
 unfold deciV;refine CallsS.of_body Tryz.func71 rfl rfl rfl ?_;refine Q.r ?_;(repeat (intro b1;refine Q.r ?_));refine S.cj p rfl (intent_spec M p j k n.txn _ hw hk) ?_;rintro _ _ ⟨i,M1,rfl,hl1,hi,hix,rfl⟩;refine Q.r ?_;(repeat (intro b1;refine Q.r ?_));refine swp_jur p (λv mp md self ps hq=> ?_);refine Q.dgo [true,true,true,true,true,true,true,true] [] [] [0,1,2,3,4,5,6,7,8,9,10,11] ?_;refine Q.rd ?_;refine D.y rfl rfl rfl zk (Y.lk true rfl rfl (λw=>Tryz.zeroValue31 w)) ?_
 by_cases hc:n.code≠0
 ·rw[if_pos hc]
  cases hd:lkL j.done n.txn with
  |some s=>
   dsimp only;refine Q.rd ?_
   cases hi2:(lkL j.v.its n.txn).isSome with
   |false=>
    rw[if_neg (by rintro ⟨h,_⟩;cases h)];refine Q.r ?_;(repeat (intro b1;refine Q.r ?_));refine N.r1 RV.c ?_ ⟨none,0,none,0,none,0,M1,rfl,hl1,rfl⟩;show Ent _ (eR::eM::eM::jurH M1 p j::roM M1::L);refine Ent.trans (jclose (p:=p) (v:=v) (sf:=self) (dim:=j.v.dim) (mp:=mp) (md:=md) (j:=j) (ps:=ps) hq rfl) ?_;exact eG
   |true=>
    by_cases hf:fr=0
    ·rw[if_pos ⟨rfl,hf⟩]
     refine Q.r ?_;(repeat (intro b1;refine Q.r ?_));refine N.r1 RV.c ?_ ⟨some ⟨b1,0,none⟩,1,none,0,none,0,M1,rfl,hl1,rfl⟩;show Ent _ (slO 53 16 (some ⟨b1,0,none⟩) 1 1 (aboN n.txn).nv.cells::eM::eM::jurH M1 p j::roM M1::L);refine Ent.trans ?_ (slO_fold rfl);refine Ent.trans (jclose (p:=p) (v:=v) (sf:=self) (dim:=j.v.dim) (mp:=mp) (md:=md) (j:=j) (ps:=ps) hq rfl) ?_;exact eG
    ·rw[if_neg (λh=>hf h.2)]
     refine Q.r ?_;(repeat (intro b1;refine Q.r ?_));refine N.r1 RV.c ?_ ⟨none,0,none,0,none,0,M1,rfl,hl1,rfl⟩;show Ent _ (eR::eM::eM::jurH M1 p j::roM M1::L);refine Ent.trans (jclose (p:=p) (v:=v) (sf:=self) (dim:=j.v.dim) (mp:=mp) (md:=md) (j:=j) (ps:=ps) hq rfl) ?_;exact eG
  |none=>
   dsimp only;refine Q.rd ?_
   cases hi2:(lkL j.v.its n.txn).isSome with
   |false=>
    rw[if_neg (by rintro ⟨h,_⟩;cases h)];refine Q.r ?_;(repeat (intro b1;refine Q.r ?_));refine N.r1 RV.c ?_ ⟨none,0,none,0,none,0,M1,rfl,hl1,rfl⟩;show Ent _ (eR::eM::eM::jurH M1 p j::roM M1::L);refine Ent.trans (jclose (p:=p) (v:=v) (sf:=self) (dim:=j.v.dim) (mp:=mp) (md:=md) (j:=j) (ps:=ps) hq rfl) ?_;exact eG
   |true=>
    by_cases hf:fr=0
    ·rw[if_pos ⟨rfl,hf⟩]
     refine Q.r ?_;(repeat (intro b1;refine Q.r ?_));refine N.r1 RV.c ?_ ⟨some ⟨b1,0,none⟩,1,none,0,none,0,M1,rfl,hl1,rfl⟩;show Ent _ (slO 53 16 (some ⟨b1,0,none⟩) 1 1 (aboN n.txn).nv.cells::eM::eM::jurH M1 p j::roM M1::L);refine Ent.trans ?_ (slO_fold rfl);refine Ent.trans (jclose (p:=p) (v:=v) (sf:=self) (dim:=j.v.dim) (mp:=mp) (md:=md) (j:=j) (ps:=ps) hq rfl) ?_;exact eG
    ·rw[if_neg (λh=>hf h.2)]
     refine Q.r ?_;(repeat (intro b1;refine Q.r ?_));refine N.r1 RV.c ?_ ⟨none,0,none,0,none,0,M1,rfl,hl1,rfl⟩;show Ent _ (eR::eM::eM::jurH M1 p j::roM M1::L);refine Ent.trans (jclose (p:=p) (v:=v) (sf:=self) (dim:=j.v.dim) (mp:=mp) (md:=md) (j:=j) (ps:=ps) hq rfl) ?_;exact eG
 rw[if_neg hc];have hc0:n.code=0:=Decidable.not_not.1 hc
 cases hd:lkL j.done n.txn with
 |some s=>
  dsimp only;refine Q.rd ?_
  by_cases hs:s=n.stamp
  ·rw[if_pos hs]
   refine Q.r ?_;(repeat (intro b1;refine Q.r ?_));refine N.r1 RV.c ?_ ⟨none,0,some ⟨b1,0,none⟩,1,none,0,M1,rfl,hl1,rfl⟩;show Ent _ (eR::slO 55 17 (some ⟨b1,0,none⟩) 1 1 (mailC (ackN n.txn))::eM::jurH M1 p j::roM M1::L);refine Ent.nilS ?_;refine Ent.trans ?_ (slO_fold rfl);refine Ent.trans (jclose (p:=p) (v:=v) (sf:=self) (dim:=j.v.dim) (mp:=mp) (md:=md) (j:=j) (ps:=ps) hq rfl) ?_;exact eG
  ·rw[if_neg hs]
   refine Q.r ?_;(repeat (intro b1;refine Q.r ?_));refine N.r1 RV.c ?_ ⟨none,0,none,0,none,0,M1,rfl,hl1,rfl⟩;show Ent _ (eR::eM::eM::jurH M1 p j::roM M1::L);refine Ent.trans (jclose (p:=p) (v:=v) (sf:=self) (dim:=j.v.dim) (mp:=mp) (md:=md) (j:=j) (ps:=ps) hq rfl) ?_;exact eG
 |none=>
  dsimp only;refine Q.rd ?_
  cases hi2:lkL j.v.its n.txn with
  |none=>
   dsimp only[Option.isSome_none];refine Q.r ?_;(repeat (intro b1;refine Q.r ?_));refine Q.dgo [true,true,true,true,true,true,true,true] [7,17] [] [0,1,2,3,4,5,6,7,8,9,10,11,12,13,14,15,16,17,18,19] ?_;refine Q.rd ?_;refine Q.r ?_;refine N.r1 RV.c ?_ ⟨none,0,none,0,none,0,M1,rfl,hl1,rfl⟩;show Ent _ (eR::eM::eM::jurH M1 p j::roM M1::L);refine Ent.trans (jclose (p:=p) (v:=v) (sf:=self) (dim:=j.v.dim) (mp:=mp) (md:=md) (j:=j) (ps:=ps) hq rfl) ?_;exact eG
  |some x=>
   obtain ⟨hix1,hix2⟩:=hix x hi2;have hil:i.ops.length≤16:=by
    have:=(hw.wf.io _ (lk_memL hi2)).1;rw[←hix2,List.length_map] at this;exact this
   dsimp only[Option.isSome_some];rw[←hix1,←hix2];refine Q.r ?_;(repeat (intro b1;refine Q.r ?_));refine swp_ent (jclose (p:=p) (v:=v) (sf:=self) (dim:=j.v.dim) (mp:=mp) (md:=md) (j:=j) (ps:=ps) hq rfl) ?_;generalize b1=bA;refine Q.dgo [false,false,true,false,false,true] [7,17] [] [0,1,2,3,4,5,6,7,8,9,10,11,12,13,14,15,16,17,18,19] ?_;refine Q.rd ?_;refine D.e rfl rfl rfl ?_;refine S.guard rfl ?_;refine S.cjn p rfl (JMark_spec M1 p j _) ?_;rintro _ _ ⟨rfl,rfl⟩
   by_cases hg:max i.after j.v.mark<n.stamp
   ·refine Q.r ?_
    refine Q.rd ?_;refine D.e rfl rfl rfl ?_;refine S.guard rfl ?_;refine S.cj p rfl (above_spec M1 p j k n.stamp i.a i.c i.ops _ hw hk hne hi.1 zo) ?_;rintro _ _ ⟨M2,rfl,hl2,rfl⟩
    cases hab:aboveV j.v n.stamp (i.ops.map OV.abs) with
    |true=>
     rw[if_pos ⟨hg,rfl⟩];refine Q.r ?_;refine Q.rd ?_;refine Q.r ?_;(repeat (intro b1;refine Q.r ?_));refine N.r1 RV.c ?_ ⟨some ⟨b1,0,none⟩,1,some ⟨bA,0,none⟩,1,none,0,M2,rfl,hl1.trans hl2,rfl⟩
     show Ent _ (slO 53 16 (some ⟨b1,0,none⟩) 1 1 (comN n.txn n.stamp).nv.cells::slO 55 17 (some ⟨bA,0,none⟩) 1 1 (mailC (ackN n.txn))::eM::jurH M2 p j::roM M2::L)
     refine Ent.trans ?_ (slO_fold rfl);refine Ent.trans ?_ (Ent.cons (slO_fold rfl));exact eG
    |false=>
     rw[if_neg (by rintro ⟨_,h⟩;cases h)];refine Q.r ?_;refine Q.rd ?_;refine Q.r ?_;refine N.r1 RV.c ?_ ⟨none,0,none,0,none,0,M2,rfl,hl1.trans hl2,rfl⟩;show Ent _ (eR::eM::eM::jurH M2 p j::roM M2::L);exact eG
   ·rw[if_neg (λh=>hg h.1)]
    refine Q.r ?_;refine Q.rd ?_;refine Q.r ?_;refine N.r1 RV.c ?_ ⟨none,0,none,0,none,0,M1,rfl,hl1,rfl⟩;show Ent _ (eR::eM::eM::jurH M1 p j::roM M1::L);exact eG
theorem Plan_spec (n:NV)(M:OM)(p:Nat)(j:JS)(k:Nat)(fr:Int)(L:HL)(hw:WFK j.v k)(hk:k≤10000)(hne:∀c∈j.v.ch,0<c.2.length)(hn:okN M n)(hN:OkN n)(hT:TabM M)(h0:0≤n.kind∧n.kind≤255):
  CallsS Tryz.prog 14 [ptrJ p,.int .i64 fr,n.val] (jurH M p j::roM M::L) (planR n M p j (planV j fr n.abs) L):=by
 unfold planV;refine CallsS.of_body Tryz.func14 rfl rfl rfl ?_;refine Q.r ?_;(repeat (intro b1;refine Q.r ?_));refine S.cr rfl (NRight_spec n _ hn.rd hN hT.rd h0) ?_;rintro _ _ ⟨rfl,rfl⟩
 cases hr:rightN n.abs with
 |false=>
  rw[if_pos rfl];refine Q.r ?_;refine N.r1 RV.c ?_ ⟨none,0,none,0,none,0,M,rfl,leM.refl M,rfl⟩;show Ent _ (eR::eM::eM::jurH M p j::roM M::L);exact eG
 |true=>
 rw[if_neg zd]
 by_cases h3:n.kind=3
 ·rw[if_pos h3]
  by_cases hf:fr=0
  ·rw[if_pos hf]
   refine Q.r ?_;refine S.cj p rfl (prepare_spec n M p j k _ hw hk hn hN) ?_;rintro _ _ ⟨ra,rc,ma,mc,ea,ec,M',rfl,hl,rfl⟩;refine Q.r ?_;refine N.r1 RV.c ?_ ⟨ra,rc,ma,mc,ea,ec,M',rfl,hl,rfl⟩;exact eG
  ·rw[if_neg hf]
   refine Q.r ?_;refine N.r1 RV.c ?_ ⟨none,0,none,0,none,0,M,rfl,leM.refl M,rfl⟩;show Ent _ (eR::eM::eM::jurH M p j::roM M::L);exact eG
 rw[if_neg h3]
 by_cases h5:n.kind=5
 ·rw[if_pos h5]
  refine Q.r ?_;refine S.cj p rfl (decide_spec n M p j k fr _ hw hk hne) ?_;rintro _ _ ⟨ra,rc,ma,mc,ea,ec,M',rfl,hl,rfl⟩;refine Q.r ?_;refine N.r1 RV.c ?_ ⟨ra,rc,ma,mc,ea,ec,M',rfl,hl,rfl⟩;exact eG
 rw[if_neg h5]
 by_cases h7:n.kind=7
 ·rw[if_pos h7]
  refine Q.r ?_;refine swp_jur p (λv mp md self ps hq=> ?_);refine Q.dgo [true,true,true,true,true,true,true] [] [] [0,1,2,3,4,5,6,7,8,9,10,11] ?_;refine Q.rd ?_;refine D.y rfl rfl rfl zk (Y.lk true rfl rfl (λw=>Tryz.zeroValue31 w)) ?_
  cases hd:lkL j.done n.txn with
  |some s=>
   dsimp only;refine Q.rd ?_;refine Q.r ?_;(repeat (intro b1;refine Q.r ?_));refine N.r1 RV.c ?_ ⟨none,0,some ⟨b1,0,none⟩,1,none,0,M,rfl,leM.refl M,rfl⟩
   show Ent _ (eR::slO 55 17 (some ⟨b1,0,none⟩) 1 1 (mailC (fr,{NA.zero with kind:=5,txn:=n.txn,stamp:=s}))::eM::jurH M p j::roM M::L)
   refine Ent.nilS ?_;refine Ent.trans ?_ (slO_fold rfl);refine Ent.trans (jclose (p:=p) (v:=v) (sf:=self) (dim:=j.v.dim) (mp:=mp) (md:=md) (j:=j) (ps:=ps) hq rfl) ?_;exact eG
  |none=>
   dsimp only;refine Q.rd ?_;refine Q.r ?_;refine N.r1 RV.c ?_ ⟨none,0,none,0,none,0,M,rfl,leM.refl M,rfl⟩;show Ent _ (eR::eM::eM::jurH M p j::roM M::L);refine Ent.trans (jclose (p:=p) (v:=v) (sf:=self) (dim:=j.v.dim) (mp:=mp) (md:=md) (j:=j) (ps:=ps) hq rfl) ?_;exact eG
 ·rw[if_neg h7]
  refine Q.r ?_;refine N.r1 RV.c ?_ ⟨none,0,none,0,none,0,M,rfl,leM.refl M,rfl⟩;show Ent _ (eR::eM::eM::jurH M p j::roM M::L);exact eG
theorem P_one (xs:List Int):(xs.map I64).all (·.oneCell')=true:=by simp[Value.oneCell']
theorem CloneP_spec (a:OA)(c:Nat)(xs:List Int)(A:HL)(h:RdS A a xs.length 1 (xs.map I64))(hn:xs.length≤1000000):
  CallsS Tryz.prog 72 [.slice a xs.length c] A (λv L'=>∃a' c',v=.slice a' xs.length c'∧L'=slO 3 1 a' xs.length c' (xs.map I64)::A):=by
 refine CallsS.of_body Tryz.func72 rfl rfl rfl ?_
 cases a with
 |none=>
  have hx:xs=[]:=by
   rcases h.2 with h0|⟨_,_,h0,_⟩
   ·exact List.eq_nil_of_length_eq_zero h0
   ·cases h0
  subst hx;refine Q.r ?_;exact N.t rfl slO_nil ⟨none,0,rfl,rfl⟩
 |some ad=>
  refine Q.r ?_;(repeat (intro b1;refine Q.r ?_));refine opsS_ent (slO_fold (sz:=1) (m:=0) rfl) ?_;refine S.app0 rfl rfl rfl (SrcS.rd h.sub (P_one _)) zr zo zo (λa5 c5=> ?_);refine Q.r ?_;exact N.t rfl (Ent.refl _) ⟨a5,c5,rfl,rfl⟩
theorem putL_map {κ α β:Type}[DecidableEq κ](f:α→β)(m:List (κ×α))(x:κ)(a:α):(putL m x a).map (λu=>(u.1,f u.2))=putL (m.map λu=>(u.1,f u.2)) x (f a):=by
 unfold putL;rw[List.any_map];have:((λp:κ×β=>decide (p.1=x))∘λu:κ×α=>(u.1,f u.2))=λp=>decide (p.1=x):=rfl
 rw[this]
 cases m.any λp=>decide (p.1=x) with
 |true=>
  simp only[if_true,List.map_map];refine List.map_congr_left λu _=> ?_
  show (_:κ×β)=if u.1=x then (x,f a) else (u.1,f u.2)
  by_cases h:u.1=x
  ·simp[h]
  ·simp[h]
 |false=>simp
theorem delL_map {κ α β:Type}[DecidableEq κ](f:α→β)(m:List (κ×α))(x:κ):(delL m x).map (λu=>(u.1,f u.2))=delL (m.map λu=>(u.1,f u.2)) x:=by
 unfold delL;rw[List.filter_map];rfl
theorem JQ.put {M:OM}{j j':JS}{sf:Int}{ps:List (Int×PV)}(h:JQ M j sf ps){t:Int}{v:PV}(hv:SlM M v.a v.l.length 1 (v.l.map I64))(hj:j'.parts=putL j.parts t v.l)(hdm:j'.v.dim=j.v.dim:=by first|rfl|exact lockS_dim _ _ _ _|exact applyS_dim _ _ _|exact sweepS_dim _ _):JQ M j' sf (putL ps t v):=by
 refine ⟨h.s1,h.s2.trans hdm.symm,by rw[hj,←h.pt,putL_map (λv:PV=>v.l)],λu hu=> ?_⟩;unfold putL at hu
 split at hu
 ·obtain ⟨w,hw,rfl⟩:=List.mem_map.1 hu
  split
  ·exact hv
  ·exact h.ok w hw
 ·rcases List.mem_append.1 hu with hu|hu
  ·exact h.ok u hu
  ·rw[List.mem_singleton.1 hu];exact hv
theorem JQ.del {M:OM}{j j':JS}{sf:Int}{ps:List (Int×PV)}(h:JQ M j sf ps){t:Int}(hj:j'.parts=delL j.parts t)(hdm:j'.v.dim=j.v.dim:=by first|rfl|exact lockS_dim _ _ _ _|exact applyS_dim _ _ _|exact sweepS_dim _ _):JQ M j' sf (delL ps t):=
 ⟨h.s1,h.s2.trans hdm.symm,by rw[hj,←h.pt,delL_map (λv:PV=>v.l)],λu hu=>h.ok u (List.mem_filter.1 hu).1⟩
theorem JQ.same {M:OM}{j j':JS}{sf:Int}{ps:List (Int×PV)}(h:JQ M j sf ps)(hj:j'.parts=j.parts)(hdm:j'.v.dim=j.v.dim:=by first|rfl|exact lockS_dim _ _ _ _|exact applyS_dim _ _ _|exact sweepS_dim _ _):JQ M j' sf ps:=⟨h.s1,h.s2.trans hdm.symm,by rw[hj,h.pt],h.ok⟩
theorem Apply_spec' (n:NV)(M:OM)(p:Nat)(j:JS)(k:Nat)(L:HL)(hw:WFK j.v k)(hk:k≤10000)(hn:okN M n)(hN:OkN n)(hT:TabM M)(h0:NumN n):
  CallsS Tryz.prog 16 [ptrJ p,n.val] (jurH M p j::roM M::L) (λr L'=>∃M',r=.int .i64 (appE j n.abs)∧leM M M'∧L'=jurH M' p (appS j n.abs)::roM M'::L):=by
 refine CallsS.of_body Tryz.func16 rfl rfl rfl ?_;refine Q.r ?_;(repeat (intro b1;refine Q.r ?_));refine S.cr rfl (NRight_spec n _ hn.rd hN hT.rd h0.kind) ?_;rintro _ _ ⟨rfl,rfl⟩
 cases hr:rightN n.abs with
 |false=>
  have hE:appE j n.abs=4:=by unfold appE;rw[hr,if_pos rfl]
  have hS:appS j n.abs=j:=by unfold appS;rw[hE];rfl
  rw[hE,hS];refine Q.r ?_;exact N.t rfl eG ⟨M,rfl,leM.refl M,rfl⟩
 |true=>
 by_cases h12:n.kind=12
 ·have hE:appE j n.abs=lockE j.v n.txn n.after (n.ops.map OV.abs):=by
   unfold appE;rw[hr,if_neg zd,if_pos (show n.abs.kind=12 from h12)]
  refine Q.r ?_;refine swp_jur p (λv mp md self ps hq=> ?_);refine Q.dgo [true,false,false,false,true] [11] [] [0,1,2,3,4,5,6,7,8,9,10,11,12] ?_;refine Q.rd ?_;refine D.e rfl rfl rfl ?_;refine S.cv v rfl (Lock_spec v j.v ⟨n.txn,n.after,n.oa,n.oc,n.ops⟩ _ hw.wf.ops hn.rd.o hN.o hN.ov (by have:=hw.wf.d1;have:=hw.wf.d2;omega)) ?_;rintro _ _ ⟨rfl,rfl⟩;dsimp only;rw[hE]
  by_cases hz:lockE j.v n.txn n.after (n.ops.map OV.abs)=0
  ·have hS:appS j n.abs=⟨lockS j.v n.txn n.after (n.ops.map OV.abs),putL j.parts n.txn n.parts,j.done⟩:=by
    unfold appS;rw[hE,hz,if_neg zd,if_pos (show n.abs.kind=12 from h12)]
   have hdim:j.v.dim=(lockS j.v n.txn n.after (n.ops.map OV.abs)).dim:=by unfold lockS;rw[if_pos hz]
   rw[hS,hz];refine Q.r ?_;refine Q.rd ?_;refine Q.r ?_;refine Q.dgo [true,true] [8,9] [] [0,1,2,3,4,5,6,7,8,9] ?_;refine Q.rd ?_;refine D.e rfl rfl rfl ?_;refine S.cr rfl (CloneP_spec n.pa n.pc n.parts _ hn.rd.p hN.p) ?_;rintro _ _ ⟨a5,c5,rfl,rfl⟩;refine Q.r ?_;refine D.e rfl rfl rfl ?_;refine S.mu (r:=PV.val) (u:=⟨a5,c5,n.parts⟩) rfl rfl rfl ?_;refine opsS_abs a5 (λM2 hl2 hs2=> ?_);refine Q.r ?_;refine Q.rd ?_;refine Q.r ?_;refine N.t rfl ?_ ⟨M2,rfl,hl2,rfl⟩;refine Ent.trans (jclose (p:=p) (v:=v) (sf:=self) (dim:=j.v.dim) (mp:=mp) (md:=md) (j:=⟨lockS j.v n.txn n.after (n.ops.map OV.abs),putL j.parts n.txn n.parts,j.done⟩) (ps:=putL ps n.txn ⟨a5,c5,n.parts⟩) ((hq.mono hl2).put hs2 rfl) hdim) ?_;exact eG
  ·have hS:appS j n.abs=j:=by unfold appS;rw[hE,if_pos hz]
   have hS2:lockS j.v n.txn n.after (n.ops.map OV.abs)=j.v:=by unfold lockS;rw[if_neg hz]
   rw[hS,hS2];refine Q.r ?_;refine Q.rd ?_;refine Q.r ?_;refine N.t rfl ?_ ⟨M,rfl,leM.refl M,rfl⟩;refine Ent.trans (jclose (p:=p) (v:=v) (sf:=self) (dim:=j.v.dim) (mp:=mp) (md:=md) (j:=j) (ps:=ps) hq rfl) ?_;exact eG
 by_cases h13:n.kind=13
 ·have hE:appE j n.abs=applyE j.v n.txn n.stamp:=by
   unfold appE;rw[hr,if_neg zd,if_neg (show ¬n.abs.kind=12 from h12),if_pos (show n.abs.kind=13 from h13)]
  refine Q.r ?_;refine swp_jur p (λv mp md self ps hq=> ?_);refine Q.dgo [true,false,false,false,true] [8] [] [0,1,2,3,4,5,6,7,8,9] ?_;refine Q.rd ?_;refine D.e rfl rfl rfl ?_;refine S.cv v rfl (Apply_spec v j.v k n.txn n.stamp _ hw.wf hk h0.stamp) ?_;rintro _ _ ⟨rfl,rfl⟩;rw[hE]
  by_cases hz:applyE j.v n.txn n.stamp=0
  ·have hS:appS j n.abs=⟨applyS j.v n.txn n.stamp,delL j.parts n.txn,putL j.done n.txn n.stamp⟩:=by
    unfold appS;rw[hE,hz,if_neg zd,if_neg (show ¬n.abs.kind=12 from h12),if_pos (show n.abs.kind=13 from h13)]
   have hdim:j.v.dim=(applyS j.v n.txn n.stamp).dim:=by
    unfold applyS
    split
    ·rfl
    ·split<;>rfl
   rw[hS,hz];refine Q.r ?_;refine Q.rd ?_;refine Q.r ?_;refine Q.dgo [true,true] [8] [] [0,1,2,3,4,5,6,7,8] ?_;refine Q.rd ?_;refine D.e rfl rfl rfl ?_;refine S.mu (r:=U64) (u:=n.stamp) rfl rfl rfl ?_;refine Q.r ?_;refine Q.rd ?_;refine Q.r ?_;refine Q.dgo [true,true] [6] [] [0,1,2,3,4,5,6] ?_;refine Q.rd ?_;refine D.e rfl rfl rfl ?_;refine S.dl rfl rfl ?_;refine Q.r ?_;refine Q.rd ?_;refine Q.r ?_;refine N.t rfl ?_ ⟨M,rfl,leM.refl M,rfl⟩;refine Ent.trans (jclose (p:=p) (v:=v) (sf:=self) (dim:=j.v.dim) (mp:=mp) (md:=md) (j:=⟨applyS j.v n.txn n.stamp,delL j.parts n.txn,putL j.done n.txn n.stamp⟩) (ps:=delL ps n.txn) (hq.del rfl) hdim) ?_;exact eG
  ·have hS:appS j n.abs=j:=by unfold appS;rw[hE,if_pos hz]
   rw[hS,applyS_ne hz];refine Q.r ?_;refine Q.rd ?_;refine Q.r ?_;refine N.t rfl ?_ ⟨M,rfl,leM.refl M,rfl⟩;refine Ent.trans (jclose (p:=p) (v:=v) (sf:=self) (dim:=j.v.dim) (mp:=mp) (md:=md) (j:=j) (ps:=ps) hq rfl) ?_;exact eG
 by_cases h14:n.kind=14
 ·have hE:appE j n.abs=if (lkL j.v.its n.txn).isSome then 0 else 6:=by
   unfold appE;rw[hr,if_neg zd,if_neg (show ¬n.abs.kind=12 from h12),if_neg (show ¬n.abs.kind=13 from h13),if_pos (show n.abs.kind=14 from h14)]
  refine Q.r ?_;refine swp_jur p (λv mp md self ps hq=> ?_);refine Q.dgo [true,false,false,false,true] [6] [] [0,1,2,3,4,5,6,7] ?_;refine Q.rd ?_;refine D.e rfl rfl rfl ?_;refine S.cv v rfl (Free_spec v j.v n.txn _) ?_;rintro _ _ ⟨rfl,rfl⟩;rw[hE]
  cases hz:(lkL j.v.its n.txn).isSome with
  |true=>
   rw[hz] at hE;have hS:appS j n.abs=⟨{j.v with its:=delL j.v.its n.txn},delL j.parts n.txn,j.done⟩:=by
    unfold appS;rw[hE,if_pos rfl,if_neg zd,if_neg (show ¬n.abs.kind=12 from h12),if_neg (show ¬n.abs.kind=13 from h13),if_pos (show n.abs.kind=14 from h14)]
   rw[hS,if_pos rfl];refine Q.r ?_;refine Q.rd ?_;refine Q.r ?_;refine Q.dgo [true,true] [6] [] [0,1,2,3,4,5,6] ?_;refine Q.rd ?_;refine D.e rfl rfl rfl ?_;refine S.dl rfl rfl ?_;refine Q.r ?_;refine Q.rd ?_;refine Q.r ?_;refine N.t rfl ?_ ⟨M,rfl,leM.refl M,rfl⟩;refine Ent.trans (jclose (p:=p) (v:=v) (sf:=self) (dim:=j.v.dim) (mp:=mp) (md:=md) (j:=⟨{j.v with its:=delL j.v.its n.txn},delL j.parts n.txn,j.done⟩) (ps:=delL ps n.txn) (hq.del rfl) rfl) ?_;exact eG
  |false=>
   rw[hz] at hE;have hS:appS j n.abs=j:=by unfold appS;rw[hE,if_pos zd]
   have hz2:lkL j.v.its n.txn=none:=isSome_ne (by rw[hz];decide);have hS2:({j.v with its:=delL j.v.its n.txn}:VS)=j.v:=by rw[delL_none (lk_none' hz2)]
   rw[hS,hS2,if_neg zd];refine Q.r ?_;refine Q.rd ?_;refine Q.r ?_;refine N.t rfl ?_ ⟨M,rfl,leM.refl M,rfl⟩;refine Ent.trans (jclose (p:=p) (v:=v) (sf:=self) (dim:=j.v.dim) (mp:=mp) (md:=md) (j:=j) (ps:=ps) hq rfl) ?_;exact eG
 by_cases h15:n.kind=15
 ·have hE:appE j n.abs=0:=by
   unfold appE;rw[hr,if_neg zd,if_neg (show ¬n.abs.kind=12 from h12),if_neg (show ¬n.abs.kind=13 from h13),if_neg (show ¬n.abs.kind=14 from h14),if_pos (show n.abs.kind=15 from h15)]
  have hS:appS j n.abs=⟨sweepS j.v n.mark,j.parts,j.done⟩:=by
   unfold appS;rw[hE,if_neg zd,if_neg (show ¬n.abs.kind=12 from h12),if_neg (show ¬n.abs.kind=13 from h13),if_neg (show ¬n.abs.kind=14 from h14),if_pos (show n.abs.kind=15 from h15)]
  have hdim:j.v.dim=(sweepS j.v n.mark).dim:=by unfold sweepS;split<;>rfl
  rw[hE,hS];refine Q.r ?_;refine swp_jur p (λv mp md self ps hq=> ?_);refine Q.dgo [true,false,false,false,true] [6] [] [0,1,2,3,4,5,6] ?_;refine Q.rd ?_;refine D.e rfl rfl rfl ?_;refine S.cv v rfl (Sweep_spec v j.v k n.mark _ hw.wf hk) ?_;rintro _ _ ⟨a5,c5,rfl,_,rfl⟩;refine Q.r ?_;refine Q.rd ?_;refine Q.r ?_;refine N.t rfl ?_ ⟨M,rfl,leM.refl M,rfl⟩;refine Ent.trans (jclose (p:=p) (v:=v) (sf:=self) (dim:=j.v.dim) (mp:=mp) (md:=md) (j:=⟨sweepS j.v n.mark,j.parts,j.done⟩) (ps:=ps) (hq.same rfl) hdim) ?_;exact eG
 ·have hE:appE j n.abs=4:=by
   unfold appE;rw[hr,if_neg zd,if_neg (show ¬n.abs.kind=12 from h12),if_neg (show ¬n.abs.kind=13 from h13),if_neg (show ¬n.abs.kind=14 from h14),if_neg (show ¬n.abs.kind=15 from h15)]
  have hS:appS j n.abs=j:=by unfold appS;rw[hE];rfl
  rw[hE,hS];refine Q.r ?_;exact N.t rfl eG ⟨M,rfl,leM.refl M,rfl⟩
abbrev J0 (dim:Int):JS:=⟨⟨dim,[],[],0⟩,[],[]⟩
theorem J0.ok {dim:Int}(h1:1≤dim)(h2:dim≤8):JOK (J0 dim) 0:=
 ⟨⟨⟨h1,h2,Nat.le_refl _,(λi hi=>by cases hi),Nat.le_refl _,(λc hc=>by cases hc)⟩,by simp[keysOK],by simp[keysOK]⟩,by simp[keysOK],by simp[keysOK],(λt s h=>by cases h),(λt s h=>by cases h),Int.le_refl _,(λc hc=>by cases hc)⟩
theorem JNew_spec (M:OM)(sf dim:Int)(L:HL)(s1:1≤sf)(s2:sf=dim)(h1:1≤dim)(h2:dim≤8):
  CallsS Tryz.prog 5 [.int .i64 sf,.int .i64 dim] L (λr L'=>∃p,r=.tuple #[ptrJ p,.int .i64 0]∧L'=jurH M p (J0 dim)::L):=by
 refine CallsS.of_body Tryz.func5 rfl rfl rfl ?_;refine Q.r ?_;refine S.cr rfl (New_spec dim _ h1 h2) ?_;rintro _ _ ⟨v,rfl,rfl⟩;refine Q.r ?_;refine S.mkm U64 PV.val (λmp=> ?_);refine Q.r ?_;refine S.mkm U64 U64 (λmd=> ?_);refine Q.r ?_;(repeat (intro b1;refine Q.r ?_));refine N.u rfl rfl ?_ ⟨b1,rfl,rfl⟩;refine Ent.trans (jclose (p:=b1) (v:=v) (sf:=sf) (dim:=dim) (mp:=mp) (md:=md) (M:=M) (j:=J0 dim) (ps:=[]) ⟨s1,s2,rfl,(λu hu=>by cases hu)⟩ rfl) ?_;exact eG
theorem one_spec (L:HL):CallsS Tryz.prog 15 [] L (λr L'=>∃b b',r=.slice (some ⟨b,0,none⟩) 1 1∧L'=slO 119 2 (some ⟨b,0,none⟩) 1 1 (OV.cells ⟨1,some ⟨b',0,none⟩,1,[5]⟩)::slO 21 1 (some ⟨b',0,none⟩) 1 1 [I32 5]::L):=by
 refine CallsS.of_body Tryz.func15 rfl rfl rfl ?_;refine Q.r ?_;(repeat (intro b1;refine Q.r ?_));rename_i b0;refine N.t rfl ?_ ⟨b1,b0,rfl,rfl⟩;refine Ent.trans ?_ (slO_fold rfl);refine Ent.trans ?_ (Ent.cons (slO_fold rfl));exact eG
theorem _root_.Go.SX.CM.tail {M:OM}{b o:Nat}{v:Value}{cs:List Value}(h:CM M b o (v::cs)):CM M b (o+1) cs:=λj u e=>by
 have:=h (j+1) u (by simpa using e);rw[Nat.add_assoc,Nat.add_comm 1 j];exact this
section
variable {n : Nat} {ops rest : List Oper} {cd : Code} {Q : Post} {f : Env} {L L0 : HL} {M : OM} {j : JS}
theorem opsS_jm (p:Nat)[hp:PickJ p L M j L0]{M':OM}(hl:leM M M')(hk:opsS Tryz.prog n ops rest Q f (jurH M' p j::L0)):opsS Tryz.prog n ops rest Q f L:=opsS_ent (hp.ent.trans (jur_mono hl)) hk
theorem swp_jm (p:Nat)[hp:PickJ p L M j L0]{M':OM}(hl:leM M M')(hk:swp Tryz.prog n cd Q f (jurH M' p j::L0)):swp Tryz.prog n cd Q f L:=swp_ent (hp.ent.trans (jur_mono hl)) hk
end
abbrev oneO (b':Nat):OV:=⟨1,some ⟨b',0,none⟩,1,[5]⟩
abbrev exN (b b':Nat):NV:=⟨3,7,0,0,0,0,0,0,0,0,0,0,none,0,[],some ⟨b,0,none⟩,1,[oneO b'],none,0,[],none,0,[]⟩
abbrev exA :NA:={NA.zero with kind:=3,txn:=7,ops:=[(1,[5])]}
abbrev J1 :JS:=⟨⟨1,[],[(7,0,[(1,[5])])],0⟩,[(7,[])],[]⟩
abbrev J2 :JS:=⟨⟨1,[(1,[(5,[5])])],[],0⟩,[],[(7,5)]⟩
theorem ex1 :planV (J0 1) 0 exA=⟨[{exA with kind:=12}],[voteN 7 0],[voteN 7 8]⟩:=by kernel_rfl
theorem ex2 :appS (J0 1) {exA with kind:=12}=J1:=by kernel_rfl
theorem ex3 :planV J1 0 {NA.zero with kind:=5,txn:=7,stamp:=5}=⟨[comN 7 5],[ackN 7],[]⟩:=by kernel_rfl
theorem ex4 :appS J1 (comN 7 5)=J2:=by kernel_rfl
theorem ex5 :planV J2 2 {NA.zero with kind:=7,txn:=7}=⟨[],[(2,{NA.zero with kind:=5,txn:=7,stamp:=5})],[]⟩:=by kernel_rfl
theorem ex6 :appE (J0 1) {exA with kind:=12}=0:=by kernel_rfl
theorem ex7 :appE J1 (comN 7 5)=0:=by kernel_rfl
theorem J1.ok :JOK J1 1:=by
 have h:=plan_cases (J0.ok (dim:=1) zd zd) (n:=exA) zd 0;rw[ex1] at h
 rcases h with h|h|h|h
 ·cases h
 ·have:=h.2.1.ok
  rw[ex2] at this;exact this
 ·simp at h
 ·simp at h
theorem J2.ok :JOK J2 2:=by
 have h:=plan_cases J1.ok (n:={NA.zero with kind:=5,txn:=7,stamp:=5}) zd 0;rw[ex3] at h
 rcases h with h|h|h|h
 ·cases h
 ·simp at h
 ·have:=h.2.2.1.ok
  rw[ex4] at this;exact this
 ·simp at h
theorem awake14_spec (M:OM)(L:HL)(hT:TabM M):CallsS Tryz.prog 4 [] (roM M::L) (λr L'=>∃M',r=.bool true∧leM M M'∧L'=roM M'::L):=by
 refine CallsS.of_body Tryz.func4 rfl rfl rfl ?_;refine Q.r ?_;refine S.cr rfl (JNew_spec M 1 1 _ zd zd zd zd) ?_;rintro _ _ ⟨p,rfl,rfl⟩;refine Q.r ?_;refine S.cr rfl (one_spec _) ?_;rintro _ _ ⟨b,b',rfl,rfl⟩;refine opsS_abs (some ⟨b,0,none⟩) (λM1 hl1 hs1=> ?_);refine opsS_abs (some ⟨b',0,none⟩) (λM2 hl2 hs2=> ?_);refine opsS_jm p (hl1.trans hl2) ?_;have hn:okN M2 (exN b b'):=⟨SlM.nil0,⟨hs1.mono hl2,(λo ho=>by obtain rfl:=List.mem_singleton.1 ho;exact hs2)⟩,SlM.nil0,SlM.nil0,(λo ho=>by cases ho)⟩;have hN:OkN (exN b b'):=⟨Nat.zero_le _,by show 1≤1000000;omega,(λo ho=>by obtain rfl:=List.mem_singleton.1 ho;show 1≤1000000;omega),Nat.zero_le _,Nat.zero_le _,(λo ho=>by cases ho)⟩;refine Q.r ?_;refine S.cj p (args:=[ptrJ p,.int .i64 0,(exN b b').val]) rfl (Plan_spec (exN b b') M2 p (J0 1) 0 0 _ (J0.ok zd zd).w zd (λc hc=>by cases hc) hn hN (hT.mono (hl1.trans hl2)) ⟨by show (0:Int)≤3;decide,by show (3:Int)≤255;decide⟩) ?_;rintro _ _ ⟨ra,rc,ma,mc,ea,ec,M3,rfl,hl3,rfl⟩;rw[show planV (J0 1) 0 (exN b b').abs=_ from ex1];simp only[List.length_cons,List.length_nil,Nat.zero_add];refine opsS_abs ra (λM4 hl4 hs4=> ?_);refine opsS_abs ma (λM5 hl5 hs5=> ?_);refine opsS_jm p (hl4.trans hl5) ?_;obtain ⟨br,or,rfl,cr4⟩:=SlM.cm (g:=λr=>(liftN (exN b b') r).cells) (k:=0) (x:={exA with kind:=12}) (λ_=>rfl) hs4 rfl rfl;obtain ⟨bm,om,rfl,cm⟩:=SlM.cm (g:=mailC) (k:=0) (λ_=>rfl) hs5 rfl rfl;have cr:=cr4.mono hl5;rw[show liftN (exN b b') {exA with kind:=12}={exN b b' with kind:=12} from rfl] at cr;have cm1:=cm.tail;clear hs4 hs5 cr4;refine Q.r ?_;(repeat (intro b1;refine Q.r ?_));have hn1:okN M5 {exN b b' with kind:=12}:=by
  have h:=hn.mono (hl3.trans (hl4.trans hl5));exact ⟨h.p,h.o,h.v,h.h,h.hv⟩
 have hN1:OkN {exN b b' with kind:=12}:=⟨hN.p,hN.o,hN.ov,hN.v,hN.h,hN.hv⟩;refine S.cj p rfl (Apply_spec' {exN b b' with kind:=12} M5 p (J0 1) 0 _ (J0.ok zd zd).w zd hn1 hN1 (hT.mono (hl1.trans (hl2.trans (hl3.trans (hl4.trans hl5))))) ⟨by show (0:Int)≤12∧(12:Int)≤255;decide,by show (0:Int)≤7;decide,Int.le_refl _,Int.le_refl _,Int.le_refl _⟩) ?_;rintro _ _ ⟨M6,rfl,hl6,rfl⟩;rw[show appE (J0 1) (NV.abs {exN b b' with kind:=12})=0 from ex6,show appS (J0 1) (NV.abs {exN b b' with kind:=12})=J1 from ex2];have hT6:TabM M6:=hT.mono (hl1.trans (hl2.trans (hl3.trans (hl4.trans (hl5.trans hl6)))));have hlM6:leM M M6:=hl1.trans (hl2.trans (hl3.trans (hl4.trans (hl5.trans hl6))));clear hs1 hs2 hn hN hn1 hN1 hl1 hl2 hl3 hl4 hl5 hl6;refine Q.r ?_;refine S.cj p (args:=[ptrJ p,.int .i64 0,(NA.nv {NA.zero with kind:=5,txn:=7,stamp:=5}).val]) rfl (Plan_spec (NA.nv {NA.zero with kind:=5,txn:=7,stamp:=5}) M6 p J1 1 0 _ J1.ok.w zd J1.ok.ne (okN.nv _) (OkN.nv _) hT6 ⟨by show (0:Int)≤5;decide,by show (5:Int)≤255;decide⟩) ?_;rintro _ _ ⟨ra,rc,ma,mc,ea,ec,M7,rfl,hl7,rfl⟩;rw[show planV J1 0 (NA.nv {NA.zero with kind:=5,txn:=7,stamp:=5}).abs=_ from ex3];simp only[List.length_cons,List.length_nil,Nat.zero_add];refine opsS_abs ra (λM8 hl8 hs8=> ?_);refine opsS_jm p hl8 ?_;obtain ⟨br2,or2,rfl,cr⟩:=SlM.cm (g:=λr=>(liftN (NA.nv {NA.zero with kind:=5,txn:=7,stamp:=5}) r).cells) (k:=0) (x:=comN 7 5) (λ_=>rfl) hs8 rfl rfl;rw[show liftN (NA.nv {NA.zero with kind:=5,txn:=7,stamp:=5}) (comN 7 5)=NA.nv (comN 7 5) from rfl] at cr;clear hs8;refine Q.r ?_;(repeat (intro b1;refine Q.r ?_));refine S.cj p rfl (Apply_spec' (NA.nv (comN 7 5)) M8 p J1 1 _ J1.ok.w zd (okN.nv _) (OkN.nv _) (hT6.mono (hl7.trans hl8)) ⟨by show (0:Int)≤13∧(13:Int)≤255;decide,by show (0:Int)≤7;decide,by show (0:Int)≤5;decide,Int.le_refl _,Int.le_refl _⟩) ?_;rintro _ _ ⟨M9,rfl,hl9,rfl⟩;rw[show appE J1 (NA.nv (comN 7 5)).abs=0 from ex7,show appS J1 (NA.nv (comN 7 5)).abs=J2 from ex4]
 have hlM9:leM M M9:=hlM6.trans (hl7.trans (hl8.trans hl9));refine Q.r ?_;refine S.cj p (args:=[ptrJ p,.int .i64 2,(NA.nv {NA.zero with kind:=7,txn:=7}).val]) rfl (Plan_spec (NA.nv {NA.zero with kind:=7,txn:=7}) M9 p J2 2 2 _ J2.ok.w zd J2.ok.ne (okN.nv _) (OkN.nv _) (hT.mono hlM9) ⟨by show (0:Int)≤7;decide,by show (7:Int)≤255;decide⟩) ?_;rintro _ _ ⟨ra,rc,ma,mc,ea,ec,M10,rfl,hl10,rfl⟩;rw[show planV J2 2 (NA.nv {NA.zero with kind:=7,txn:=7}).abs=_ from ex5];simp only[List.length_cons,List.length_nil,Nat.zero_add];refine opsS_abs ma (λM11 hl11 hs11=> ?_);obtain ⟨bm3,om3,rfl,cm3⟩:=SlM.cm (g:=mailC) (k:=0) (λ_=>rfl) hs11 rfl rfl;have cm4:=cm3.tail;clear hs11;refine Q.r ?_;(repeat (intro b1;refine Q.r ?_));exact N.t rfl eG ⟨M11,rfl,hlM9.trans (hl10.trans hl11),rfl⟩
abbrev HV.ov (h:HV):OV:=⟨h.id,h.a,h.c,h.vec⟩
def fewH (k:Nat)(l:List (Int×Int×List Int)):List (Int×Int×List Int):=(l.take k).map λh=>(h.1,h.2.1,h.2.2.take 8)
theorem fewH_all {n:Nat}{l:List (Int×Int×List Int)}(h:l.length≤n):fewH n l=l.map λh=>(h.1,h.2.1,h.2.2.take 8):=by unfold fewH;rw[List.take_of_length_le h]
theorem HitsA_spec (n:Nat)(a:OA)(c:Nat)(ops:List HV)(A:HL)(h:RdS A a ops.length 3 (ops.flatMap HV.cells))(hv:∀o∈ops,RdS A o.a o.vec.length 1 (o.vec.map I32))(hc:∀o∈ops,o.vec.length≤o.c)(hn:ops.length≤9223372036854775807)(hnn:n≤1000000):
  CallsS Tryz.prog 77 [.slice a ops.length c,.int .i64 n] A (λv L'=>∃(a':OA) (c':Nat) (us:List HV),us.map HV.abs=fewH n (ops.map HV.abs)∧(∀o∈us,o.vec.length=0∨∃b,o.a=some ⟨b,0,none⟩)∧v=.slice a' us.length c'∧L'=slO 219 3 a' us.length c' (us.flatMap HV.cells)::vecsH (us.map HV.ov)::A):=by
 refine CallsS.of_body Tryz.func77 rfl rfl rfl ?_;refine Q.r ?_;refine swp_loop (σ:=Nat×OA×Nat×List HV) (λs=> [(1,.int .i64 n),(8,.slice a ops.length c),(9,.int .i64 ops.length),(5,.slice s.2.1 s.2.2.2.length s.2.2.1),(10,.int .i64 s.1)])
  (λs=>slO 219 3 s.2.1 s.2.2.2.length s.2.2.1 (s.2.2.2.flatMap HV.cells)::vecsH (s.2.2.2.map HV.ov)::A)
  (λs=>s.1≤ops.length∧s.2.2.2.map HV.abs=fewH n ((ops.take s.1).map HV.abs)∧∀o∈s.2.2.2,o.vec.length=0∨∃b,o.a=some ⟨b,0,none⟩) (λs=>ops.length - s.1) (0,none,0,[]) zt ?_ ⟨by omega,by simp[fewH],by simp⟩ ?_
 ·exact Ent.trans (Ent.trans bodV_nil slO_nil) (Ent.refl _)
 rintro ⟨k,a3,c3,us⟩ ⟨hk,hus,hua⟩;dsimp only at hk hus hua ⊢;have hul:us.length=min n k:=by
  have:=congrArg List.length hus
  simp[fewH] at this;omega
 by_cases hlt:k<ops.length
 ·obtain ⟨o,ho⟩:=mem_get hlt
  have hmo:o∈ops:=List.mem_of_getElem? ho;obtain ⟨b,oo,hia,hr⟩:=RdS.elem (g:=HV.cells) (λ_=>rfl) h ho rfl;rw[hia]
  repeat (first|(refine GQ.y ?_;refine Q.y ?_)|refine Q.go ?_|(refine GQ.g ?_;refine Q.gq ?_)|(refine GQ.s ?_;refine Q.st ?_)|(refine GQ.a ?_;refine Q.al (λb1=> ?_)))
  by_cases hkn:k<n
  ·refine Q.r ?_;(repeat (intro b1;refine Q.r ?_))
   refine Q.dgo [true,false,false] [7,9,10] [] [0,1,2,3,4,5,6,7,8,9,10,11] ?_;refine Q.rd ?_;refine D.e rfl rfl rfl ?_;refine S.cr rfl (CutVec_spec o.a o.c 8 o.vec _ ((hv o hmo).sub) (hc o hmo) zo) ?_;rintro _ _ ⟨a',c',rfl,rfl⟩;refine opsS_addr a' (λha'=> ?_);refine Q.r ?_;refine Q.rd ?_;(repeat (intro b1;refine Q.rd ?_));refine D.e rfl rfl rfl ?_;refine S.app rfl rfl (SrcS.sl RdC.row zr zr) zr zo zo (λa4 c4=> ?_);refine Q.r ?_;refine Q.rd ?_;refine Q.r ?_;refine ⟨(k+1,a4,c4,us++[⟨o.id,o.dist,a',c',o.vec.take 8⟩]),⟨rfl,rfl,rfl,congrArg some (by simp),rfl,trivial⟩,?_,⟨by dsimp only;omega,?_,?_⟩,by dsimp only;omega⟩
   ·dsimp only
    rw[len_snoc,flat_snoc,List.map_append];refine Ent.pick (Ent.trans ?_ (vecs_snoc (o:=⟨o.id,a',c',o.vec.take 8⟩) rfl));exact eG
   ·dsimp only
    rw[List.map_append,hus,fewH_all (l:=(ops.take k).map HV.abs) (by simp;omega),fewH_all (l:=(ops.take (k+1)).map HV.abs) (by simp;omega),take_snoc ho,List.map_append,List.map_append];rfl
   ·intro u hu
    rcases List.mem_append.1 hu with hu|hu
    ·exact hua u hu
    ·obtain rfl:=List.mem_singleton.1 hu
     exact ha'
  ·refine Q.r ?_;(repeat (intro b1;refine Q.r ?_))
   refine ⟨(k+1,a3,c3,us),zt,by exact eG,⟨by dsimp only;omega,?_,hua⟩,by dsimp only;omega⟩;dsimp only;rw[hus];unfold fewH;rw[←List.map_take,←List.map_take,List.take_take,List.take_take,show min n k=min n (k+1) by omega]
 ·have hke:k=ops.length:=by omega
  subst hke;rw[List.take_length] at hus;refine Q.r ?_;exact N.t rfl eG ⟨a3,c3,us,hus,hua,rfl,rfl⟩
theorem opsS_absC (us:List OV){n:Nat}{ops rest:List Oper}{Q:Post}{f:Env}{L L0 L1:HL}{M:OM}[h:Pick (vecsH us) L L0][h1:PickM L0 M L1](hk:∀M',leM M M'→okR M' us→(∀o∈us,o.vec.length≤o.c)→opsS Tryz.prog n ops rest Q f (roM M'::L1)):opsS Tryz.prog n ops rest Q f L:=
 opsS_ent (h.ent.trans (vecs_abs2 us)) (opsS_ex λM'=>opsS_all (opsS_pure λhh=>hk M' hh.1 hh.2.1 hh.2.2))
def NA.few (n:NA):NA:={n with parts:=n.parts.take 6,ops:=fewV 18 n.ops,vec:=n.vec.take 10,hits:=fewH 18 n.hits}
structure CapN (n:NV):Prop where
 p:n.parts.length≤n.pc
 ov:∀o∈n.ops,o.vec.length≤o.c
 v:n.vec.length≤n.vc
 hv:∀h∈n.hits,h.vec.length≤h.c
 p2:n.parts.length≤9223372036854775807
 o2:n.ops.length≤9223372036854775807
 v2:n.vec.length≤9223372036854775807
 h2:n.hits.length≤9223372036854775807
theorem few_OkN {n':NV}{n:NA}(h:n'.abs=n.few):OkN n':=by
 have hp:n'.parts=n.parts.take 6:=congrArg NA.parts h;have ho:n'.ops.map OV.abs=fewV 18 n.ops:=congrArg NA.ops h;have hv:n'.vec=n.vec.take 10:=congrArg NA.vec h;have hh:n'.hits.map HV.abs=fewH 18 n.hits:=congrArg NA.hits h;refine ⟨by rw[hp,List.length_take];omega,?_,λo ho'=> ?_,by rw[hv,List.length_take];omega,?_,λo ho'=> ?_⟩
 ·have:=congrArg List.length ho
  simp[fewV] at this;omega
 ·have:=List.mem_map_of_mem (f:=OV.abs) ho'
  rw[ho] at this;obtain ⟨u,_,hu⟩:=List.mem_map.1 this;have:=congrArg (λz:Int×List Int=>z.2.length) hu
  simp at this;omega
 ·have:=congrArg List.length hh
  simp[fewH] at this;omega
 ·have:=List.mem_map_of_mem (f:=HV.abs) ho'
  rw[hh] at this;obtain ⟨u,_,hu⟩:=List.mem_map.1 this;have:=congrArg (λz:Int×Int×List Int=>z.2.2.length) hu
  simp at this;omega
theorem NFew_spec (n:NV)(M:OM)(L:HL)(hn:okN M n)(hc:CapN n):
  CallsS Tryz.prog 18 [n.val] (roM M::L) (λr L'=>∃(n':NV) (M':OM),r=n'.val∧leM M M'∧okN M' n'∧CapN n'∧n'.ops.length≤n'.oc∧n'.abs=n.abs.few∧L'=roM M'::L):=by
 have hc1:=hc.p;have hc2:=hc.p2;refine CallsS.of_body Tryz.func18 rfl rfl rfl ?_;have hl:(n.parts.take 6).length=min 6 n.parts.length:=List.length_take ..;refine Q.r ?_;(repeat (intro b1;refine Q.r ?_));refine opsS_ent (slO_fold (sz:=1) (m:=0) rfl) ?_;refine Q.r ?_;have hrM:SlM M n.pa (n.parts.take 6).length 1 ((n.parts.take 6).map I64):=by
  have:=hn.p.take (k:=min 6 n.parts.length) zo;rw[hl];rw[Nat.mul_one,←List.map_take] at this
  rwa [←List.take_eq_take_min] at this
 refine S.y (Y.slT (h:=(n.parts.take 6).length) rfl rfl (by rw[hl];omega) zo) ?_;refine S.app0 rfl rfl rfl (SrcS.rd hrM.rd (P_one _)) zr zo zo (λa5 c5=> ?_);refine opsS_cap a5 (λhc5=> ?_);refine opsS_abs a5 (λM1 hl1 hs1=> ?_);refine Q.r ?_;refine Q.dgo [false,false,true] [2,5,8,10,12,14] [10] [0,1,3,4,6,7,2,9,5,8,10,11,12,13,14] ?_;refine Q.rd ?_;refine D.e rfl rfl rfl ?_;refine S.cr rfl (FewA_spec 18 n.oa n.oc n.ops _ (hn.mono hl1).rd.o hc.ov hc.o2 zo) ?_;rintro _ _ ⟨a6,c6,us,hus,_,rfl,rfl⟩;refine opsS_cap a6 (λhc6=> ?_);refine opsS_abs a6 (λM2 hl2 hs2=> ?_);refine opsS_absC us (λM3 hl3 hs3 hc3=> ?_);refine Q.r ?_;refine Q.rd ?_;refine D.e rfl rfl rfl ?_;refine S.cr rfl (HitsA_spec 18 n.ha n.hc n.hits _ (hn.mono (hl1.trans (hl2.trans hl3))).rd.h (hn.mono (hl1.trans (hl2.trans hl3))).rd.hv hc.hv hc.h2 zo) ?_;rintro _ _ ⟨a7,c7,hs,hhs,_,rfl,rfl⟩;refine opsS_abs a7 (λM4 hl4 hs4=> ?_);refine opsS_absC (hs.map HV.ov) (λM5 hl5 hs5 hc5'=> ?_);refine Q.r ?_;refine Q.rd ?_;refine D.e rfl rfl rfl ?_;refine S.cr rfl (CutVec_spec n.va n.vc 10 n.vec _ (hn.mono (hl1.trans (hl2.trans (hl3.trans (hl4.trans hl5))))).rd.v hc.v zo) ?_;rintro _ _ ⟨a8,c8,rfl,rfl⟩;refine opsS_cap a8 (λhc8=> ?_);refine opsS_abs a8 (λM6 hl6 hs6=> ?_);refine Q.r ?_;refine Q.rd ?_;refine Q.dc rfl rfl rfl rfl ?_;refine Q.r ?_;refine Q.rd ?_;refine Q.r ?_;have hm6:leM M M6:=hl1.trans (hl2.trans (hl3.trans (hl4.trans (hl5.trans hl6))));refine N.r1 RV.c ?_ ⟨⟨n.kind,n.txn,n.batch,n.stamp,n.after,n.mark,n.query,n.id,n.k,n.ef,n.code,n.who,a5,c5,n.parts.take 6,a6,c6,us,a8,c8,n.vec.take 10,a7,c7,hs⟩,M6,rfl,hm6,?_,?_,hc6,?_,rfl⟩
 ·exact eG
 ·exact ⟨hs1.mono (hl2.trans (hl3.trans (hl4.trans (hl5.trans hl6)))),⟨hs2.mono (hl3.trans (hl4.trans (hl5.trans hl6))),λo ho=>(hs3 o ho).mono (hl4.trans (hl5.trans hl6))⟩,hs6,hs4.mono (hl5.trans hl6),λh hh=>(hs5 h.ov (List.mem_map_of_mem (f:=HV.ov) hh)).mono hl6⟩
 ·have ho:=congrArg List.length hus
  have hh:=congrArg List.length hhs
  simp[fewV,fewH] at ho hh
  exact ⟨hc5,hc3,hc8,λh hh=>hc5' h.ov (List.mem_map_of_mem (f:=HV.ov) hh),by dsimp only;rw[List.length_take];omega,by dsimp only;omega,by dsimp only;rw[List.length_take];omega,by dsimp only;omega⟩
 ·simp only[NV.abs,NA.few,hus,hhs]
end Go.Proofs.YtjlgabojhnnbaaaGreatDoor
namespace Go.Proofs.YtjlgabojhnnbaaaGreatDoor
open Go Go.SX
def lettT :List (List UInt8):=[[],[98,111],[98,115,99],[116,97,112,111],[116,99],[116,115,99],[116],[116],[113,105,107,101,118],[115,109,113,105,107,101,118],[113,99,104],[115,113,99,104],[116,97,112,111],[116,115],[116],[109],[109],[116,98,115,112],[116],[116,98,97,119,112,111],[116,119],[116,119],[116]]
def lett (k:Nat):List UInt8:=(lettT[k]?).getD []
def hasL (k:Nat)(f:UInt8):Bool:=(lett k).any λx=>decide (x=f)
def abc :List UInt8:=[116,98,115,97,109,113,105,107,101,99,119,112,111,118,104]
set_option maxRecDepth 100000 in
theorem hasL_bit (k i:Nat)(hi:i<15):(fldN k).testBit i=hasL k (abc.getD i 0):=by
 by_cases h:k<23
 ·exact (by decide:∀k,k<23→∀i,i<15→(fldN k).testBit i=hasL k (abc.getD i 0)) k h i hi
 ·have h1:lett k=[]:=by
   unfold lett;rw[List.getElem?_eq_none (by show 23≤k;omega)];rfl
  have h2:fldN k=0:=by
   unfold fldN
   split<;>first|omega|rfl
  rw[h2];unfold hasL;rw[h1];simp
def numV (k:Nat)(f:UInt8)(n most:Int):Bool:=decide (n≤most)&&(decide (n=0)||hasL k f)
def okNA (k:Nat)(n:NA):Bool:=
 numV k 116 n.txn 18446744073709551615&&numV k 98 n.batch 18446744073709551615&&numV k 115 n.stamp 1099511627776&&numV k 97 n.after 1099511627776&&numV k 109 n.mark 1099511627776&&numV k 113 n.query 18446744073709551615&&numV k 105 n.id 1099511627776&&numV k 107 n.k 16&&numV k 101 n.ef 256&&numV k 99 n.code 13&&numV k 119 n.who 15
def okNB (k:Nat)(n:NA):Bool:=
 numV k 112 n.parts.length 4&&numV k 111 n.ops.length 16&&numV k 118 n.vec.length 8&&numV k 104 n.hits.length 16&&bareV n.vec
structure NumA (n:NA):Prop where
 kind:0≤n.kind∧n.kind≤255
 txn:0≤n.txn∧n.txn≤18446744073709551615
 batch:0≤n.batch∧n.batch≤18446744073709551615
 stamp:0≤n.stamp∧n.stamp≤18446744073709551615
 after:0≤n.after∧n.after≤18446744073709551615
 mark:0≤n.mark∧n.mark≤18446744073709551615
 query:0≤n.query∧n.query≤18446744073709551615
 id:0≤n.id∧n.id≤18446744073709551615
 k:n.k≤9223372036854775807
 ef:n.ef≤9223372036854775807
 code:n.code≤9223372036854775807
 who:n.who≤9223372036854775807
theorem num_bit {k:Nat}{f:UInt8}{n most:Int}(h:0≤n):numV k f n most=true↔n≤most∧((!decide (0<n))||hasL k f)=true:=by
 unfold numV;rw[Bool.and_eq_true,decide_eq_true_iff];have:decide (n=0)= !decide (0<n):=by
  by_cases h0:n=0
  ·subst h0;rfl
  ·rw[decide_eq_false h0,decide_eq_true (by omega:0<n)];rfl
 rw[this]
theorem num_ne {k:Nat}{f:UInt8}{n most:Int}:numV k f n most=true↔n≤most∧((!(!decide (n=0)))||hasL k f)=true:=by
 unfold numV;rw[Bool.and_eq_true,decide_eq_true_iff,Bool.not_not]
theorem bare_le {v:List Int}(h:bareV v=true):(v.length:Int)≤8:=by
 by_cases h0:v.length=0
 ·omega
 ·unfold bareV rightV at h
  rw[decide_eq_false h0] at h;simp only[Bool.false_or,Bool.and_eq_true,decide_eq_true_eq] at h;omega
theorem right_ref {n:NA}(u:NumA n):rightN n=(decide (1≤n.kind∧n.kind≤22)&& !(decide (n.k<0)||decide (n.ef<0)||decide (n.code<0)||decide (n.who<0))&&(okNA n.kind.toNat n&&(okNB n.kind.toNat n&&(partsV n.parts&&(!(n.ops.any badOp)&& !(n.hits.any badHit)))))):=by
 rw[Bool.eq_iff_iff];have hb:∀i,i<15→(fldN n.kind.toNat).testBit i=hasL n.kind.toNat (abc.getD i 0):=λi hi=>hasL_bit _ i hi
 unfold rightN boundN okNA okNB;simp only[NA.bits,List.zipIdx_cons,List.zipIdx_nil,List.all_cons,List.all_nil,Nat.zero_add,Nat.reduceAdd,hb 0 zd,hb 1 zd,hb 2 zd,hb 3 zd,hb 4 zd,hb 5 zd,hb 6 zd,hb 7 zd,hb 8 zd,hb 9 zd,hb 10 zd,hb 11 zd,hb 12 zd,hb 13 zd,hb 14 zd];have e:∀i x,abc.getD i 0=x→abc.getD i 0=x:=λ_ _ h=>h
 simp only[show abc.getD 0 0=116 from rfl,show abc.getD 1 0=98 from rfl,show abc.getD 2 0=115 from rfl,show abc.getD 3 0=97 from rfl,show abc.getD 4 0=109 from rfl,show abc.getD 5 0=113 from rfl,show abc.getD 6 0=105 from rfl,show abc.getD 7 0=107 from rfl,show abc.getD 8 0=101 from rfl,show abc.getD 9 0=99 from rfl,show abc.getD 10 0=119 from rfl,show abc.getD 11 0=112 from rfl,show abc.getD 12 0=111 from rfl,show abc.getD 13 0=118 from rfl,show abc.getD 14 0=104 from rfl];simp only[Bool.and_eq_true,num_bit u.txn.1,num_bit u.batch.1,num_bit u.stamp.1,num_bit u.after.1,num_bit u.mark.1,num_bit u.query.1,num_bit u.id.1,num_bit (Int.natCast_nonneg n.parts.length),num_bit (Int.natCast_nonneg n.ops.length),num_bit (Int.natCast_nonneg n.vec.length),num_bit (Int.natCast_nonneg n.hits.length)];rw[num_ne,num_ne,num_ne,num_ne];have u1:=u.txn;have u2:=u.batch;have u3:=u.query;have u4:=u.stamp;simp only[Bool.not_eq_true',Bool.or_eq_false_iff,decide_eq_true_iff,decide_eq_false_iff_not,Bool.not_eq_false',and_assoc,and_true]
 constructor
 ·rintro ⟨k1,k2,h0,h1,h2,h3,h4,h5,h6,h7,h8,h9,h10,h11,h12,h13,h14,b1,b2,b3,b4,b5,b6,b7,q1,q2,q3,q4,q5,q6,q7⟩
  have hb8:=bare_le q4
  repeat' apply And.intro
  all_goals first|assumption|omega
 ·rintro ⟨k1,k2,c1,c2,c3,c4,a0,h0,a1,h1,a2,h2,a3,h3,a4,h4,a5,h5,a6,h6,a7,h7,a8,h8,a9,h9,a10,h10,a11,h11,a12,h12,a13,h13,a14,h14,q4,q5,q6,q7⟩
  repeat' apply And.intro
  all_goals first|assumption|omega
theorem fewV_few (l:VL):fewV 18 (fewV 18 l)=fewV 18 l:=by
 unfold fewV;rw[←List.map_take,List.take_take,List.map_map,Nat.min_self];refine List.map_congr_left λo _=> ?_
 simp[List.take_take]
theorem fewH_few (l:List (Int×Int×List Int)):fewH 18 (fewH 18 l)=fewH 18 l:=by
 unfold fewH;rw[←List.map_take,List.take_take,List.map_map,Nat.min_self];refine List.map_congr_left λo _=> ?_
 simp[List.take_take]
theorem few_few (n:NA):n.few.few=n.few:=by
 unfold NA.few;simp only[fewV_few,fewH_few,List.take_take,Nat.min_self]
theorem right3 {n:NA}(u:NumA n)(h:rightN n=true)(hk:n.kind=3):n={NA.zero with kind:=3,txn:=n.txn,after:=n.after,parts:=n.parts,ops:=n.ops}:=by
 obtain ⟨x0,x1,x2,x3,x4,x5,x6,x7,x8,x9,x10,x11,ps,os,vs,hs⟩:=n;have u2:=u.batch;have u3:=u.stamp;have u5:=u.mark;have u6:=u.query;have u7:=u.id;dsimp only at hk u2 u3 u5 u6 u7;subst hk;unfold rightN at h;rw[Bool.and_eq_true,Bool.and_eq_true] at h;have h1:=h.1.2;rw[show (Int.toNat 3)=3 from rfl,show fldN 3=6153 from rfl] at h1;simp only[NA.bits,List.zipIdx_cons,List.zipIdx_nil,List.all_cons,List.all_nil,Nat.zero_add,Nat.reduceAdd,show Nat.testBit 6153 0=true from rfl,show Nat.testBit 6153 1=false from rfl,show Nat.testBit 6153 2=false from rfl,show Nat.testBit 6153 3=true from rfl,show Nat.testBit 6153 4=false from rfl,show Nat.testBit 6153 5=false from rfl,show Nat.testBit 6153 6=false from rfl,show Nat.testBit 6153 7=false from rfl,show Nat.testBit 6153 8=false from rfl,show Nat.testBit 6153 9=false from rfl,show Nat.testBit 6153 10=false from rfl,show Nat.testBit 6153 11=true from rfl,show Nat.testBit 6153 12=true from rfl,show Nat.testBit 6153 13=false from rfl,show Nat.testBit 6153 14=false from rfl,Bool.or_true,Bool.or_false,Bool.true_and,Bool.and_true,Bool.and_eq_true,Bool.not_eq_true',decide_eq_false_iff_not,Bool.not_not,decide_eq_true_eq] at h1;obtain ⟨q1,q2,q3,q4,q5,q6,q7,q8,q9,q10,q11⟩:=h1;have e1:x2=0:=by omega
 have e2:x3=0:=by omega
 have e3:x5=0:=by omega
 have e4:x6=0:=by omega
 have e5:x7=0:=by omega
 have e6:vs=[]:=List.eq_nil_of_length_eq_zero zo;have e7:hs=[]:=List.eq_nil_of_length_eq_zero zo;subst e1 e2 e3 e4 e5 e6 e7 q6 q7 q8 q9;rfl
def stepS (j:JS)(f:Int)(n:NA)(w raw:Bool):JS:=if raw then appS j n else if w then (planV j f n).rec_.foldl appS j else j
theorem foldl_one {j:JS}{r:NA}:[r].foldl appS j=appS j r:=rfl
theorem JOW.step {j:JS}{k:Nat}(h:JOW j k){n:NA}(h0:0≤n.txn)(hs:0≤n.stamp)(f:Int)(w raw:Bool):JOW (stepS j f n w raw) (k+1):=by
 unfold stepS
 split
 ·exact h.app hs
 split
 ·rcases plan_one h h0 f with he|⟨r,he,_,_,_,hr⟩
  ·rw[he];exact h.le zo
  ·rw[he,foldl_one]
   refine h.app ?_
   rcases hr with ⟨rfl,_⟩|rfl|rfl
   ·exact hs
   ·exact hs
   ·exact Int.le_refl _
 ·exact h.le zo
end Go.Proofs.YtjlgabojhnnbaaaGreatDoor
namespace Go.SX
open Go
theorem Y.slen0 {P:Program}{n:Nat}{ops:List Oper}{f:Env}{A:HL}{d:Tmp}{ty:TypeId}{pos:String}{af:Array Edge}{x:Operand}{t:TypeId}{s0:ByteArray}[h:StrTy P t](hx:ev f x=some (.string s0)):
  YieldS P n ops ⟨some d,.call ⟨.builtin .len,#[x],#[t]⟩,ty,pos,af,none⟩ f A (.int .i64 s0.size):=
 Y.of λa w s=>by simp[execOp,resolve,invoke,s.eval hx,builtin,Builtin.len_,h.und,goInt]
theorem Y.slen {P:Program}{n:Nat}{ops:List Oper}{f:Env}{A:HL}{d:Tmp}{ty:TypeId}{pos:String}{af:Array Edge}{x:Operand}{t:TypeId}{l:List UInt8}[h:StrTy P t](hx:ev f x=some (str l)):
  YieldS P n ops ⟨some d,.call ⟨.builtin .len,#[x],#[t]⟩,ty,pos,af,none⟩ f A (.int .i64 l.length):=Y.slen0 hx
theorem bget {l:List UInt8}{i:Nat}{b:UInt8}(h:l[i]? =some b):(⟨l.toArray⟩:ByteArray)[i]? =some b:=by
 have hl:i<l.length:=(List.getElem?_eq_some_iff.1 h).1;have hb:l[i]=b:=(List.getElem?_eq_some_iff.1 h).2;have hs:i<(⟨l.toArray⟩:ByteArray).size:=by simpa[ByteArray.size] using hl
 rw[getElem?_pos _ i hs];exact congrArg some hb
end Go.SX
namespace Go.Proofs.YtjlgabojhnnbaaaGreatDoor
open Go Go.SX
attribute [local irreducible] swp opsS thenS blockS retS CallsS St Ent YieldS anyS drawS
theorem Name_spec (k:Nat)(A:HL)(hk:k≤255):CallsS Tryz.prog 121 [.int .u8 (k:Int)] A (λr L'=>r=.tuple #[str (sortT k).1,str (lett k)]∧L'=A):=by
 refine CallsS.of_body Tryz.func121 rfl rfl rfl ?_
 by_cases h0:k=0
 ·subst h0
  refine Q.r ?_;exact N.u rfl rfl (Ent.refl _) ⟨rfl,rfl⟩
 by_cases h1:k=1
 ·subst h1
  refine Q.r ?_;exact N.u rfl rfl (Ent.refl _) ⟨rfl,rfl⟩
 by_cases h2:k=2
 ·subst h2
  refine Q.r ?_;exact N.u rfl rfl (Ent.refl _) ⟨rfl,rfl⟩
 by_cases h3:k=3
 ·subst h3
  refine Q.r ?_;exact N.u rfl rfl (Ent.refl _) ⟨rfl,rfl⟩
 by_cases h4:k=4
 ·subst h4
  refine Q.r ?_;exact N.u rfl rfl (Ent.refl _) ⟨rfl,rfl⟩
 by_cases h5:k=5
 ·subst h5
  refine Q.r ?_;exact N.u rfl rfl (Ent.refl _) ⟨rfl,rfl⟩
 by_cases h6:k=6
 ·subst h6
  refine Q.r ?_;exact N.u rfl rfl (Ent.refl _) ⟨rfl,rfl⟩
 by_cases h7:k=7
 ·subst h7
  refine Q.r ?_;exact N.u rfl rfl (Ent.refl _) ⟨rfl,rfl⟩
 by_cases h8:k=8
 ·subst h8
  refine Q.r ?_;exact N.u rfl rfl (Ent.refl _) ⟨rfl,rfl⟩
 by_cases h9:k=9
 ·subst h9
  refine Q.r ?_;exact N.u rfl rfl (Ent.refl _) ⟨rfl,rfl⟩
 by_cases h10:k=10
 ·subst h10
  refine Q.r ?_;exact N.u rfl rfl (Ent.refl _) ⟨rfl,rfl⟩
 by_cases h11:k=11
 ·subst h11
  refine Q.r ?_;exact N.u rfl rfl (Ent.refl _) ⟨rfl,rfl⟩
 by_cases h12:k=12
 ·subst h12
  refine Q.r ?_;exact N.u rfl rfl (Ent.refl _) ⟨rfl,rfl⟩
 by_cases h13:k=13
 ·subst h13
  refine Q.r ?_;exact N.u rfl rfl (Ent.refl _) ⟨rfl,rfl⟩
 by_cases h14:k=14
 ·subst h14
  refine Q.r ?_;exact N.u rfl rfl (Ent.refl _) ⟨rfl,rfl⟩
 by_cases h15:k=15
 ·subst h15
  refine Q.r ?_;exact N.u rfl rfl (Ent.refl _) ⟨rfl,rfl⟩
 by_cases h16:k=16
 ·subst h16
  refine Q.r ?_;exact N.u rfl rfl (Ent.refl _) ⟨rfl,rfl⟩
 by_cases h17:k=17
 ·subst h17
  refine Q.r ?_;exact N.u rfl rfl (Ent.refl _) ⟨rfl,rfl⟩
 by_cases h18:k=18
 ·subst h18
  refine Q.r ?_;exact N.u rfl rfl (Ent.refl _) ⟨rfl,rfl⟩
 by_cases h19:k=19
 ·subst h19
  refine Q.r ?_;exact N.u rfl rfl (Ent.refl _) ⟨rfl,rfl⟩
 by_cases h20:k=20
 ·subst h20
  refine Q.r ?_;exact N.u rfl rfl (Ent.refl _) ⟨rfl,rfl⟩
 by_cases h21:k=21
 ·subst h21
  refine Q.r ?_;exact N.u rfl rfl (Ent.refl _) ⟨rfl,rfl⟩
 by_cases h22:k=22
 ·subst h22
  refine Q.r ?_;exact N.u rfl rfl (Ent.refl _) ⟨rfl,rfl⟩
 have e1:sortT k=([],0):=by
  unfold sortT;rw[List.getElem?_eq_none (by show 23≤k;omega)];rfl
 have e2:lett k=[]:=by
  unfold lett;rw[List.getElem?_eq_none (by show 23≤k;omega)];rfl
 rw[e1,e2];refine Q.r ?_;exact N.u rfl rfl (Ent.refl _) ⟨rfl,rfl⟩
theorem lett_le (k:Nat):(lett k).length≤15:=by
 by_cases h:k<23
 ·exact (by decide:∀k,k<23→(lett k).length≤15) k h
 ·unfold lett
  rw[List.getElem?_eq_none (by show 23≤k;omega)];decide
theorem u8_eq (x f:UInt8):decide (((x.toNat:Nat):Int)=((f.toNat:Nat):Int))=decide (x=f):=by
 congr 1
 rw[Int.natCast_inj,UInt8.toNat_inj]
theorem has_spec (k:Nat)(f:UInt8)(kd z:Int)(hkd:kd=(k:Int))(hz:z=((f.toNat:Nat):Int))(A:HL)(hk:k≤255):CallsS Tryz.prog 155 [.int .u8 kd,.int .u8 z] A (λr L'=>r=.bool (hasL k f)∧L'=A):=by
 subst hkd;unfold hasL;have hle:=lett_le k;refine CallsS.of_body Tryz.func155 rfl rfl rfl ?_;refine Q.r ?_;refine S.cr rfl (Name_spec k _ hk) ?_;rintro _ _ ⟨rfl,he⟩;rw[he];clear he;refine Q.r ?_;refine swp_loop (σ:=Nat) (λi=> [(1,.int .u8 z),(6,str (lett k)),(7,.int .i64 i)]) (λ_=>A) (λi=>i≤(lett k).length∧((lett k).take i).any (λx=>decide (x=f))=false) (λi=>(lett k).length - i) 0 zt (Ent.refl _) ⟨by omega,by simp⟩ ?_;rintro i ⟨hi,hany⟩
 by_cases hlt:i<(lett k).length
 ·obtain ⟨x,hx⟩:=mem_get hlt
  refine Q.r ?_;refine S.y (Y.slen rfl) ?_;refine Q.r ?_;refine S.y (Y.idx rfl rfl (bget hx)) ?_
  by_cases he:x=f
  ·have hz2:((x.toNat:Nat):Int)=z:=by rw[he,hz]
   refine Q.r ?_;exact N.t rfl (Ent.refl _) ⟨by rw[List.any_eq_true.2 ⟨x,List.mem_of_getElem? hx,decide_eq_true he⟩],rfl⟩
  ·have hz2:¬((x.toNat:Nat):Int)=z:=by
    rw[hz];intro hh;have:=u8_eq x f;rw[decide_eq_true hh] at this;exact he (of_decide_eq_true this.symm)
   refine Q.r ?_;exact ⟨i+1,zt,Ent.refl _,⟨by omega,by rw[take_snoc hx,List.any_append,hany,List.any_cons,decide_eq_false he];rfl⟩,by omega⟩
 ·have hie:i=(lett k).length:=by omega
  subst hie;rw[List.take_length] at hany;rw[hany];refine Q.r ?_;refine S.y (Y.slen rfl) ?_;refine Q.r ?_;exact N.t rfl (Ent.refl _) ⟨rfl,rfl⟩
theorem num_spec (k:Nat)(f:UInt8)(kd z n m:Int)(hkd:kd=(k:Int))(hz:z=((f.toNat:Nat):Int))(A:HL)(hk:k≤255):CallsS Tryz.prog 122 [.int .u8 kd,.int .u8 z,.int .u64 n,.int .u64 m] A (λr L'=>r=.bool (numV k f n m)∧L'=A):=by
 unfold numV;refine CallsS.of_body Tryz.func122 rfl rfl rfl ?_
 by_cases h1:n≤m
 ·rw[decide_eq_true h1,Bool.true_and]
  by_cases h2:n=0
  ·rw[decide_eq_true h2,Bool.true_or]
   refine Q.r ?_;exact N.t rfl (Ent.refl _) ⟨rfl,rfl⟩
  ·rw[decide_eq_false h2,Bool.false_or]
   refine Q.r ?_;refine S.cr rfl (has_spec k f kd z hkd hz _ hk) ?_;rintro _ _ ⟨rfl,rfl⟩;refine Q.r ?_;exact N.t rfl (Ent.refl _) ⟨rfl,rfl⟩
 ·rw[decide_eq_false h1,Bool.false_and]
  refine Q.r ?_;exact N.t rfl (Ent.refl _) ⟨rfl,rfl⟩
theorem Rvec_spec (a:OA)(c:Nat)(xs:List Int)(A:HL)(h:RdS A a xs.length 1 (xs.map I32))(hn:xs.length≤1000000):
  CallsS Tryz.prog 123 [.slice a xs.length c] A (λv L'=>v=.bool (bareV xs)∧L'=A):=by
 unfold bareV;refine CallsS.of_body Tryz.func123 rfl rfl rfl ?_
 by_cases h0:xs.length=0
 ·rw[decide_eq_true h0,Bool.true_or]
  refine Q.r ?_;exact N.t rfl (Ent.refl _) ⟨rfl,rfl⟩
 ·rw[decide_eq_false h0,Bool.false_or]
  refine Q.r ?_;refine S.cr rfl (RRight_spec a c xs _ h zo) ?_;rintro _ _ ⟨rfl,rfl⟩;refine Q.r ?_;exact N.t rfl (Ent.refl _) ⟨rfl,rfl⟩
theorem Right12_spec (n:NV)(A:HL)(h:RdN A n)(hk:OkN n)(u:NumA n.abs):
  CallsS Tryz.prog 64 [n.val] A (λr L'=>r=.bool (rightN n.abs)∧L'=A):=by
 obtain ⟨k,hkk⟩:∃k:Nat,n.kind=(k:Int):=⟨n.kind.toNat,by have:=u.kind;dsimp only at this;omega⟩;have hk255:k≤255:=by have:=u.kind;dsimp only at this;omega
 have hE:rightN n.abs=(!decide ((sortT k).1=[])&& !(decide (n.k<0)||decide (n.ef<0)||decide (n.code<0)||decide (n.who<0))&&(okNA k n.abs&&(okNB k n.abs&&(partsV n.parts&&(!(n.ops.any λo=>badOp o.abs)&& !(n.hits.any λo=>badHit o.abs)))))):=by
  rw[right_ref u];have e1:n.abs.kind.toNat=k:=by show n.kind.toNat=k;omega
  rw[e1,sort_name,Bool.not_not];have e2:decide (1≤n.abs.kind∧n.abs.kind≤22)=decide (1≤k∧k≤22):=by
   congr 1
   show (1≤n.kind∧n.kind≤22)=_
   rw[hkk];simp;omega
  rw[e2];simp only[List.any_map];rfl
 have hu:NumA n.abs:=u;rw[hE];clear hE;have x1:=u.k;have x2:=u.ef;have x3:=u.code;have x4:=u.who;dsimp only at x1 x2 x3 x4;have p1:=hk.p;have p2:=hk.o;have p3:=hk.v;have p4:=hk.h;refine CallsS.of_body Tryz.func64 rfl rfl rfl ?_;refine Q.r ?_;(repeat (intro b1;refine Q.r ?_));refine S.cr (args:=[.int .u8 (k:Int)]) (by rw[←hkk];rfl) (Name_spec k _ hk255) ?_;rintro _ _ ⟨rfl,rfl⟩
 by_cases hn:(sortT k).1=[]
 ·rw[decide_eq_true hn]
  refine Q.r ?_;exact N.t rfl (Ent.drop (Ent.refl _)) ⟨by simp only[Bool.or_true,Bool.true_or,Bool.or_false,Bool.false_or,Bool.not_true,Bool.not_false,Bool.false_and,Bool.and_false,Bool.true_and,Bool.and_true],rfl⟩
 rw[decide_eq_false hn]
 by_cases a1:n.k<0
 ·rw[decide_eq_true a1]
  refine Q.r ?_;exact N.t rfl (Ent.drop (Ent.refl _)) ⟨by simp only[Bool.or_true,Bool.true_or,Bool.or_false,Bool.false_or,Bool.not_true,Bool.not_false,Bool.false_and,Bool.and_false,Bool.true_and,Bool.and_true],rfl⟩
 by_cases a2:n.ef<0
 ·rw[decide_eq_true a2]
  refine Q.r ?_;exact N.t rfl (Ent.drop (Ent.refl _)) ⟨by simp only[Bool.or_true,Bool.true_or,Bool.or_false,Bool.false_or,Bool.not_true,Bool.not_false,Bool.false_and,Bool.and_false,Bool.true_and,Bool.and_true],rfl⟩
 by_cases a3:n.code<0
 ·rw[decide_eq_true a3]
  refine Q.r ?_;exact N.t rfl (Ent.drop (Ent.refl _)) ⟨by simp only[Bool.or_true,Bool.true_or,Bool.or_false,Bool.false_or,Bool.not_true,Bool.not_false,Bool.false_and,Bool.and_false,Bool.true_and,Bool.and_true],rfl⟩
 by_cases a4:n.who<0
 ·rw[decide_eq_true a4]
  refine Q.r ?_;exact N.t rfl (Ent.drop (Ent.refl _)) ⟨by simp only[Bool.or_true,Bool.true_or,Bool.or_false,Bool.false_or,Bool.not_true,Bool.not_false,Bool.false_and,Bool.and_false,Bool.true_and,Bool.and_true],rfl⟩
 rw[decide_eq_false a1,decide_eq_false a2,decide_eq_false a3,decide_eq_false a4];simp only[Bool.or_true,Bool.true_or,Bool.or_false,Bool.false_or,Bool.not_true,Bool.not_false,Bool.false_and,Bool.and_false,Bool.true_and,Bool.and_true];refine Q.r ?_;refine opsS_cutT (σ:=Bool) (λs=> [(1,.pointer (some ⟨b1,0,none⟩)),(3,.int .u8 n.kind),(6,.bool s)]) (λs=>pt b1 (cl n.cells 37)::A) (λs=>s=okNA k n.abs) ?_ ?_
 ·skip
  refine Q.r ?_;refine S.cr rfl (num_spec k 116 n.kind 116 n.txn 18446744073709551615 hkk rfl _ hk255) ?_;rintro _ _ ⟨rfl,rfl⟩
  cases hv0:numV k 116 n.txn 18446744073709551615 with
  |false=>
   refine Q.r ?_;exact ⟨false,zt,Ent.refl _,by unfold okNA;simp only[hv0,List.length_map,Bool.or_true,Bool.true_or,Bool.or_false,Bool.false_or,Bool.not_true,Bool.not_false,Bool.false_and,Bool.and_false,Bool.true_and,Bool.and_true]⟩
  |true=>
  refine Q.r ?_;refine S.cr rfl (num_spec k 98 n.kind 98 n.batch 18446744073709551615 hkk rfl _ hk255) ?_;rintro _ _ ⟨rfl,rfl⟩
  cases hv1:numV k 98 n.batch 18446744073709551615 with
  |false=>
   refine Q.r ?_;exact ⟨false,zt,Ent.refl _,by unfold okNA;simp only[hv0,hv1,List.length_map,Bool.or_true,Bool.true_or,Bool.or_false,Bool.false_or,Bool.not_true,Bool.not_false,Bool.false_and,Bool.and_false,Bool.true_and,Bool.and_true]⟩
  |true=>
  refine Q.r ?_;refine S.cr rfl (num_spec k 115 n.kind 115 n.stamp 1099511627776 hkk rfl _ hk255) ?_;rintro _ _ ⟨rfl,rfl⟩
  cases hv2:numV k 115 n.stamp 1099511627776 with
  |false=>
   refine Q.r ?_;exact ⟨false,zt,Ent.refl _,by unfold okNA;simp only[hv0,hv1,hv2,List.length_map,Bool.or_true,Bool.true_or,Bool.or_false,Bool.false_or,Bool.not_true,Bool.not_false,Bool.false_and,Bool.and_false,Bool.true_and,Bool.and_true]⟩
  |true=>
  refine Q.r ?_;refine S.cr rfl (num_spec k 97 n.kind 97 n.after 1099511627776 hkk rfl _ hk255) ?_;rintro _ _ ⟨rfl,rfl⟩
  cases hv3:numV k 97 n.after 1099511627776 with
  |false=>
   refine Q.r ?_;exact ⟨false,zt,Ent.refl _,by unfold okNA;simp only[hv0,hv1,hv2,hv3,List.length_map,Bool.or_true,Bool.true_or,Bool.or_false,Bool.false_or,Bool.not_true,Bool.not_false,Bool.false_and,Bool.and_false,Bool.true_and,Bool.and_true]⟩
  |true=>
  refine Q.r ?_;refine S.cr rfl (num_spec k 109 n.kind 109 n.mark 1099511627776 hkk rfl _ hk255) ?_;rintro _ _ ⟨rfl,rfl⟩
  cases hv4:numV k 109 n.mark 1099511627776 with
  |false=>
   refine Q.r ?_;exact ⟨false,zt,Ent.refl _,by unfold okNA;simp only[hv0,hv1,hv2,hv3,hv4,List.length_map,Bool.or_true,Bool.true_or,Bool.or_false,Bool.false_or,Bool.not_true,Bool.not_false,Bool.false_and,Bool.and_false,Bool.true_and,Bool.and_true]⟩
  |true=>
  refine Q.r ?_;refine S.cr rfl (num_spec k 113 n.kind 113 n.query 18446744073709551615 hkk rfl _ hk255) ?_;rintro _ _ ⟨rfl,rfl⟩
  cases hv5:numV k 113 n.query 18446744073709551615 with
  |false=>
   refine Q.r ?_;exact ⟨false,zt,Ent.refl _,by unfold okNA;simp only[hv0,hv1,hv2,hv3,hv4,hv5,List.length_map,Bool.or_true,Bool.true_or,Bool.or_false,Bool.false_or,Bool.not_true,Bool.not_false,Bool.false_and,Bool.and_false,Bool.true_and,Bool.and_true]⟩
  |true=>
  refine Q.r ?_;refine S.cr rfl (num_spec k 105 n.kind 105 n.id 1099511627776 hkk rfl _ hk255) ?_;rintro _ _ ⟨rfl,rfl⟩
  cases hv6:numV k 105 n.id 1099511627776 with
  |false=>
   refine Q.r ?_;exact ⟨false,zt,Ent.refl _,by unfold okNA;simp only[hv0,hv1,hv2,hv3,hv4,hv5,hv6,List.length_map,Bool.or_true,Bool.true_or,Bool.or_false,Bool.false_or,Bool.not_true,Bool.not_false,Bool.false_and,Bool.and_false,Bool.true_and,Bool.and_true]⟩
  |true=>
  refine Q.r ?_;refine S.y (Y.cvi rfl) ?_;rw[wrap_u64 zo zo];refine Q.r ?_;refine S.cr rfl (num_spec k 107 n.kind 107 n.k 16 hkk rfl _ hk255) ?_;rintro _ _ ⟨rfl,rfl⟩
  cases hv7:numV k 107 n.k 16 with
  |false=>
   refine Q.r ?_;exact ⟨false,zt,Ent.refl _,by unfold okNA;simp only[hv0,hv1,hv2,hv3,hv4,hv5,hv6,hv7,List.length_map,Bool.or_true,Bool.true_or,Bool.or_false,Bool.false_or,Bool.not_true,Bool.not_false,Bool.false_and,Bool.and_false,Bool.true_and,Bool.and_true]⟩
  |true=>
  refine Q.r ?_;refine S.y (Y.cvi rfl) ?_;rw[wrap_u64 zo zo];refine Q.r ?_;refine S.cr rfl (num_spec k 101 n.kind 101 n.ef 256 hkk rfl _ hk255) ?_;rintro _ _ ⟨rfl,rfl⟩
  cases hv8:numV k 101 n.ef 256 with
  |false=>
   refine Q.r ?_;exact ⟨false,zt,Ent.refl _,by unfold okNA;simp only[hv0,hv1,hv2,hv3,hv4,hv5,hv6,hv7,hv8,List.length_map,Bool.or_true,Bool.true_or,Bool.or_false,Bool.false_or,Bool.not_true,Bool.not_false,Bool.false_and,Bool.and_false,Bool.true_and,Bool.and_true]⟩
  |true=>
  refine Q.r ?_;refine S.y (Y.cvi rfl) ?_;rw[wrap_u64 zo zo];refine Q.r ?_;refine S.cr rfl (num_spec k 99 n.kind 99 n.code 13 hkk rfl _ hk255) ?_;rintro _ _ ⟨rfl,rfl⟩
  cases hv9:numV k 99 n.code 13 with
  |false=>
   refine Q.r ?_;exact ⟨false,zt,Ent.refl _,by unfold okNA;simp only[hv0,hv1,hv2,hv3,hv4,hv5,hv6,hv7,hv8,hv9,List.length_map,Bool.or_true,Bool.true_or,Bool.or_false,Bool.false_or,Bool.not_true,Bool.not_false,Bool.false_and,Bool.and_false,Bool.true_and,Bool.and_true]⟩
  |true=>
  refine Q.r ?_;refine S.y (Y.cvi rfl) ?_;rw[wrap_u64 zo zo];refine Q.r ?_;refine S.cr rfl (num_spec k 119 n.kind 119 n.who 15 hkk rfl _ hk255) ?_;rintro _ _ ⟨rfl,rfl⟩
  cases hv10:numV k 119 n.who 15 with
  |false=>
   refine Q.r ?_;exact ⟨false,zt,Ent.refl _,by unfold okNA;simp only[hv0,hv1,hv2,hv3,hv4,hv5,hv6,hv7,hv8,hv9,hv10,List.length_map,Bool.or_true,Bool.true_or,Bool.or_false,Bool.false_or,Bool.not_true,Bool.not_false,Bool.false_and,Bool.and_false,Bool.true_and,Bool.and_true]⟩
  |true=>
  refine Q.r ?_;exact ⟨true,zt,Ent.refl _,by unfold okNA;simp only[hv0,hv1,hv2,hv3,hv4,hv5,hv6,hv7,hv8,hv9,hv10,Bool.or_true,Bool.true_or,Bool.or_false,Bool.false_or,Bool.not_true,Bool.not_false,Bool.false_and,Bool.and_false,Bool.true_and,Bool.and_true]⟩
 intro b0 hb0;rw[←hb0,←Bool.and_assoc];clear hb0;refine swp_seq ?_;refine swp_region ?_;refine opsS_cutT (σ:=Bool) (λs=> [(1,.pointer (some ⟨b1,0,none⟩)),(6,.bool s)]) (λs=>pt b1 (cl n.cells 37)::A) (λs=>s=(b0&&okNB k n.abs)) ?_ ?_
 ·cases b0 with
  |false=>
   refine Q.r ?_;exact ⟨false,zt,Ent.refl _,rfl⟩
  |true=>
  rw[Bool.true_and];refine Q.r ?_;refine S.y (Y.cvi rfl) ?_;rw[wrap_u64 zo zo];refine Q.r ?_;refine S.cr rfl (num_spec k 112 n.kind 112 (n.parts.length:Nat) 4 hkk rfl _ hk255) ?_;rintro _ _ ⟨rfl,rfl⟩
  cases hv0:numV k 112 (n.parts.length:Nat) 4 with
  |false=>
   refine Q.r ?_;exact ⟨false,zt,Ent.refl _,by unfold okNB;simp only[hv0,List.length_map,Bool.or_true,Bool.true_or,Bool.or_false,Bool.false_or,Bool.not_true,Bool.not_false,Bool.false_and,Bool.and_false,Bool.true_and,Bool.and_true]⟩
  |true=>
  refine Q.r ?_;refine S.y (Y.cvi rfl) ?_;rw[wrap_u64 zo zo];refine Q.r ?_;refine S.cr rfl (num_spec k 111 n.kind 111 (n.ops.length:Nat) 16 hkk rfl _ hk255) ?_;rintro _ _ ⟨rfl,rfl⟩
  cases hv1:numV k 111 (n.ops.length:Nat) 16 with
  |false=>
   refine Q.r ?_;exact ⟨false,zt,Ent.refl _,by unfold okNB;simp only[hv0,hv1,List.length_map,Bool.or_true,Bool.true_or,Bool.or_false,Bool.false_or,Bool.not_true,Bool.not_false,Bool.false_and,Bool.and_false,Bool.true_and,Bool.and_true]⟩
  |true=>
  refine Q.r ?_;refine S.y (Y.cvi rfl) ?_;rw[wrap_u64 zo zo];refine Q.r ?_;refine S.cr rfl (num_spec k 118 n.kind 118 (n.vec.length:Nat) 8 hkk rfl _ hk255) ?_;rintro _ _ ⟨rfl,rfl⟩
  cases hv2:numV k 118 (n.vec.length:Nat) 8 with
  |false=>
   refine Q.r ?_;exact ⟨false,zt,Ent.refl _,by unfold okNB;simp only[hv0,hv1,hv2,List.length_map,Bool.or_true,Bool.true_or,Bool.or_false,Bool.false_or,Bool.not_true,Bool.not_false,Bool.false_and,Bool.and_false,Bool.true_and,Bool.and_true]⟩
  |true=>
  refine Q.r ?_;refine S.y (Y.cvi rfl) ?_;rw[wrap_u64 zo zo];refine Q.r ?_;refine S.cr rfl (num_spec k 104 n.kind 104 (n.hits.length:Nat) 16 hkk rfl _ hk255) ?_;rintro _ _ ⟨rfl,rfl⟩
  cases hv3:numV k 104 (n.hits.length:Nat) 16 with
  |false=>
   refine Q.r ?_;exact ⟨false,zt,Ent.refl _,by unfold okNB;simp only[hv0,hv1,hv2,hv3,List.length_map,Bool.or_true,Bool.true_or,Bool.or_false,Bool.false_or,Bool.not_true,Bool.not_false,Bool.false_and,Bool.and_false,Bool.true_and,Bool.and_true]⟩
  |true=>
  refine Q.r ?_;refine S.cr rfl (Rvec_spec n.va n.vc n.vec _ h.v.sub hk.v) ?_;rintro _ _ ⟨rfl,rfl⟩
  cases hv5:bareV n.vec with
  |false=>
   refine Q.r ?_;exact ⟨false,zt,Ent.refl _,by unfold okNB;simp only[hv0,hv1,hv2,hv3,hv5,List.length_map,Bool.or_true,Bool.true_or,Bool.or_false,Bool.false_or,Bool.not_true,Bool.not_false,Bool.false_and,Bool.and_false,Bool.true_and,Bool.and_true]⟩
  |true=>
   refine Q.r ?_;exact ⟨true,zt,Ent.refl _,by unfold okNB;simp only[hv0,hv1,hv2,hv3,hv5,List.length_map,Bool.or_true,Bool.true_or,Bool.or_false,Bool.false_or,Bool.not_true,Bool.not_false,Bool.false_and,Bool.and_false,Bool.true_and,Bool.and_true]⟩
 intro b hb;rw[←hb,←Bool.and_assoc];clear hb b0;refine Q.r ?_;refine swp_cutB (σ:=Bool) (λs=> [(1,.pointer (some ⟨b1,0,none⟩)),(6,.bool s)]) (λs=>pt b1 (cl n.cells 37)::A) (λs=>s=(b&&partsV n.parts)) ?_ ?_
 ·refine swp_loop (σ:=Nat×Bool) (λs=> [(1,.pointer (some ⟨b1,0,none⟩)),(149,.slice n.pa n.parts.length n.pc),(150,.int .i64 n.parts.length),(6,.bool s.2),(151,.int .i64 s.1)])
   (λ_=>pt b1 (cl n.cells 37)::A) (λs=>s.1≤n.parts.length∧s.2=(b&&(List.range s.1).all (okP n.parts))) (λs=>n.parts.length - s.1) (0,b) zt (Ent.refl _) ⟨by omega,by simp⟩ ?_
  rintro ⟨i,t⟩ ⟨hi,ht⟩;dsimp only at hi ht ⊢
  by_cases hlt:i<n.parts.length
  ·have hst:(b&&(List.range (i+1)).all (okP n.parts))=(t&&okP n.parts i):=by
    rw[List.range_succ,List.all_append,←Bool.and_assoc,←ht,List.all_cons,List.all_nil,Bool.and_true]
   clear ht;obtain ⟨p,hp⟩:=mem_get hlt;obtain ⟨bp,op,hpa,hr⟩:=RdS.elem (g:=λz=> [I64 z]) (λ_=>rfl) (by rw[flat_I64];exact h.p) hp rfl;have hgp:n.parts.getD i 0=p:=by rw[List.getD_eq_getElem?_getD,hp];rfl
   cases t with
   |false=>
    rw[hpa]
    repeat (first|refine S.y (Y.ldRj rfl (by first|assumption|exact RdC.sub (by assumption)) rfl) ?_|(refine GQ.y ?_;refine Q.y ?_)|refine Q.go ?_|(refine GQ.g ?_;refine Q.gq ?_)|(refine GQ.s ?_;refine Q.st ?_)|(refine GQ.g ?_;refine Q.gd ?_)|refine Q.ct rfl ?_|refine Q.cf rfl ?_|(refine GQ.a ?_;refine Q.al (λb1=> ?_)))
    exact ⟨(i+1,false),⟨rfl,by first|rfl|(rw[←hpa];rfl),rfl,rfl,rfl,trivial⟩,Ent.refl _,⟨by dsimp only;omega,by rw[hst];rfl⟩,by dsimp only;omega⟩
   |true=>
   rw[Bool.true_and] at hst
   by_cases e1:p<0
   ·rw[hpa]
    repeat (first|refine S.y (Y.ldRj rfl (by first|assumption|exact RdC.sub (by assumption)) rfl) ?_|(refine GQ.y ?_;refine Q.y ?_)|refine Q.go ?_|(refine GQ.g ?_;refine Q.gq ?_)|(refine GQ.s ?_;refine Q.st ?_)|(refine GQ.g ?_;refine Q.gd ?_)|refine Q.ct rfl ?_|refine Q.cf rfl ?_|(refine GQ.a ?_;refine Q.al (λb1=> ?_)))
    exact ⟨(i+1,false),⟨rfl,by first|rfl|(rw[←hpa];rfl),rfl,rfl,rfl,trivial⟩,Ent.refl _,⟨by dsimp only;omega,by rw[hst];unfold okP;rw[hgp,decide_eq_false (by omega:¬0≤p)];rfl⟩,by dsimp only;omega⟩
   by_cases e2:16≤p
   ·rw[hpa]
    repeat (first|refine S.y (Y.ldRj rfl (by first|assumption|exact RdC.sub (by assumption)) rfl) ?_|(refine GQ.y ?_;refine Q.y ?_)|refine Q.go ?_|(refine GQ.g ?_;refine Q.gq ?_)|(refine GQ.s ?_;refine Q.st ?_)|(refine GQ.g ?_;refine Q.gd ?_)|refine Q.ct rfl ?_|refine Q.cf rfl ?_|(refine GQ.a ?_;refine Q.al (λb1=> ?_)))
    exact ⟨(i+1,false),⟨rfl,by first|rfl|(rw[←hpa];rfl),rfl,rfl,rfl,trivial⟩,Ent.refl _,⟨by dsimp only;omega,by rw[hst];unfold okP;rw[hgp,decide_eq_false (by omega:¬p<16),Bool.and_false];rfl⟩,by dsimp only;omega⟩
   by_cases e3:i=0
   ·subst e3
    rw[hpa]
    repeat (first|refine S.y (Y.ldRj rfl (by first|assumption|exact RdC.sub (by assumption)) rfl) ?_|(refine GQ.y ?_;refine Q.y ?_)|refine Q.go ?_|(refine GQ.g ?_;refine Q.gq ?_)|(refine GQ.s ?_;refine Q.st ?_)|(refine GQ.g ?_;refine Q.gd ?_)|refine Q.ct rfl ?_|refine Q.cf rfl ?_|(refine GQ.a ?_;refine Q.al (λb1=> ?_)))
    exact ⟨(1,true),⟨rfl,by first|rfl|(rw[←hpa];rfl),rfl,rfl,rfl,trivial⟩,Ent.refl _,⟨by dsimp only;omega,by rw[hst];unfold okP;rw[hgp,decide_eq_true (by omega:(0:Int)≤p),decide_eq_true (by omega:p<16)];rfl⟩,by dsimp only;omega⟩
   ·obtain ⟨q,hq⟩:=mem_get (l:=n.parts) (show i - 1<n.parts.length by omega)
    obtain ⟨bq,oq,hqa,hr2⟩:=RdS.elem (g:=λz=> [I64 z]) (λ_=>rfl) (by rw[flat_I64];exact h.p) hq rfl;have hgq:n.parts.getD (i - 1) 0=q:=by rw[List.getD_eq_getElem?_getD,hq];rfl
    have hv:okP n.parts i=decide (q<p):=by
     unfold okP;rw[hgp,hgq,decide_eq_true (by omega:(0:Int)≤p),decide_eq_true (by omega:p<16),decide_eq_false e3];simp only[Bool.or_true,Bool.true_or,Bool.or_false,Bool.false_or,Bool.not_true,Bool.not_false,Bool.false_and,Bool.and_false,Bool.true_and,Bool.and_true]
    rw[hv] at hst;rw[hpa];refine Q.rd6 ?_;rw[←hpa,hqa];refine Q.rd6 ?_;exact ⟨(i+1,decide (q<p)),⟨rfl,by first|rfl|(rw[←hqa];rfl)|(rw[hqa];rfl),rfl,rfl,rfl,trivial⟩,Ent.refl _,⟨by dsimp only;omega,by rw[hst]⟩,by dsimp only;omega⟩
  ·have hie:i=n.parts.length:=by omega
   subst hie;refine Q.r ?_;exact ⟨t,zt,Ent.refl _,ht⟩
 intro b2 hb2;rw[←hb2,←Bool.and_assoc];clear hb2 b;refine Q.r ?_;refine swp_cutB (σ:=Bool) (λs=> [(1,.pointer (some ⟨b1,0,none⟩)),(6,.bool s)]) (λs=>pt b1 (cl n.cells 37)::A) (λs=>s=(b2&& !(n.ops.any λo=>badOp o.abs))) ?_ ?_
 ·refine swp_loop (σ:=Nat×Bool) (λs=> [(1,.pointer (some ⟨b1,0,none⟩)),(181,.slice n.oa n.ops.length n.oc),(182,.int .i64 n.ops.length),(6,.bool s.2),(183,.int .i64 s.1)])
   (λ_=>pt b1 (cl n.cells 37)::A) (λs=>s.1≤n.ops.length∧s.2=(b2&& !((n.ops.take s.1).any λo=>badOp o.abs))) (λs=>n.ops.length - s.1) (0,b2) zt (Ent.refl _) ⟨by omega,by simp⟩ ?_
  rintro ⟨i,t⟩ ⟨hi,ht⟩;dsimp only at hi ht ⊢
  by_cases hlt:i<n.ops.length
  ·obtain ⟨o,ho⟩:=mem_get hlt
   have hmo:o∈n.ops:=List.mem_of_getElem? ho;have hst:(b2&& !((n.ops.take (i+1)).any λo=>badOp o.abs))=(t&& !badOp o.abs):=by
    rw[take_snoc ho,List.any_append,Bool.not_or,←Bool.and_assoc,←ht,List.any_cons,List.any_nil,Bool.or_false]
   clear ht;obtain ⟨bp,op,hpa,hr⟩:=RdS.elem (g:=OV.cells) (λ_=>rfl) h.o.1 ho rfl;rw[hpa]
   cases t with
   |false=>
    refine Q.r ?_;(repeat (intro b1;refine Q.r ?_));exact ⟨(i+1,false),zt,by exact eG,⟨by dsimp only;omega,by rw[hst];rfl⟩,by dsimp only;omega⟩
   |true=>
   rw[Bool.true_and] at hst
   by_cases e1:1099511627776<o.id
   ·refine Q.r ?_;(repeat (intro b1;refine Q.r ?_))
    exact ⟨(i+1,false),zt,by exact eG,⟨by dsimp only;omega,by rw[hst];unfold badOp;rw[decide_eq_true e1];rfl⟩,by dsimp only;omega⟩
   ·refine Q.r ?_;(repeat (intro b1;refine Q.r ?_))
    refine S.cr rfl (Rvec_spec o.a o.c o.vec _ ((h.o.2 o hmo).sub) (hk.ov o hmo)) ?_;rintro _ _ ⟨rfl,rfl⟩;refine Q.r ?_;exact ⟨(i+1,bareV o.vec),zt,by exact eG,⟨by dsimp only;omega,by rw[hst];unfold badOp;rw[decide_eq_false e1];simp only[Bool.or_true,Bool.true_or,Bool.or_false,Bool.false_or,Bool.not_true,Bool.not_false,Bool.false_and,Bool.and_false,Bool.true_and,Bool.and_true,Bool.not_not]⟩,by dsimp only;omega⟩
  ·have hie:i=n.ops.length:=by omega
   subst hie;rw[List.take_length] at ht;refine Q.r ?_;exact ⟨t,zt,Ent.refl _,ht⟩
 intro b3 hb3;rw[←hb3];clear hb3 b2;refine Q.r ?_;refine swp_cutB (σ:=Bool) (λs=> [(6,.bool s)]) (λs=>A) (λs=>s=(b3&& !(n.hits.any λo=>badHit o.abs))) ?_ ?_
 ·refine swp_loop (σ:=Nat×Bool) (λs=> [(200,.slice n.ha n.hits.length n.hc),(201,.int .i64 n.hits.length),(6,.bool s.2),(202,.int .i64 s.1)])
   (λ_=>A) (λs=>s.1≤n.hits.length∧s.2=(b3&& !((n.hits.take s.1).any λo=>badHit o.abs))) (λs=>n.hits.length - s.1) (0,b3) zt (Ent.drop (Ent.refl _)) ⟨by omega,by simp⟩ ?_
  rintro ⟨i,t⟩ ⟨hi,ht⟩;dsimp only at hi ht ⊢
  by_cases hlt:i<n.hits.length
  ·obtain ⟨o,ho⟩:=mem_get hlt
   have hmo:o∈n.hits:=List.mem_of_getElem? ho;have hst:(b3&& !((n.hits.take (i+1)).any λo=>badHit o.abs))=(t&& !badHit o.abs):=by
    rw[take_snoc ho,List.any_append,Bool.not_or,←Bool.and_assoc,←ht,List.any_cons,List.any_nil,Bool.or_false]
   clear ht;obtain ⟨bp,op,hpa,hr⟩:=RdS.elem (g:=HV.cells) (λ_=>rfl) h.h ho rfl;rw[hpa]
   cases t with
   |false=>
    refine Q.r ?_;(repeat (intro b1;refine Q.r ?_));exact ⟨(i+1,false),zt,by exact eG,⟨by dsimp only;omega,by rw[hst];rfl⟩,by dsimp only;omega⟩
   |true=>
   rw[Bool.true_and] at hst
   by_cases e1:1099511627776<o.id
   ·refine Q.r ?_;(repeat (intro b1;refine Q.r ?_))
    exact ⟨(i+1,false),zt,by exact eG,⟨by dsimp only;omega,by rw[hst];unfold badHit;rw[decide_eq_true e1];rfl⟩,by dsimp only;omega⟩
   ·refine Q.r ?_;(repeat (intro b1;refine Q.r ?_))
    refine S.cr rfl (RRight_spec o.a o.c o.vec _ ((h.hv o hmo).sub) (by have:=hk.hv o hmo;omega)) ?_;rintro _ _ ⟨rfl,rfl⟩;refine Q.r ?_;exact ⟨(i+1,rightV o.vec),zt,by exact eG,⟨by dsimp only;omega,by rw[hst];unfold badHit;rw[decide_eq_false e1];simp only[Bool.or_true,Bool.true_or,Bool.or_false,Bool.false_or,Bool.not_true,Bool.not_false,Bool.false_and,Bool.and_false,Bool.true_and,Bool.and_true,Bool.not_not]⟩,by dsimp only;omega⟩
  ·have hie:i=n.hits.length:=by omega
   subst hie;rw[List.take_length] at ht;refine Q.r ?_;exact ⟨t,zt,Ent.refl _,ht⟩
 intro b4 hb4;rw[←hb4];refine Q.r ?_;exact N.t rfl (Ent.refl _) ⟨rfl,rfl⟩
end Go.Proofs.YtjlgabojhnnbaaaGreatDoor
