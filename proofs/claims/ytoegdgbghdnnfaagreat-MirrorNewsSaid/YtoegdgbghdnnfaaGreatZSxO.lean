import Derived.Test.YtoegdgbghdnnfaaGreatZSxJ
import Derived.Test.YtoegdgbghdnnfaaGreatZSxQ
namespace Go.Proofs.YtoegdgbghdnnfaaGreat.Sx
open Go.RowKit
section
variable {P:Program} {T:TT} {B:Bs} {N:Nat} {a:Act} {w:World} {k:Kp} {g:Env} {Q:Exit->Act->World->Prop}
variable {l:List Oper} {S0:St} {res:RS} {m:Nat}
theorem zvj(h:zjh m l=true):Looks l (zap [] l) m:=by
 simp only[zjh,Bool.and_eq_true,Nat.ble_eq]at h
 obtain⟨hle,h⟩:=h
 have at_: ∀i o,l[i]?=some o->zju l (zap [] l) (m) i o=true:=λi o ho=>by
  have:=(za5.1 h) i (List.mem_range.2 (List.getElem?_eq_some_iff.1 ho).1)
  rw[zba,ho]at this
  exact this
 have blt: ∀{x y:Nat},Nat.blt x y=true↔x<y:=λ{x y}=>by simp[Nat.blt];omega
 have front: ∀i o,i<m->l[i]?=some o->(match o.guard with |none=>true |some (g,_)=>memB g ((lget (zap [] l) i).getD [])&&Nat.blt g i)=true/\∀j,j<i->∃p,l[j]?=some p/\
   (match p.dst,o.dst with |some d,some e=> !(Nat.beq d e) |_,_=>true)=true/\
   (memB j ((lget (zap [] l) i).getD [])||((match p.dst with |none=>true |some d=> !(memB d (zed o)))&&(match o.dst with |none=>true |some d=> !(memB d (zed p)))))=true:=by
  intro i o hi ho
  have:=at_ i o ho
  simp only[zju,Bool.and_eq_true]at this
  have h2:=this.2
  rw[if_pos (blt.2 hi)]at h2
  simp only[Bool.and_eq_true]at h2
  refine⟨h2.1.2,λj hj=>?_⟩
  have h3:=(za5.1 h2.2) j (List.mem_range.2 hj)
  rw[zba]at h3
  split at h3
  ·cases h3
  ·rename_i p hp
   simp only[Bool.and_eq_true]at h3
   exact⟨p,hp,h3.1,h3.2⟩
 refine⟨hle,λi o ho e he=>?_,λi hi hil j hj=>?_,λo ho=>?_,λi j t hi hj hjt hit=>?_,λi o j want hi ho hg=>?_,λi j o t hi hj ho hjt ht=>?_,λi j p t hi hj hp hit ht=>?_⟩
 ·have:=at_ i o ho
  simp only[zju,Bool.and_eq_true]at this
  exact blt.1 ((za5.1 this.1) e he)
 ·have:=at_ i _ (List.getElem?_eq_getElem hil)
  simp only[zju,Bool.and_eq_true]at this
  have h2:=this.2
  rw[if_neg (by rw[blt];omega)]at h2
  simp only[Bool.or_eq_true,Bool.and_eq_true]at h2
  rcases h2 with h2 |⟨h2,_⟩
  ·exact zbg.1 ((za5.1 h2) j (List.mem_range.2 hj))
  ·have:=Nat.eq_of_beq_eq_true h2;omega
 ·have:=at_ _ o ho
  simp only[zju,Bool.and_eq_true]at this
  have h2:=this.2
  rw[if_neg (by rw[blt];omega)]at h2
  simp only[Bool.or_eq_true,Bool.and_eq_true]at h2
  rcases h2 with h2 |⟨_,h2⟩
  ·exact .inl λj hj=>zbg.1 ((za5.1 h2) j (List.mem_range.2 hj))
  ·right
   simp only[z7x,Bool.and_eq_true]at h2
   obtain⟨q1,q2,q3,q4⟩:=h2
   split at q1
   ·rename_i t x y hop
    refine⟨t,x,y,hop,?_,?_,λj s hj hjs hs=>?_⟩
    ·cases hd:o.dst with
     |none=>rfl
     |some d=>simp[hd]at q2
    ·cases hg:o.guard with
     |none=>rfl
     |some d=>simp[hg]at q3
    ·have h3:=(za5.1 q4) j (List.mem_range.2 hj)
     simp only[Bool.or_eq_true]at h3
     rcases h3 with h3 |h3
     ·exact zbg.1 h3
     ·rw[zba]at h3
      split at h3
      ·rename_i p hp
       simp only[zb5,hp,Option.bind_some]at hjs
       simp[hjs,zbg.2 hs]at h3
      ·cases h3
   ·cases q1
 ·have hil:i<l.length:=Nat.lt_of_lt_of_le hi hle
  obtain⟨p,hp,h1,_⟩:=(front i _ hi (List.getElem?_eq_getElem hil)).2 j hj
  simp only[zb5,hp,List.getElem?_eq_getElem hil,Option.bind_some]at hjt hit
  simp[hjt,hit]at h1
 ·have:=(front i o hi ho).1
  simp only[hg,Bool.and_eq_true]at this
  exact⟨zbg.1 this.1,blt.1 this.2⟩
 ·obtain⟨p,hp,_,h2⟩:=(front i o hi ho).2 j hj
  simp only[zb5,hp,Option.bind_some]at hjt
  simp only[hjt,zbg.2 ht,Bool.not_true,Bool.false_and,Bool.or_false]at h2
  exact zbg.1 h2
 ·have hil:i<l.length:=Nat.lt_of_lt_of_le hi hle
  obtain⟨p',hp',_,h2⟩:=(front i _ hi (List.getElem?_eq_getElem hil)).2 j hj
  rw[hp]at hp'
  cases hp'
  simp only[zb5,List.getElem?_eq_getElem hil,Option.bind_some]at hit
  simp only[hit,zbg.2 ht,Bool.not_true,Bool.and_false,Bool.or_false]at h2
  exact zbg.1 h2
theorem zbbb(h:zjv l=true):Looks l (zap [] l) (zca l):=zvj h
theorem zcyb(hL:Looks l (zap [] l) m){i:Nat}{o:Oper}(ho:l[i]?=some o):lget (zap [] l) i=some (za1 o++(za1 o).flatMap λe=>(lget (zap [] l) e).getD []):=by
 have:=zmx (r:=l) (acc:=[]) (j:=i) (o:=o) (λk p hp e he=>by simpa using hL.edge k p hp e he) ho
 simp only[List.length_nil,Nat.zero_add]at this
 rw[zba,this]
 simp only[zba]
theorem z2n{i:Nat}(hi:l.length<=i):(lget (zap [] l) i).getD []=[]:=by
 have hlen: ∀(r:List Oper) (acc:List (List Nat)),(zap acc r).length=acc.length+r.length:=λr=>by
  induction r with
  |nil=>intro acc;simp[zap]
  |cons o r ih=>intro acc;simp only[zap];rw[ih];simp;omega
 rw[zba,List.getElem?_eq_none (by rw[hlen];simpa using hi)]
 rfl
theorem zow(hL:Looks l (zap [] l) m){D:Nat->Prop}(hc: ∀i o,D i->l[i]?=some o->∀e∈za1 o,D e): ∀i,D i->∀j∈(lget (zap [] l) i).getD [],D j:=by
 intro i
 induction i using Nat.strongRecOn with
 |_ i ih=>
  intro hi j hj
  rcases Nat.lt_or_ge i l.length with hil |hil
  ·have ho:=List.getElem?_eq_getElem hil
   rw[zcyb hL ho]at hj
   simp only[Option.getD_some]at hj
   rcases List.mem_append.1 hj with hj |hj
   ·exact hc i _ hi ho j hj
   ·obtain⟨e,he,hj⟩:=List.mem_flatMap.1 hj
    exact ih e (hL.edge i _ ho e he) (hc i _ hi ho e he) j hj
  ·rw[z2n hil]at hj;cases hj
theorem zb9b(hL:Looks l (zap [] l) m){D:Nat->Prop}(hc: ∀i o,D i->l[i]?=some o->∀e∈za1 o,D e){i:Nat}{o:Oper}(ho:l[i]?=some o)(he: ∀e∈za1 o,D e): ∀j∈(lget (zap [] l) i).getD [],D j:=by
 intro j hj
 rw[zcyb hL ho]at hj
 simp only[Option.getD_some]at hj
 rcases List.mem_append.1 hj with hj |hj
 ·exact he j hj
 ·obtain⟨e,he',hj⟩:=List.mem_flatMap.1 hj
  exact zow hL hc e (he e he') j hj
theorem zmz{p:Nat->Prop}(h: ∃n,p n): ∃n,p n/\∀m,p m->n<=m:=by
 obtain⟨n,hn⟩:=h
 induction n using Nat.strongRecOn with
 |_ n ih=>
  by_cases hm: ∃m,m<n/\p m
  ·obtain⟨m,hlt,hp⟩:=hm
   exact ih m hlt hp
  ·exact⟨n,hn,λm hp=>Nat.le_of_not_lt λhlt=>hm ⟨m,hlt,hp⟩⟩
def Now(P:Program)(T:TT)(B:Bs)(N:Nat)(l:List Oper)(S0:St)(res:RS)(m:Nat)(K:St->Prop)(D:Nat->Prop)(a:Act)(w:World):Prop:=
 (∃k g F O,Mid B N l S0 res m D none a w k g F O)\/(∃k g F O id o',Mid B N l S0 res m D (some (id,o')) a w k g F O/\D m/\m<l.length/\(∀j oj,j<m->¬D j->l[j]?=some oj->id∉zbb (Ls l S0 res j) oj)/\runv P T l (l.drop (m+1)) ((Ls l S0 res m).set id (some o')) K)\/∃t S k,m<=t/\t<=l.length/\(∀j,D j↔j<t)/\Sat B N S a w k/\runv P T l (l.drop t) S K
theorem zfbb(hL:Looks l (zap [] l) m){D:Nat->Prop}{F:Nat->Option TF}{O:Nat->Option Ow}(h:Mid B N l S0 res m D none a w k g F O)(hall: ∀j,j<m->D j):Sat B N (Ls l S0 res m) a w k:=by
 obtain⟨e1,e2⟩:=(h.lk.congr (D':=λj=>j<m) λj hj=>⟨λ_=>hj,λ_=>hall j hj⟩).unique (Lk.lex hL.le hL.dst m (Nat.le_refl _))
 have:=h.sat
 rw[e1,e2]at this
 exact⟨g,this.toE⟩
theorem zbtb(hL:Looks l (zap [] l) m){D:Nat->Prop}{F:Nat->Option TF}{O:Nat->Option Ow}{id:Nat}{o':Ow}(h:Mid B N l S0 res m D (some (id,o')) a w k g F O)(hall: ∀j,j<m->D j):Sat B N ((Ls l S0 res m).set id (some o')) a w k:=by
 obtain⟨e1,e2⟩:=(h.lk.congr (D':=λj=>j<m) λj hj=>⟨λ_=>hj,λ_=>hall j hj⟩).unique (Lk.lex hL.le hL.dst m (Nat.le_refl _))
 have:=h.sat
 rw[e1,e2]at this
 have e3:ovr (some (id,o')) (oget (Ls l S0 res m).O)=oget ((Ls l S0 res m).set id (some o')).O:=by
  funext j
  simp only[St.set,ovr,updO,oget]
  by_cases hj:j=id
  ·subst hj;simp
  ·have hb:Nat.beq id j=false:=by
    cases hb:Nat.beq id j
    ·rfl
    ·exact absurd (Nat.eq_of_beq_eq_true hb).symm hj
   rw[hb,if_neg hj]
 rw[e3]at this
 exact⟨g,SatF.toE (S:=(Ls l S0 res m).set id (some o')) this⟩
theorem zyq(hL:Looks l (zap [] l) m){K:St->Prop}(hrun:runv P T l (l.drop m) (Ls l S0 res m) K){D:Nat->Prop}(h:Now P T B N l S0 res m K D a w):
  (∃k g F O j0,Mid B N l S0 res m D none a w k g F O/\j0<m/\¬D j0)\/(∃k g F O id o' j0,Mid B N l S0 res m D (some (id,o')) a w k g F O/\D m/\m<l.length/\(∀j oj,j<m->¬D j->l[j]?=some oj->id∉zbb (Ls l S0 res j) oj)/\runv P T l (l.drop (m+1)) ((Ls l S0 res m).set id (some o')) K/\j0<m/\¬D j0)\/∃t S k,m<=t/\t<=l.length/\(∀j,D j↔j<t)/\Sat B N S a w k/\runv P T l (l.drop t) S K:=by
 rcases h with⟨k,g,F,O,h⟩ |⟨k,g,F,O,id,o',h,hDm,hml,hid,hrun'⟩ |h
 ·by_cases hx: ∃j0,j0<m/\¬D j0
  ·obtain⟨j0,h1,h2⟩:=hx
   exact .inl ⟨k,g,F,O,j0,h,h1,h2⟩
  ·have hall: ∀j,j<m->D j:=λj hj=>Classical.byContradiction λhn=>hx ⟨j,hj,hn⟩
   refine .inr (.inr ⟨m,_,k,Nat.le_refl _,hL.le,λj=>⟨λhj=>?_,hall j⟩,zfbb hL h hall,hrun⟩)
   exact Classical.byContradiction λhn=>absurd (h.below j (by omega) hj).2 (by simp)
 ·by_cases hx: ∃j0,j0<m/\¬D j0
  ·obtain⟨j0,h1,h2⟩:=hx
   exact .inr (.inl ⟨k,g,F,O,id,o',j0,h,hDm,hml,hid,hrun',h1,h2⟩)
  ·have hall: ∀j,j<m->D j:=λj hj=>Classical.byContradiction λhn=>hx ⟨j,hj,hn⟩
   refine .inr (.inr ⟨m+1,_,k,Nat.le_succ _,hml,λj=>⟨λhj=>?_,λhj=>?_⟩,zbtb hL h hall,hrun'⟩)
   ·rcases Nat.lt_or_ge j m with hlt |hge
    ·omega
    ·have:=(h.below j hge hj).1;omega
   ·rcases Nat.lt_or_ge j m with hlt |hge
    ·exact hall j hlt
    ·obtain rfl:j=m:=by omega
     exact hDm
 ·exact .inr (.inr h)
theorem z9m(hm:P.follows .mixedOrders=true)(hT:TOk P T)(hN: ∀o∈l,∀d,o.dst=some d->d<N)(hL:Looks l (zap [] l) m)(hstp: ∀j,j<m->Stp P T l (zap [] l) S0 res j)
  (h0: ∀id o,oget S0.O id=some o->id<S0.nx) {K:St->Prop} (hend:zh1 l (zap [] l) S0 res m) (hrun:runv P T l (l.drop m) (Ls l S0 res m) K) (hQ: ∀S' a' w' k',K S'->Sat B N S' a' w' k'->Q .normal a' w'):
  ∀(fuel:Nat) (listed:Array Bool) (a:Act) (w:World),listed.size=l.length->listed.toList.count false=fuel->
   (∀i o,listed.getD i false=true->l[i]?=some o->∀e∈za1 o,listed.getD e false=true)->Now P T B N l S0 res m K (λj=>listed.getD j false=true) a w->wpAny P .any l.toArray Q fuel listed a w:=by
 intro fuel
 induction fuel with
 |zero=>
  intro listed a w hsz hcnt hcl hnow
  have hall: ∀i,i<l.length->listed.getD i false=true:=λi hi=>by
   have hlt:i<listed.size:=by omega
   have hne:=List.count_eq_zero.1 hcnt
   have hmem:listed[i]∈listed.toList:=by simp
   cases hb:listed[i]with
   |true=>simp[hlt,hb]
   |false=>rw[hb]at hmem;exact absurd hmem hne
  have hempty:Region.ready .any l.toArray listed=[]:=by
   cases hr:Region.ready .any l.toArray listed with
   |nil=>rfl
   |cons x xs=>
    have hx:x∈Region.ready .any l.toArray listed:=by rw[hr];simp
    obtain⟨h1,o,ho,_⟩:=mem_ready.1 hx
    have hxl:x<l.length:=by
     have:=(Array.getElem?_eq_some_iff.1 ho).1
     simpa using this
    have:=hall x hxl
    have hlt:x<listed.size:=by omega
    simp[hlt]at h1 this
    rw[h1]at this;cases this
  refine⟨hempty,?_⟩
  rcases zyq hL hrun hnow with⟨k,g,F,O,j0,h,h1,h2⟩ |⟨k,g,F,O,id,o',j0,h,_,_,_,_,h1,h2⟩ |⟨t,S,k,h1,h2,h3,h4,h5⟩
  ·exact absurd (hall j0 (by have:=hL.le;omega)) h2
  ·exact absurd (hall j0 (by have:=hL.le;omega)) h2
  ·obtain rfl:t=l.length:=by
    rcases Nat.lt_or_ge t l.length with h |h
    ·have:=(h3 t).1 (hall t h);omega
    ·omega
   rw[List.drop_length]at h5
   exact hQ S a w k h5 h4
 |succ fuel ih=>
  intro listed a w hsz hcnt hcl hnow
  have unl: ∀i,i<l.length->(listed.getD i true=false↔¬listed.getD i false=true):=λi hi=>by
   have hlt:i<listed.size:=by omega
   simp[hlt]
  refine⟨λhempty=>?_,λi hi=>?_⟩
  ·--somebody is ready
   exfalso
   have hmem:false∈listed.toList:=by
    rcases Classical.em (false∈listed.toList)with h |h
    ·exact h
    ·rw[List.count_eq_zero.2 h]at hcnt;cases hcnt
   obtain⟨i,hi⟩:=List.getElem?_of_mem hmem
   have hex: ∃i,i<l.length/\¬listed.getD i false=true:=by
    have hlt:=(List.getElem?_eq_some_iff.1 hi).1
    rw[Array.length_toList]at hlt
    refine⟨i,by omega,?_⟩
    have:listed[i]?=some false:=by simpa using hi
    simp[this]
   obtain⟨i,⟨hil,hin⟩,hleast⟩:=zmz hex
   have hrd:i∈Region.ready .any l.toArray listed:=by
    refine mem_ready.2 ⟨(unl i hil).2 hin,l[i],by simp[hil],λe he hb=>?_⟩
    have hee:e.on∈za1 l[i]:=List.mem_filterMap.2 ⟨e,by simpa using he,by simp[hb]⟩
    have hlt:=hL.edge i _ (List.getElem?_eq_getElem hil) _ hee
    exact Classical.byContradiction λhn=>by
     have:=hleast e.on ⟨by omega,hn⟩
     omega
   rw[hempty]at hrd
   cases hrd
  ·obtain⟨h1,o,ho,hedge⟩:=mem_ready.1 hi
   have hoi:l[i]?=some o:=by simpa using ho
   have hil:i<l.length:=(List.getElem?_eq_some_iff.1 hoi).1
   have hni: ¬listed.getD i false=true:=(unl i hil).1 h1
   have hed: ∀e∈za1 o,listed.getD e false=true:=λe he=>by
    obtain⟨x,hx,hxe⟩:=List.mem_filterMap.1 he
    split at hxe
    ·rename_i hb
     cases hxe
     exact hedge x (by simpa using hx) hb
    ·cases hxe
   have hws:=zb9b (D:=λj=>listed.getD j false=true) hL hcl hoi hed
   have hget: ∀j,(listed.setIfInBounds i true).getD j false=true↔(listed.getD j false=true\/j=i):=λj=>by
    have hlt:i<listed.size:=by omega
    by_cases hji:j=i
    ·subst hji;simp[hlt]
    ·have:i≠j:=λe=>hji e.symm
     simp[Array.getElem?_setIfInBounds_ne this,hji]
   have hcl': ∀x p,(listed.setIfInBounds i true).getD x false=true->l[x]?=some p->∀e∈za1 p,(listed.setIfInBounds i true).getD e false=true:=λx p hx hp e he=>by
    rw[hget]
    rcases(hget x).1 hx with hx |rfl
    ·exact .inl (hcl x p hx hp e he)
    ·rw[hoi]at hp;cases hp
     exact .inl (hed e he)
   have hcnt':(listed.setIfInBounds i true).toList.count false=fuel:=by
    have hlt:i<listed.toList.length:=by rw[Array.length_toList];omega
    have hlt':i<listed.size:=by omega
    have hv:listed.toList[i]=false:=by
     have:listed[i]?=some listed[i]:=Array.getElem?_eq_getElem hlt'
     simp[hlt']at hni
     simpa using hni
    rw[Array.toList_setIfInBounds,List.count_set hlt,hcnt,hv]
    simp
   have next: ∀a' w',Now P T B N l S0 res m K (λj=>(listed.setIfInBounds i true).getD j false=true) a' w'->wpAny P .any l.toArray Q fuel (listed.setIfInBounds i true) a' w':=
    λa' w' h=>ih _ a' w' (by simpa using hsz) hcnt' hcl' h
   rcases zyq hL hrun hnow with⟨k,g,F,O,j0,h,hj0,hn0⟩ |⟨k,g,F,O,id,o',j0,h,hDm,hml,hid,hrun2,hj0,hn0⟩ |⟨t,S,k,ht1,ht2,ht3,hsat,hrv⟩
   ·rcases Nat.lt_or_ge i m with him |hge
    case inr=>
     obtain rfl:i=m:=by
      rcases Nat.eq_or_lt_of_le hge with e |hlt
      ·exact e.symm
      ·exact absurd (hws j0 (hL.back i hlt hil j0 (by omega))) hn0
     rcases hL.late o hoi with hall |⟨t,x,y,hop,hdst,hgrd,hrd⟩
     ·exact absurd (hws j0 (hall j0 hj0)) hn0
     have hE:=hend o hoi
     simp only[Bool.or_eq_true]at hE
     rcases hE with hE |hE
     ·exact absurd (hws j0 (zbg.1 ((za5.1 hE) j0 (List.mem_range.2 hj0)))) hn0
     simp only[zt0,hop,Bool.and_eq_true]at hE
     obtain⟨hneed,hE⟩:=hE
     have hdrop:l.drop i=o::l.drop (i+1):=by
      rw[List.drop_eq_getElem_cons hil]
      congr 1
      have:=List.getElem?_eq_getElem hil
      rw[hoi]at this
      exact(Option.some.inj this).symm
     have hrun':=hrun
     rw[hdrop]at hrun'
     have hex:znc (Ls l S0 res i) x=false:=z9o λe=>by
      rw[e]at hE
      cases hE
     simp only[runv,hgrd,zgo,zic,hop,hex,hdst]at hrun'
     obtain⟨id,o',hid,hK,hwp⟩:=z7z (Q:=Q) hT hL ⟨hoi,hop,hdst,hgrd,hneed,hrd⟩ h hni hws hrun'
     rw[hid]at hE
     simp only at hE
     unfold wpOp
     simp only[ho]
     rw[if_pos (by simp[Region.wanted,hgrd])]
     refine .inl (Oper.wp_mono ?_ hwp)
     rintro a' w' ⟨k',g',h'⟩
     refine next a' w' (.inr (.inl ⟨k',g',F,O,id,o',⟨h'.sat,h'.lk.congr λj _=>(hget j).symm,λt f hf id hid=>(h'.kF t f hf id hid).mono λj hj=>(hget j).2 hj,λx o' ho' id hid=>(h'.kO x o' ho' id hid).mono λj hj=>(hget j).2 hj,λx q e=>⟨(h'.kx x q e).1.mono λj hj=>(hget j).2 hj,λz hz=>((h'.kx x q e).2 z hz).mono λj hj=>(hget j).2 hj⟩,λx hx hh=>h'.below x hx ((hget x).1 hh)⟩,(hget i).2 (.inr rfl),hil,λj oj hj hnj hoj=>?_,hK⟩))
     have:=(za5.1 hE) _ (z5j hj hoj)
     simp only[Bool.or_eq_true,Bool.not_eq_true']at this
     rcases this with this |this
     ·exact absurd ((hget j).2 (.inl (hws j (zbg.1 this)))) hnj
     ·intro hm
      rw[zbg.2 hm]at this
      cases this
    refine zyk hm hT hN hL hstp h0 h (λx o' o e=>by cases e) him hni hws (zow hL hcl) λa' w' k' g' F' O' h'=>next a' w' (.inl ⟨k',g',F',O',?_⟩)
    exact⟨h'.sat,h'.lk.congr λj _=>(hget j).symm,λt f hf id hid=>(h'.kF t f hf id hid).mono λj hj=>(hget j).2 hj,λx o' ho' id hid=>(h'.kO x o' ho' id hid).mono λj hj=>(hget j).2 hj,λx o e=>(by cases e),λx hx hh=>h'.below x hx ((hget x).1 hh)⟩
   ·have him:i<m:=by
     rcases Nat.lt_or_ge i m with h1 |h1
     ·exact h1
     ·rcases Nat.eq_or_lt_of_le h1 with e |hlt
      ·exact absurd (e▸hDm) hni
      ·exact absurd (hws j0 (hL.back i hlt hil j0 (by omega))) hn0
    refine zyk hm hT hN hL hstp h0 h (λx q o2 e ho2=>by cases e;exact hid i o2 him hni ho2) him hni hws (zow hL hcl) λa' w' k' g' F' O' h'=>next a' w' (.inr (.inl ⟨k',g',F',O',id,o',?_,(hget m).2 (.inl hDm),hml,λj oj hj hnj hoj=>hid j oj hj (λhh=>hnj ((hget j).2 (.inl hh))) hoj,hrun2⟩))
    exact⟨h'.sat,h'.lk.congr λj _=>(hget j).symm,λt f hf id hid=>(h'.kF t f hf id hid).mono λj hj=>(hget j).2 hj,λx o' ho' id hid=>(h'.kO x o' ho' id hid).mono λj hj=>(hget j).2 hj,λx q e=>⟨(h'.kx x q e).1.mono λj hj=>(hget j).2 hj,λz hz=>((h'.kx x q e).2 z hz).mono λj hj=>(hget j).2 hj⟩,λx hx hh=>h'.below x hx ((hget x).1 hh)⟩
   ·have hit:i=t:=by
     have h1: ¬i<t:=λhh=>hni ((ht3 i).2 hh)
     rcases Nat.lt_or_ge t i with hlt |hge
     ·have h2:=(ht3 t).1 (hws t (hL.back i (by omega) hil t hlt))
      omega
     ·omega
    subst hit
    have hdrop:l.drop i=o::l.drop (i+1):=by
     rw[List.drop_eq_getElem_cons hil]
     congr 1
     have:=List.getElem?_eq_getElem hil
     rw[hoi]at this
     exact(Option.some.inj this).symm
    rw[hdrop]at hrv
    have hhd:=zoj (Q:=Q) hT (hN o (List.mem_of_getElem? hoi)) hsat hrv
    have nx2: ∀a' w',(∃S' k',runv P T l (l.drop (i+1)) S' K/\Sat B N S' a' w' k')->wpAny P .any l.toArray Q fuel (listed.setIfInBounds i true) a' w':=λa' w' ⟨S',k',hr',hs'⟩=>
     next a' w' (.inr (.inr ⟨i+1,S',k',by omega,by omega,λj=>(hget j).trans ((or_congr (ht3 j) Iff.rfl).trans (by omega)),hs',hr'⟩))
    unfold wpOp
    simp only[ho]
    split at hhd
    ·rename_i hw
     rw[if_pos hw]
     exact .inl (Oper.wp_mono nx2 hhd)
    ·rename_i hw
     rw[if_neg hw]
     exact nx2 _ _ hhd
theorem zj7(hm:P.follows .mixedOrders=true)(hT:TOk P T){ops:Array Oper}{S:St}(hN: ∀o∈ops.toList,∀d,o.dst=some d->d<N){K:St->Prop}(hs:Sat B N S a w k)(hL:Looks ops.toList (zap [] ops.toList) m)(hstp: ∀j,j<m->Stp P T ops.toList (zap [] ops.toList) S res j)(hend:zh1 ops.toList (zap [] ops.toList) S res m)(hrun:runv P T ops.toList (ops.toList.drop m) (Ls ops.toList S res m) K)(hQ: ∀S' a' w' k',K S'->Sat B N S' a' w' k'->Q .normal a' w'):wpAny P .any ops Q ops.size (Array.replicate ops.size false) a {w with drawn:=w.drawn+1}:=by
 obtain⟨g,hs⟩:=hs
 have h0: ∀i o,oget S.O i=some o->i<S.nx:=λi o ho=>(hs.owns i o ho).1
 have hs':SatE B N S a {w with drawn:=w.drawn+1} k g:=hs.ext (w':={w with drawn:=w.drawn+1}) ⟨rfl,rfl,rfl,Nat.le_refl _,λ_ _=>rfl⟩ λ_ _=>rfl
 have hnx:S.nx<=idAt ops.toList S res m:=by
  have:=zg0 (l:=ops.toList) (S0:=S) (res:=res) (Nat.zero_le m) hL.le
  simpa only[idAt,Ls]using this
 have:=z9m (Q:=Q) (B:=B) (N:=N) hm hT hN hL hstp h0 hend hrun hQ ops.size (Array.replicate ops.size false) a {w with drawn:=w.drawn+1} (by simp) (by simp) (λi o hi=>by
  exfalso
  rw[Array.getD_eq_getD_getElem?]at hi
  by_cases hlt:i<ops.size
  ·simp[hlt]at hi
  ·simp[hlt]at hi) (.inl ⟨k,g,fget S.F,oget S.O,?_⟩)
 ·simpa using this
 ·refine⟨hs'.toF hnx,⟨λj t hj=>absurd hj (by by_cases hlt:j<ops.size<;>simp[hlt]),λt _=>rfl,λj o hj=>absurd hj (by by_cases hlt:j<ops.size<;>simp[hlt]),λi _=>rfl⟩,λt f hf i hi=> .inl ?_,λi o ho j hj=> .inl ?_,λx o e=>(by cases e),λi _ hh=>absurd hh (by by_cases hlt:i<ops.size<;>simp[hlt])⟩
  ·have:=(hs.facts t f hf).1
   cases f<;>simp[zam]at hi<;>subst hi<;>exact this
  ·have:=(hs.owns i o ho).2.1
   cases o with
   |ch=>simp[zcm]at hj
   |gen=>simp[zcm]at hj
   |box cells=>
    obtain⟨f,hf,hid⟩:=List.mem_flatMap.1 hj
    have:=this f hf
    cases f<;>simp[zam]at hid<;>subst hid<;>exact this
theorem zkx(hm:P.follows .mixedOrders=true)(hT:TOk P T){ops:Array Oper}{S:St}(hN: ∀o∈ops.toList,∀d,o.dst=some d->d<N){K:St->Prop}(hs:Sat B N S a w k)(hok:zjv ops.toList=true)
  (h:rund P T ops.toList (zap [] ops.toList) S.nx 0 ops.toList S [] [] K) (hQ: ∀S' a' w' k',K S'->Sat B N S' a' w' k'->Q .normal a' w'):wpAny P .any ops Q ops.size (Array.replicate ops.size false) a {w with drawn:=w.drawn+1}:=by
 obtain⟨res,_,hstp,hend,hrun⟩:=zsx (l:=ops.toList) (S0:=S) (K:=K) ops.toList 0 (λ_=>(.r .any,none)) rfl h
 simp only[Nat.zero_add]at hstp hrun hend
 exact zj7 hm hT hN hs (zbbb hok) (λj hj=>hstp j (Nat.zero_le _) hj) hend hrun hQ
theorem zzz(hm:P.follows .mixedOrders=true)(hT:TOk P T){id:Nat}{ops:Array Oper}{S:St}(hN: ∀o∈ops.toList,∀d,o.dst=some d->d<N){K:St->Prop}(hs:Sat B N S a w k)
  (h:Vcut_ P T ops.toList S K) (hQ: ∀S' a' w' k',K S'->Sat B N S' a' w' k'->Q .normal a' w'):(Code.region id ops true).wp P Q a w:=by
 obtain⟨m,hok,h⟩:=h
 obtain⟨res,_,hstp,hend,hrun⟩:=zqb (l:=ops.toList) (S0:=S) (K:=K) m ops.toList 0 (λ_=>(.r .any,none)) rfl h
 simp only[Nat.zero_add]at hstp hrun hend
 exact wp_region_any hm (zj7 hm hT hN hs (zvj hok) (λj hj=>hstp j (Nat.zero_le _) hj) hend hrun hQ)
theorem zwm(hm:P.follows .mixedOrders=true)(hT:TOk P T){id:Nat}{ops:Array Oper}{S:St}(hN: ∀o∈ops.toList,∀d,o.dst=some d->d<N){K:St->Prop}(hs:Sat B N S a w k)(hok:zjv ops.toList=true)
  (h:rund P T ops.toList (zap [] ops.toList) S.nx 0 ops.toList S [] [] K) (hQ: ∀S' a' w' k',K S'->Sat B N S' a' w' k'->Q .normal a' w'):(Code.region id ops true).wp P Q a w:=
 wp_region_any hm (zkx hm hT hN hs hok h hQ)
theorem zon: ∀{l l':List Oper} {o:Oper},zg2 l=some (l',o)->l=l'++[o]
 |[],_,_,h=>by simp[zg2]at h
 |x::r,l',o,h=>by
  simp only[zg2]at h
  split at h
  ·rename_i l2 y hr
   cases h
   rw[zon hr];rfl
  ·rename_i hr
   cases h
   cases r with
   |nil=>rfl
   |cons y r=>
    simp only[zg2]at hr
    split at hr<;>cases hr
theorem z3d{l:List Oper}{o:Oper}{d:Nat}{v:Value}(h:z3c l o=some (d,v)):
  o.op= .move (.const v)/\o.dst=some d/\o.guard=none/\o.after= #[]/\∀p∈l,d∉zed p/\p.dst≠some d/\(∀cs b,p.op≠ .select cs b)/\∀g b,p.guard=some (g,b)->g<l.length:=by
 unfold z3c at h
 split at h
 ·rename_i v' d' h1 h2 h3 h4
  split at h
  ·rename_i hall
   cases h
   refine⟨h1,h2,h3,by apply Array.ext';simpa using h4,λp hp=>?_⟩
   have:=(za5.1 hall) p hp
   simp only[Bool.and_eq_true,Bool.not_eq_true']at this
   obtain⟨q1,q2,q3,q4⟩:=this
   refine⟨λhm=>?_,λe=>?_,λcs b e=>?_,λg b e=>?_⟩
   ·rw[zbg.2 hm]at q1;cases q1
   ·rw[e]at q2;simp at q2
   ·rw[e]at q3;simp[zcjb]at q3
   ·rw[e]at q4;simp[Nat.blt]at q4;omega
  ·cases h
 ·cases h
theorem z5g{l:List Oper}{o:Oper}(hed: ∀(j:Nat) (p:Oper),l[j]?=some p->∀e∈p.after,Region.binds .any e=true->e.on<l.length)(hg: ∀(j:Nat) (p:Oper),l[j]?=some p->∀g b,p.guard=some (g,b)->g<l.length):
  ∀(fuel:Nat) (listed:Array Bool) (a:Act) (w:World),listed.size=l.length->wpAny P .any l.toArray Q fuel listed a w->wpAny P .any (l++[o]).toArray Q fuel (listed.push true) a w:=by
 have hready: ∀(listed:Array Bool),listed.size=l.length->∀j,j∈Region.ready .any (l++[o]).toArray (listed.push true)↔j∈Region.ready .any l.toArray listed:=by
  intro listed hsz j
  rw[mem_ready,mem_ready]
  simp only[List.getElem?_toArray,Array.getD_eq_getD_getElem?,Array.getElem?_push,hsz]
  rcases Nat.lt_or_ge j l.length with hj |hj
  ·rw[if_neg (by omega),List.getElem?_append_left hj]
   constructor
   ·rintro⟨h0,p,hp,hall⟩
    refine⟨h0,p,hp,λe he hb=>?_⟩
    have:=hall e he hb
    rwa[if_neg (by have:=hed j p hp e he hb;omega)]at this
   ·rintro⟨h0,p,hp,hall⟩
    refine⟨h0,p,hp,λe he hb=>?_⟩
    rw[if_neg (by have:=hed j p hp e he hb;omega)]
    exact hall e he hb
  ·constructor
   ·rintro⟨h0,_⟩
    split at h0
    ·simp at h0
    ·rw[Array.getElem?_eq_none (by omega)]at h0;simp at h0
   ·rintro⟨h0,p,hp,_⟩
    rw[List.getElem?_eq_none hj]at hp;cases hp
 intro fuel
 induction fuel with
 |zero=>
  intro listed a w hsz h
  refine⟨?_,h.2⟩
  rw[List.eq_nil_iff_forall_not_mem]
  intro j hj
  have:=(hready listed hsz j).1 hj
  rw[h.1]at this;simp at this
 |succ fuel ih=>
  intro listed a w hsz h
  refine⟨λhe=>h.1 ?_,λj hj=>?_⟩
  ·rw[List.eq_nil_iff_forall_not_mem]
   intro j hj
   have:=(hready listed hsz j).2 hj
   rw[he]at this;simp at this
  ·have hj':=(hready listed hsz j).1 hj
   have hw:=h.2 j hj'
   have hlt:j<l.length:=by
    obtain⟨_,p,hp,_⟩:=mem_ready.1 hj'
    simpa using(Array.getElem?_eq_some_iff.1 hp).1
   have e1:(listed.push true).setIfInBounds j true=(listed.setIfInBounds j true).push true:=by
    apply Array.ext'
    simp only[Array.toList_setIfInBounds,Array.toList_push]
    rw[List.set_append_left _ _ (by rw[Array.length_toList];omega)]
   rw[e1]
   obtain⟨p,hp⟩: ∃p,l[j]?=some p:=⟨l[j],List.getElem?_eq_getElem hlt⟩
   unfold wpOp at hw⊢
   have hp1:l.toArray[j]?=some p:=by simpa using hp
   have hp2:(l++[o]).toArray[j]?=some p:=by simpa[List.getElem?_append_left hlt]using hp
   rw[hp1]at hw
   rw[hp2]
   simp only at hw⊢
   have hwant:Region.wanted p (yielded (l++[o]).toArray a.tmps)=Region.wanted p (yielded l.toArray a.tmps):=by
    unfold Region.wanted
    cases hpg:p.guard with
    |none=>rfl
    |some gw=>
     obtain⟨gi,b⟩:=gw
     have:=hg j p hp gi b hpg
     simp only[yielded,List.getElem?_toArray,List.getElem?_append_left this]
   rw[hwant]
   split at hw
   ·rename_i hc
    rw[if_pos hc]
    rcases hw with hw |hw
    ·exact .inl (Oper.wp_mono (λa' w' h'=>ih _ a' w' (by simpa using hsz) h') hw)
    ·exact .inr hw
   ·rename_i hc
    rw[if_neg hc]
    exact ih _ _ _ (by simpa using hsz) hw
theorem zwn(hm:P.follows .mixedOrders=true)(hT:TOk P T){id:Nat}{ops:Array Oper}{S:St}(hN: ∀o∈ops.toList,∀d,o.dst=some d->d<N){K:St->Prop}(hs:Sat B N S a w k)
  {l:List Oper} {d:Nat} {v:Value} (hf:zqq ops.toList=some (l,d,v)) (hok:zjv l=true)
  (h:rund P T l (zap [] l) S.nx 0 l (S.put (some d) (.r (ofC v))) [] [] K) (hQ: ∀S' a' w' k',K S'->Sat B N S' a' w' k'->Q .normal a' w'):(Code.region id ops true).wp P Q a w:=by
 unfold zqq at hf
 split at hf
 ·rename_i l' o hsp
  split at hf
  ·rename_i d' v' hfb
   cases hf
   have hops:ops=(l++[o]).toArray:=by apply Array.ext';simpa using zon hsp
   subst hops
   obtain⟨hop,hdst,hgd,haf,hall⟩:=z3d hfb
   have hlim: ∀(j:Nat) (p:Oper),l[j]?=some p->(∀e∈p.after,Region.binds .any e=true->e.on<l.length)/\∀g b,p.guard=some (g,b)->g<l.length:=by
    intro j p hp
    have hj:=(List.getElem?_eq_some_iff.1 hp).1
    simp only[zjv,zjh,Bool.and_eq_true]at hok
    have h1:=(za5.1 hok.2) j (List.mem_range.2 hj)
    simp only[zba,hp]at h1
    simp only[zju,Bool.and_eq_true]at h1
    refine⟨λe he hb=>?_,λg b hpg=>?_⟩
    ·have:=(za5.1 h1.1) e.on (List.mem_filterMap.2 ⟨e,by simpa using he,by simp[hb]⟩)
     simp[Nat.blt]at this
     omega
    ·exact(hall p (List.mem_of_getElem? hp)).2.2.2 g b hpg
   let Qn:Exit->Act->World->Prop:=λe a w=>match e with
    | .normal=>Q .normal a w
    |_=>False
   obtain⟨g,hs⟩:=hs
   have hd:d<N:=hN o (by simp) d hdst
   have hput:Sat B N (S.put (some d) (.r (ofC v))) (a.put (some d) v) w k:=⟨g,hs.put (λx hx=>by cases hx;exact hd) trivial (zyr v)⟩
   have hstart:=zkx (Q:=Qn) (ops:=l.toArray) hm hT (λp hp=>hN p (by simp at hp⊢;exact .inl hp)) hput (by simpa using hok) (by rw[List.toList_toArray];exact h) hQ
   have hpush:=z5g (Q:=Qn) (o:=o) (λj p hp=>(hlim j p hp).1) (λj p hp=>(hlim j p hp).2) _ _ _ _ (by simp) hstart
   have hoi:((l++[o]).toArray)[l.length]?=some o:=by simp
   have hfirst:=wpAny_first (Q:=Qn) (md:= .any) (v:=v) hoi (λj p cs b hp e=>by
    have hp':(l++[o])[j]?=some p:=by simpa using hp
    rcases Nat.lt_or_ge j l.length with hj |hj
    ·rw[List.getElem?_append_left hj]at hp'
     exact(hall p (List.mem_of_getElem? hp')).2.2.1 cs b e
    ·rw[List.getElem?_append_right hj]at hp'
     have:j-l.length=0:=by have:=(List.getElem?_eq_some_iff.1 hp').1;simp at this;omega
     rw[this]at hp'
     simp at hp'
     rw[<-hp',hop]at e;cases e) (λc a w h=>h.elim) l.length (Array.replicate (l.length+1) false) a {w with drawn:=w.drawn+1} (λj p hp hne hun hno=>by
    have hp':(l++[o])[j]?=some p:=by simpa using hp
    have hj:j<l.length:=by have:=(List.getElem?_eq_some_iff.1 hp').1;simp at this;omega
    rw[List.getElem?_append_left hj]at hp'
    obtain⟨q1,q2,q3,q4⟩:=hall p (List.mem_of_getElem? hp')
    have hlook:d∉p.looksAt (l++[o]).toArray:=by
     intro hm
     rcases List.mem_append.1 hm with hm |hm
     ·exact q1 hm
     ·cases hpg:p.guard with
      |none=>simp[hpg]at hm
      |some gw=>
       obtain⟨gi,b⟩:=gw
       have hgl:=q4 gi b hpg
       simp only[hpg,List.getElem?_toArray,List.getElem?_append_left hgl,Option.mem_toList]at hm
       rw[List.getElem?_eq_getElem hgl]at hm
       exact(hall _ (List.getElem_mem hgl)).2.1 (by simpa using hm)
    have hlook0: ∀x,x∉o.looksAt (l++[o]).toArray:=λx hx=>by
     simp[Oper.looksAt,hop,hgd,Op.operands]at hx
    unfold Oper.apart
    rw[hdst]
    simp only[Bool.and_eq_true,Bool.not_eq_true',bne_iff_ne,ne_eq]
    refine⟨⟨by simpa using hlook,q2⟩,?_⟩
    cases p.dst with
    |none=>rfl
    |some x=>simpa using hlook0 x) (by
    rw[mem_ready]
    exact⟨by simp,o,hoi,λe he=>by rw[haf]at he;simp at he⟩) (.inl ⟨by simp[Region.wanted,hgd],λw=>by simp[execOp,hop,Act.eval]⟩) (by
    have e1:(Array.replicate (l.length+1) false).setIfInBounds l.length true=(Array.replicate l.toArray.size false).push true:=by
     apply Array.ext'
     simp only[Array.toList_setIfInBounds,Array.toList_push,Array.toList_replicate,List.size_toArray]
     rw[List.replicate_succ',List.set_append_right _ _ (by simp)]
     simp
    rw[e1,hdst]
    exact hpush)
   have hreg:(Code.region id (l++[o]).toArray true).wp P Qn a w:=wp_region_any hm (by simpa using hfirst)
   intro b kk cs
   obtain⟨e,a',w',q,r⟩:=hreg b kk cs
   refine⟨e,a',w',?_,r⟩
   cases e with
   |normal=>exact q
   |_=>exact q.elim
  ·cases hf
 ·cases hf
end
end Go.Proofs.YtoegdgbghdnnfaaGreat.Sx
