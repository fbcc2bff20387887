import Derived.Test.YtkegaaonpekkgaaGreatZSxU
import Derived.Test.YtkegaaonpekkgaaGreatZTd
import Derived.Test.YtkegaaonpekkgaaGreatZTc
namespace Go.Proofs.YtkegaaonpekkgaaGreat.Sx
open Go.RowKit
structure FA where
 i:Nat
 d:Nat
 f:TF
 deps:List Nat
def zcf:List FA->Nat->Option FA
 |[],_=>none
 |x::r,i=>match Nat.beq x.i i with
  |true=>some x
  |false=>zcf r i
def faIn(A:List FA)(i:Nat):Bool:=match zcf A i with
 |some _=>true
 |none=>false
def depF(A:List FA):List Nat->List (Nat×TF)->List (Nat×TF)
 |[],Y=>Y
 |j::r,Y=>match zcf A j with
  |some x=>(x.d,x.f)::depF A r Y
  |none=>depF A r Y
def zkw:List FA->List (Nat×TF)
 |[]=>[]
 |x::r=>(x.d,x.f)::zkw r
def zp6(P:Program)(T:TT)(S:St)(o:Oper)(S2:St):Prop:=match o.op with
 | .buildSlice _ _ _=>zed P T S o (λS'=>Sub S' S2)\/Yld P S o S2
 |_=>zed P T S o (λS'=>Sub S' S2)
theorem z1z{P:Program}{T:TT}(hT:TOk P T){S S2:St}{o:Oper}(h:zp6 P T S o S2):Yld P S o S2:=by
 have sub:zed P T S o (λS'=>Sub S' S2)->Yld P S o S2:=λh B N a w k Q hs hd=>by
  refine Oper.wp_mono ?_ (zd6 (Q:=Q) hT hs hd h)
  rintro a' w' ⟨S',k',hsub,hs'⟩
  exact hsub B N a' w' k' hs'
 unfold zp6 at h
 split at h
 ·exact h.elim sub id
 ·exact sub h
def zjs(P:Program)(T:TT)(l:List Oper)(A:List FA)(F:List (Nat×TF))(O:List (Nat×Option Ow))(nx:Nat):List FA->Prop
 |[]=>True
 |x::r=>(match lget l x.i with
  |some o=>∀Y,zp6 P T ⟨F++depF A x.deps Y,O,nx⟩ o ⟨(x.d,x.f)::(F++depF A x.deps Y),O,nx⟩
  |none=>False)/\zjs P T l A F O nx r
def zjt(P:Program)(T:TT)(l:List Oper)(A:List FA)(E:List (Nat×TF)->List (Nat×Option Ow)->Nat->Prop):List (Nat×List Nat)->List (Nat×TF)->List (Nat×Option Ow)->Nat->Prop
 |[],F,O,nx=>allB (λx=> !(memB x.1 (A.map (·.d)))) F=true/\zjs P T l A F O nx A/\E F O nx
 |b::bs,F,O,nx=>allB (λx=> !(memB x.1 (A.map (·.d)))) F=true/\zjs P T l A F O nx A/\∃F' O' nx',(match lget l b.1 with
  |some o=>∀Y,zed P T ⟨F++depF A b.2 Y,O,nx⟩ o λS'=>Sub S' ⟨F'++depF A b.2 Y,O',nx'⟩
  |none=>False)/\zjt P T l A E bs F' O' nx'
def zkb:List Nat->Bool
 |[]=>true
 |x::r=>allB (λy=>Nat.blt x y) r&&zkb r
def zrr(l:List Oper)(m:Nat)(A:List FA)(bl:List (Nat×List Nat)):Bool:=
 let bs:=bl.map (·.1)
 let ws:=zak [] l
 Nat.ble m l.length&&(zej (A.map (·.d))&&(zej (A.map (·.i))&&(zkb bs&&(allB (λi=>Nat.blt i m&& !(faIn A i)) bs&&(allB (λx=>Nat.blt x.i m) A&&(allB (λb=>allB (λj=>memB j ((lget ws b.1).getD [])&&faIn A j) b.2) bl&&
 allB (λi=>match lget l i with
  |none=>false
  |some o=>allB (λe=>Nat.blt e i) (zam o)&&
   (if Nat.blt i m then(match o.guard with |none=>true |some _=>false)&&(match zcf A i with
    |some x=>allB (λj=>memB j ((lget ws i).getD [])&&faIn A j) x.deps
    |none=>memB i bs&&allB (λj=>faIn A j||memB j ((lget ws i).getD [])) (List.range i))
   else allB (λj=>memB j ((lget ws i).getD [])) (List.range i))) (List.range l.length)))))))
theorem zl8: ∀{A:List FA} {i:Nat} {x:FA},zcf A i=some x->x∈A/\x.i=i
 |[],i,x,h=>by simp[zcf]at h
 |y::r,i,x,h=>by
  simp only[zcf]at h
  split at h
  ·rename_i hb;cases h;exact⟨by simp,Nat.eq_of_beq_eq_true hb⟩
  ·have:=zl8 h;exact⟨List.mem_cons_of_mem _ this.1,this.2⟩
theorem zvf{A:List FA}{x:FA}(hn:(A.map (·.i)).Nodup)(hx:x∈A):zcf A x.i=some x:=by
 induction A with
 |nil=>cases hx
 |cons y r ih=>
  simp only[List.map_cons,List.nodup_cons]at hn
  rcases List.mem_cons.1 hx with rfl |hx
  ·simp[zcf]
  ·have:y.i≠x.i:=λe=>hn.1 (by rw[e];exact List.mem_map.2 ⟨x,hx,rfl⟩)
   simp only[zcf,zl4 this]
   exact ih hn.2 hx
theorem zp8{P:Program}{T:TT}{l:List Oper}{A:List FA}{F:List (Nat×TF)}{O:List (Nat×Option Ow)}{nx:Nat}: ∀{r:List FA},zjs P T l A F O nx r->∀x∈r,∃o,l[x.i]?=some o/\∀Y,zp6 P T ⟨F++depF A x.deps Y,O,nx⟩ o ⟨(x.d,x.f)::(F++depF A x.deps Y),O,nx⟩
 |[],_,x,hx=>by cases hx
 |y::r,h,x,hx=>by
  simp only[zjs]at h
  rcases List.mem_cons.1 hx with rfl |hx
  ·have h1:=h.1
   rw[zas]at h1
   split at h1
   ·rename_i o ho;exact⟨o,ho,h1⟩
   ·exact h1.elim
  ·exact zp8 h.2 x hx
def zf7b(A:List FA)(D:Nat->Prop)(t:Nat)(f:TF):Prop:=∃x∈A,D x.i/\x.d=t/\x.f=f
def FX(A:List FA)(D:Nat->Prop)(X:List (Nat×TF)):Prop:=∀t f,fget X t=some f↔zf7b A D t f
theorem zgkb{A:List FA}(hn:(A.map (·.d)).Nodup): ∀{x y:FA},x∈A->y∈A->x.d=y.d->x=y:=by
 induction A with
 |nil=>intro x y hx;cases hx
 |cons z r ih=>
  intro x y hx hy e
  simp only[List.map_cons,List.nodup_cons]at hn
  rcases List.mem_cons.1 hx with ex |hx2
  ·rcases List.mem_cons.1 hy with ey |hy2
   ·rw[ex,ey]
   ·exact absurd (List.mem_map.2 ⟨y,hy2,by rw[<-e,ex]⟩) hn.1
  ·rcases List.mem_cons.1 hy with ey |hy2
   ·exact absurd (List.mem_map.2 ⟨x,hx2,by rw[e,ey]⟩) hn.1
   ·exact ih hn.2 hx2 hy2 e
theorem z1w{A:List FA}(hn:(A.map (·.d)).Nodup): ∀t f,fget (zkw A) t=some f↔∃x∈A,x.d=t/\x.f=f:=by
 induction A with
 |nil=>intro t f;simp[zkw,fget]
 |cons y r ih=>
  intro t f
  simp only[List.map_cons,List.nodup_cons]at hn
  constructor
  ·intro h
   rcases zax h with⟨e,e'⟩ |⟨_,h⟩
   ·exact⟨y,by simp,e,e'.symm⟩
   ·obtain⟨x,hx,h1,h2⟩:=(ih hn.2 t f).1 h
    exact⟨x,List.mem_cons_of_mem _ hx,h1,h2⟩
  ·rintro⟨x,hx,h1,h2⟩
   simp only[zkw]
   rcases List.mem_cons.1 hx with rfl |hx
   ·rw[h1];simp[fget,h2]
   ·have:y.d≠t:=λe=>hn.1 (by rw[e,<-h1];exact List.mem_map.2 ⟨x,hx,rfl⟩)
    rw[zhr this]
    exact(ih hn.2 t f).2 ⟨x,hx,h1,h2⟩
section
variable {P:Program} {T:TT} {B:Bs} {N:Nat} {S:St} {a:Act} {w:World} {k:Kp} {g:Env} {Q:Exit->Act->World->Prop} {l:List Oper} {m:Nat} {A:List FA} {bl:List (Nat×List Nat)} {bs:List Nat}
theorem zi9{F F':List (Nat×TF)}{O:List (Nat×Option Ow)}{nx:Nat}(h: ∀t f,fget F' t=some f->fget F t=some f)(hs:Sat B N ⟨F,O,nx⟩ a w k):Sat B N ⟨F',O,nx⟩ a w k:=by
 obtain⟨g,hs⟩:=hs
 exact⟨g,hs.size,hs.defers,hs.keep,hs.kk,λt f hf=>hs.facts t f (h t f hf),hs.owns,hs.apart⟩
theorem zd1{F F':List (Nat×TF)}{t:Nat}(h:fget F t=none):fget (F++F') t=fget F' t:=by
 induction F with
 |nil=>rfl
 |cons x r ih=>
  obtain⟨x1,x2⟩:=x
  rw[List.cons_append]
  simp only[fget]at h⊢
  split at h
  ·cases h
  ·exact ih h
theorem zd2{F F':List (Nat×TF)}{t:Nat}{f:TF}(h:fget F t=some f):fget (F++F') t=some f:=by
 induction F with
 |nil=>simp[fget]at h
 |cons x r ih=>
  obtain⟨x1,x2⟩:=x
  rw[List.cons_append]
  simp only[fget]at h⊢
  split at h
  ·exact h
  ·exact ih h
theorem z42{F:List (Nat×TF)}{t:Nat}{f:TF}(h:fget F t=some f): ∃x∈F,x.1=t:=by
 induction F with
 |nil=>simp[fget]at h
 |cons x r ih=>
  obtain⟨x1,x2⟩:=x
  rcases zax h with⟨e,_⟩ |⟨_,h⟩
  ·exact⟨(x1,x2),by simp,e⟩
  ·obtain⟨y,hy,e⟩:=ih h;exact⟨y,List.mem_cons_of_mem _ hy,e⟩
structure FlOk (l:List Oper) (m:Nat) (A:List FA) (bl:List (Nat×List Nat)) (bs:List Nat):Prop where
 le:m<=l.length
 dd:(A.map (·.d)).Nodup
 ii:(A.map (·.i)).Nodup
 rises:zkb bs=true
 bsm: ∀i∈bs,i<m/\zcf A i=none
 am: ∀x∈A,x.i<m
 edge: ∀i o,l[i]?=some o->∀e∈zam o,e<i
 grd: ∀i o,i<m->l[i]?=some o->o.guard=none
 fa: ∀i x,i<m->i<l.length->zcf A i=some x->∀j∈x.deps,j∈(lget (zak [] l) i).getD []/\∃y,zcf A j=some y
 fb: ∀i,i<m->i<l.length->zcf A i=none->i∈bs/\∀j,j<i->zcf A j=none->j∈(lget (zak [] l) i).getD []
 back: ∀i,m<=i->i<l.length->∀j,j<i->j∈(lget (zak [] l) i).getD []
 fd: ∀b∈bl,∀j∈b.2,j∈(lget (zak [] l) b.1).getD []/\∃y,zcf A j=some y
theorem zc4b(h:zrr l m A bl=true):FlOk l m A bl (bl.map (·.1)):=by
 simp only[zrr,Bool.and_eq_true,Nat.ble_eq]at h
 obtain⟨h1,h2,h3,h4,h5,h55,h56,h6⟩:=h
 have blt: ∀{x y:Nat},Nat.blt x y=true↔x<y:=λ{x y}=>by simp[Nat.blt];omega
 have at_: ∀i o,l[i]?=some o->allB (λe=>Nat.blt e i) (zam o)=true/\
   (if Nat.blt i m then(match o.guard with |none=>true |some _=>false)&&(match zcf A i with
    |some x=>allB (λj=>memB j ((lget (zak [] l) i).getD [])&&faIn A j) x.deps
    |none=>memB i (bl.map (·.1))&&allB (λj=>faIn A j||memB j ((lget (zak [] l) i).getD [])) (List.range i))
   else allB (λj=>memB j ((lget (zak [] l) i).getD [])) (List.range i))=true:=λi o ho=>by
  have:=(zaq.1 h6) i (List.mem_range.2 (List.getElem?_eq_some_iff.1 ho).1)
  rw[zas,ho]at this
  simpa only[Bool.and_eq_true]using this
 have inA: ∀j,faIn A j=true->∃y,zcf A j=some y:=λj hj=>by
  unfold faIn at hj
  split at hj
  ·rename_i y hy;exact⟨y,hy⟩
  ·cases hj
 refine⟨h1,zb1 h2,zb1 h3,h4,λi hi=>?_,λx hx=>blt.1 ((zaq.1 h55) x hx),λi o ho e he=>?_,λi o hi ho=>?_,λi x hi hil hx j hj=>?_,λi hi hil hx=>?_,λi hi hil j hj=>?_,λb hb j hj=>?_⟩
 ·have:=(zaq.1 h5) i hi
  simp only[Bool.and_eq_true,Bool.not_eq_true']at this
  refine⟨blt.1 this.1,?_⟩
  have h7:=this.2
  unfold faIn at h7
  split at h7
  ·cases h7
  ·assumption
 ·exact blt.1 ((zaq.1 (at_ i o ho).1) e he)
 ·have:=(at_ i o ho).2
  rw[if_pos (blt.2 hi)]at this
  simp only[Bool.and_eq_true]at this
  have h7:=this.1
  split at h7
  ·assumption
  ·cases h7
 ·have:=(at_ i _ (List.getElem?_eq_getElem hil)).2
  rw[if_pos (blt.2 hi)]at this
  simp only[Bool.and_eq_true,hx]at this
  have h7:=(zaq.1 this.2) j hj
  simp only[Bool.and_eq_true]at h7
  exact⟨za3.1 h7.1,inA j h7.2⟩
 ·have:=(at_ i _ (List.getElem?_eq_getElem hil)).2
  rw[if_pos (blt.2 hi)]at this
  simp only[Bool.and_eq_true,hx]at this
  refine⟨za3.1 this.2.1,λj hj hjn=>?_⟩
  have h7:=(zaq.1 this.2.2) j (List.mem_range.2 hj)
  simp only[Bool.or_eq_true]at h7
  rcases h7 with h7 |h7
  ·obtain⟨y,hy⟩:=inA j h7
   rw[hy]at hjn;cases hjn
  ·exact za3.1 h7
 ·have:=(at_ i _ (List.getElem?_eq_getElem hil)).2
  rw[if_neg (λh=>by have:=blt.1 h;omega)]at this
  exact za3.1 ((zaq.1 this) j (List.mem_range.2 hj))
 ·have h7:=(zaq.1 ((zaq.1 h56) b hb)) j hj
  simp only[Bool.and_eq_true]at h7
  exact⟨za3.1 h7.1,inA j h7.2⟩
theorem z17(hL:FlOk l m A bl bs){D:Nat->Prop}(hc: ∀i o,D i->l[i]?=some o->∀e∈zam o,D e): ∀i,D i->∀j∈(lget (zak [] l) i).getD [],D j:=by
 intro i
 induction i using Nat.strongRecOn with
 |_ i ih=>
  intro hi j hj
  rcases Nat.lt_or_ge i l.length with hil |hil
  ·have ho:=List.getElem?_eq_getElem hil
   have he:=zlq (r:=l) (acc:=[]) (j:=i) (λk p hp e he=>by simpa using hL.edge k p hp e he) ho
   simp only[List.length_nil,Nat.zero_add]at he
   rw[zas,he]at hj
   simp only[Option.getD_some]at hj
   rcases List.mem_append.1 hj with hj |hj
   ·exact hc i _ hi ho j hj
   ·obtain⟨e,he,hj⟩:=List.mem_flatMap.1 hj
    exact ih e (hL.edge i _ ho e he) (hc i _ hi ho e he) j (by rw[zas];exact hj)
  ·rw[z1m hil]at hj;cases hj
theorem z45(hL:FlOk l m A bl bs){D:Nat->Prop}(hc: ∀i o,D i->l[i]?=some o->∀e∈zam o,D e){i:Nat}{o:Oper}(ho:l[i]?=some o)(he: ∀e∈zam o,D e): ∀j∈(lget (zak [] l) i).getD [],D j:=by
 intro j hj
 have hw:=zlq (r:=l) (acc:=[]) (j:=i) (λk p hp e he=>by simpa using hL.edge k p hp e he) ho
 simp only[List.length_nil,Nat.zero_add]at hw
 rw[zas,hw]at hj
 simp only[Option.getD_some]at hj
 rcases List.mem_append.1 hj with hj |hj
 ·exact he j hj
 ·obtain⟨e,he',hj⟩:=List.mem_flatMap.1 hj
  exact z17 hL hc e (he e he') j (by rw[zas];exact hj)
def z1n(P:Program)(T:TT)(B:Bs)(N:Nat)(l:List Oper)(m:Nat)(A:List FA)(bl:List (Nat×List Nat))(bs:List Nat)(K:St->Prop)(D:Nat->Prop)(a:Act)(w:World):Prop:=
 (∃F O nx k X bs',(∀i∈bs,D i\/i∈bs'.map (·.1))/\(∀b∈bs',b∈bl/\b.1∈bs/\¬D b.1)/\zkb (bs'.map (·.1))=true/\(∀j,m<=j->¬D j)/\FX A D X/\Sat B N ⟨F++X,O,nx⟩ a w k/\zjt P T l A (λF O nx=>runv P T l (l.drop m) ⟨F++zkw A,O,nx⟩ K) bs' F O nx)\/
 ∃t S k,m<=t/\t<=l.length/\(∀j,D j↔j<t)/\Sat B N S a w k/\runv P T l (l.drop t) S K
theorem zma{E:List (Nat×TF)->List (Nat×Option Ow)->Nat->Prop}{bs':List (Nat×List Nat)}{F:List (Nat×TF)}{O:List (Nat×Option Ow)}{nx:Nat}(h:zjt P T l A E bs' F O nx):(∀x∈A,fget F x.d=none)/\zjs P T l A F O nx A:=by
 have key:allB (λx=> !(memB x.1 (A.map (·.d)))) F=true->∀x∈A,fget F x.d=none:=λh x hx=>by
  cases hf:fget F x.d with
  |none=>rfl
  |some f=>
   obtain⟨y,hy,e⟩:=z42 hf
   have:=(zaq.1 h) y hy
   rw[e]at this
   rw[za3.2 (List.mem_map.2 ⟨x,hx,rfl⟩)]at this
   cases this
 cases bs' with
 |nil=>exact⟨key h.1,h.2.1⟩
 |cons b r=>exact⟨key h.1,h.2.1⟩
theorem zp7(hL:FlOk l m A bl bs){K:St->Prop}{D:Nat->Prop}(h:z1n P T B N l m A bl bs K D a w):
  (∃F O nx k X bs',(∀i∈bs,D i\/i∈bs'.map (·.1))/\(∀b∈bs',b∈bl/\b.1∈bs/\¬D b.1)/\zkb (bs'.map (·.1))=true/\(∀j,m<=j->¬D j)/\FX A D X/\Sat B N ⟨F++X,O,nx⟩ a w k/\zjt P T l A (λF O nx=>runv P T l (l.drop m) ⟨F++zkw A,O,nx⟩ K) bs' F O nx/\∃j0,j0<m/\¬D j0)\/
 ∃t S k,m<=t/\t<=l.length/\(∀j,D j↔j<t)/\Sat B N S a w k/\runv P T l (l.drop t) S K:=by
 rcases h with⟨F,O,nx,k,X,bs',h1,h2,h3,h4,h5,h6,h7⟩ |h
 ·by_cases hx: ∃j0,j0<m/\¬D j0
  ·exact .inl ⟨F,O,nx,k,X,bs',h1,h2,h3,h4,h5,h6,h7,hx⟩
  ·have hall: ∀j,j<m->D j:=λj hj=>Classical.byContradiction λhn=>hx ⟨j,hj,hn⟩
   cases bs' with
   |cons b r=>exact absurd (hall b.1 (hL.bsm b.1 (h2 b (by simp)).2.1).1) (h2 b (by simp)).2.2
   |nil=>
    refine .inr ⟨m,_,k,Nat.le_refl _,hL.le,λj=>⟨λhj=>?_,hall j⟩,?_,h7.2.2⟩
    ·exact Classical.byContradiction λhn=>h4 j (by omega) hj
    ·refine zi9 (λt f hf=>?_) h6
     rcases zoe hf with hf |hf
     ·exact zd2 hf
     ·obtain⟨x,hx,e1,e2⟩:=(z1w hL.dd t f).1 hf
      have hnone:=(zma (bs':=[]) h7).1 x hx
      rw[e1]at hnone
      rw[zd1 hnone]
      refine(h5 t f).2 ⟨x,hx,?_,e1,e2⟩
      exact hall _ (hL.am x hx)
 ·exact .inr h
theorem zgjb(hT:TOk P T)(hN: ∀o∈l,∀d,o.dst=some d->d<N)(hL:FlOk l m A bl bs)(hdst: ∀x∈A,∀o,l[x.i]?=some o->True){K:St->Prop}(hQ: ∀S' a' w' k',K S'->Sat B N S' a' w' k'->Q .normal a' w'):
  ∀(fuel:Nat) (listed:Array Bool) (a:Act) (w:World),listed.size=l.length->listed.toList.count false=fuel->
   (∀i o,listed.getD i false=true->l[i]?=some o->∀e∈zam o,listed.getD e false=true)->z1n P T B N l m A bl bs K (λj=>listed.getD j false=true) a w->wpAny P .any l.toArray Q fuel listed a w:=by
 intro fuel
 induction fuel with
 |zero=>
  intro listed a w hsz hcnt hcl hnow
  have hall: ∀i,i<l.length->listed.getD i false=true:=λi hi=>by
   have hlt:i<listed.size:=by omega
   have hne:=List.count_eq_zero.1 hcnt
   have hmem:listed[i]∈listed.toList:=by simp
   cases hb:listed[i]with
   |true=>simp[hlt,hb]
   |false=>rw[hb]at hmem;exact absurd hmem hne
  have hempty:Region.ready .any l.toArray listed=[]:=by
   cases hr:Region.ready .any l.toArray listed with
   |nil=>rfl
   |cons x xs=>
    have hx:x∈Region.ready .any l.toArray listed:=by rw[hr];simp
    obtain⟨h1,o,ho,_⟩:=mem_ready.1 hx
    have hxl:x<l.length:=by
     have:=(Array.getElem?_eq_some_iff.1 ho).1
     simpa using this
    have:=hall x hxl
    have hlt:x<listed.size:=by omega
    simp[hlt]at h1 this
    rw[h1]at this;cases this
  refine⟨hempty,?_⟩
  rcases zp7 hL hnow with⟨F,O,nx,k,X,bs',_,_,_,_,_,_,_,j0,h1,h2⟩ |⟨t,S,k,h1,h2,h3,h4,h5⟩
  ·exact absurd (hall j0 (by have:=hL.le;omega)) h2
  ·obtain rfl:t=l.length:=by
    rcases Nat.lt_or_ge t l.length with h |h
    ·have:=(h3 t).1 (hall t h);omega
    ·omega
   rw[List.drop_length]at h5
   exact hQ S a w k h5 h4
 |succ fuel ih=>
  intro listed a w hsz hcnt hcl hnow
  have unl: ∀i,i<l.length->(listed.getD i true=false↔¬listed.getD i false=true):=λi hi=>by
   have hlt:i<listed.size:=by omega
   simp[hlt]
  refine⟨λhempty=>?_,λi hi=>?_⟩
  ·exfalso
   have hmem:false∈listed.toList:=by
    rcases Classical.em (false∈listed.toList)with h |h
    ·exact h
    ·rw[List.count_eq_zero.2 h]at hcnt;cases hcnt
   obtain⟨i,hi⟩:=List.getElem?_of_mem hmem
   have hex: ∃i,i<l.length/\¬listed.getD i false=true:=by
    have hlt:=(List.getElem?_eq_some_iff.1 hi).1
    rw[Array.length_toList]at hlt
    refine⟨i,by omega,?_⟩
    have:listed[i]?=some false:=by simpa using hi
    simp[this]
   obtain⟨i,⟨hil,hin⟩,hleast⟩:=ze8 hex
   have hrd:i∈Region.ready .any l.toArray listed:=by
    refine mem_ready.2 ⟨(unl i hil).2 hin,l[i],by simp[hil],λe he hb=>?_⟩
    have hee:e.on∈zam l[i]:=List.mem_filterMap.2 ⟨e,by simpa using he,by simp[hb]⟩
    have hlt:=hL.edge i _ (List.getElem?_eq_getElem hil) _ hee
    exact Classical.byContradiction λhn=>by
     have:=hleast e.on ⟨by omega,hn⟩
     omega
   rw[hempty]at hrd
   cases hrd
  ·obtain⟨h1,o,ho,hedge⟩:=mem_ready.1 hi
   have hoi:l[i]?=some o:=by simpa using ho
   have hil:i<l.length:=(List.getElem?_eq_some_iff.1 hoi).1
   have hni: ¬listed.getD i false=true:=(unl i hil).1 h1
   have hed: ∀e∈zam o,listed.getD e false=true:=λe he=>by
    obtain⟨x,hx,hxe⟩:=List.mem_filterMap.1 he
    split at hxe
    ·rename_i hb
     cases hxe
     exact hedge x (by simpa using hx) hb
    ·cases hxe
   have hws:=z45 (D:=λj=>listed.getD j false=true) hL hcl hoi hed
   have hget: ∀j,(listed.setIfInBounds i true).getD j false=true↔(listed.getD j false=true\/j=i):=λj=>by
    have hlt:i<listed.size:=by omega
    by_cases hji:j=i
    ·subst hji;simp[hlt]
    ·have:i≠j:=λe=>hji e.symm
     simp[Array.getElem?_setIfInBounds_ne this,hji]
   have hcl': ∀x p,(listed.setIfInBounds i true).getD x false=true->l[x]?=some p->∀e∈zam p,(listed.setIfInBounds i true).getD e false=true:=λx p hx hp e he=>by
    rw[hget]
    rcases(hget x).1 hx with hx |rfl
    ·exact .inl (hcl x p hx hp e he)
    ·rw[hoi]at hp;cases hp
     exact .inl (hed e he)
   have hcnt':(listed.setIfInBounds i true).toList.count false=fuel:=by
    have hlt:i<listed.toList.length:=by rw[Array.length_toList];omega
    have hlt':i<listed.size:=by omega
    have hv:listed.toList[i]=false:=by
     have:listed[i]?=some listed[i]:=Array.getElem?_eq_getElem hlt'
     simp[hlt']at hni
     simpa using hni
    rw[Array.toList_setIfInBounds,List.count_set hlt,hcnt,hv]
    simp
   have next: ∀a' w',z1n P T B N l m A bl bs K (λj=>(listed.setIfInBounds i true).getD j false=true) a' w'->wpAny P .any l.toArray Q fuel (listed.setIfInBounds i true) a' w':=
    λa' w' h=>ih _ a' w' (by simpa using hsz) hcnt' hcl' h
   rcases zp7 hL hnow with⟨F,O,nx,k,X,bs',p1,p2,p3,p4,p5,p6,p7,j0,hj0,hn0⟩ |⟨t,S,k,ht1,ht2,ht3,hsat,hrv⟩
   ·have him:i<m:=by
     rcases Nat.lt_or_ge i m with h |h
     ·exact h
     ·exact absurd (hws j0 (hL.back i h hil j0 (by omega))) hn0
    have hgrd:=hL.grd i o him hoi
    obtain⟨hclean,hfA⟩:=zma p7
    unfold wpOp
    simp only[ho]
    rw[if_pos (by simp[Region.wanted,hgrd])]
    have p4': ∀j,m<=j->¬(listed.setIfInBounds i true).getD j false=true:=λj hj h=>by
     rcases(hget j).1 h with h |h
     ·exact p4 j hj h
     ·omega
    have dep_eq: ∀(ds:List Nat),(∀j∈ds,listed.getD j false=true/\∃y,zcf A j=some y)->∀t f,fget (depF A ds X) t=some f↔fget X t=some f:=by
     intro ds
     induction ds with
     |nil=>intro _ t f;rfl
     |cons j r ihd=>
      intro hds t f
      obtain⟨hDj,y,hy⟩:=hds j (by simp)
      have ihr:=ihd (λj' hj'=>hds j' (by simp[hj'])) t f
      simp only[depF,hy]
      obtain⟨hyA,hyi⟩:=zl8 hy
      by_cases e:y.d=t
      ·have hX:fget X t=some y.f:=(p5 t y.f).2 ⟨y,hyA,by rw[hyi];exact hDj,e,rfl⟩
       rw[hX,e]
       simp[fget]
      ·rw[zhr e]
       exact ihr
    have sat_dep: ∀(ds:List Nat),(∀j∈ds,listed.getD j false=true/\∃y,zcf A j=some y)->Sat B N ⟨F++depF A ds X,O,nx⟩ a w k:=λds hds=>by
     refine zi9 (λt f hf=>?_) p6
     cases hF:fget F t with
     |some f0=>rw[zd2 hF]at hf⊢;exact hf
     |none=>rw[zd1 hF]at hf⊢;exact(dep_eq ds hds t f).1 hf
    cases hx:zcf A i with
    |some x=>
     obtain⟨hxA,hxi⟩:=zl8 hx
     obtain⟨o',ho',hstep⟩:=zp8 hfA x hxA
     rw[hxi,hoi]at ho'
     cases ho'
     have hdeps:=hL.fa i x him hil hx
     have hfx:=dep_eq x.deps λj hj=>⟨hws j (hdeps j hj).1,(hdeps j hj).2⟩
     have hsat2:=sat_dep x.deps λj hj=>⟨hws j (hdeps j hj).1,(hdeps j hj).2⟩
     refine .inl (Oper.wp_mono ?_ (z1z hT (hstep X) B N a w k Q hsat2 (hN o (List.mem_of_getElem? hoi))))
     rintro a' w' ⟨k2,hs2⟩
     obtain⟨X',hX'⟩: ∃X',X'=(x.d,x.f)::X:=⟨_,rfl⟩
     refine next a' w' (.inl ⟨F,O,nx,k2,X',bs',λj hj=>?_,λj hj=>⟨(p2 j hj).1,(p2 j hj).2.1,λh=>?_⟩,p3,p4',λt f=>?_,?_,p7⟩)
     ·rcases p1 j hj with h |h
      ·exact .inl ((hget j).2 (.inl h))
      ·exact .inr h
     ·rcases(hget j.1).1 h with h |h
      ·exact(p2 j hj).2.2 h
      ·have:=(hL.bsm j.1 (p2 j hj).2.1).2
       rw[h,hx]at this;cases this
     ·subst hX'
      constructor
      ·intro h
       rcases zax h with⟨e,e'⟩ |⟨_,h⟩
       ·exact⟨x,hxA,(hget _).2 (.inr hxi),e,e'.symm⟩
       ·obtain⟨y,hy,hDy,e1,e2⟩:=(p5 t f).1 h
        exact⟨y,hy,(hget _).2 (.inl hDy),e1,e2⟩
      ·rintro⟨y,hy,hDy,e1,e2⟩
       by_cases e:x.d=t
       ·have:x=y:=zgkb hL.dd hxA hy (e.trans e1.symm)
        subst this
        rw[e,e2];simp[fget]
       ·rw[zhr e]
        refine(p5 t f).2 ⟨y,hy,?_,e1,e2⟩
        rcases(hget _).1 hDy with h |h
        ·exact h
        ·have h3:=zvf hL.ii hy
         rw[h,hx]at h3
         cases h3
         exact absurd e1 e
     ·refine zi9 (λt f hf=>?_) hs2
      subst hX'
      cases hF:fget F t with
      |some f0=>
       rw[zd2 hF]at hf
       have hne:x.d≠t:=λe=>by rw[<-e,hclean x hxA]at hF;cases hF
       rw[zhr hne,zd2 hF]
       exact hf
      |none=>
       rw[zd1 hF]at hf
       by_cases e:x.d=t
       ·subst e;simpa[fget]using hf
       ·rw[zhr e]at hf⊢
        rw[zd1 hF]
        exact(hfx t f).2 hf
    |none=>
     obtain⟨hib,hbk⟩:=hL.fb i him hil hx
     cases bs' with
     |nil=>
      rcases p1 i hib with h |h
      ·exact absurd h hni
      ·cases h
     |cons b r=>
      simp only[List.map_cons,zkb,Bool.and_eq_true]at p3
      have hbi:b.1=i:=by
       rcases p1 i hib with h |h
       ·exact absurd h hni
       ·rw[List.map_cons]at h
        rcases List.mem_cons.1 h with e |h
        ·exact e.symm
        ·have hlt:b.1<i:=by
          have:=(zaq.1 p3.1) i h
          simp[Nat.blt]at this
          omega
         have:=hbk b.1 hlt (hL.bsm b.1 (p2 b (by simp)).2.1).2
         exact absurd (hws b.1 this) (p2 b (by simp)).2.2
      obtain⟨b0,ds⟩:=b
      simp only at hbi
      subst hbi
      simp only[zjt]at p7
      obtain⟨_,_,F',O',nx',hst,p7⟩:=p7
      rw[zas,hoi]at hst
      simp only at hst
      have hdd: ∀j∈ds,listed.getD j false=true/\∃y,zcf A j=some y:=λj hj=>by
       have:=hL.fd (b0,ds) (p2 (b0,ds) (by simp)).1 j hj
       exact⟨hws j this.1,this.2⟩
      refine .inl (Oper.wp_mono ?_ (zd6 (Q:=Q) hT (sat_dep ds hdd) (hN o (List.mem_of_getElem? hoi)) (hst X)))
      rintro a' w' ⟨S',k',hsub,hs'⟩
      obtain⟨k2,hs2⟩:=hsub B N a' w' k' hs'
      have hs2:Sat B N ⟨F'++X,O',nx'⟩ a' w' k2:=by
       refine zi9 (λt f hf=>?_) hs2
       cases hF:fget F' t with
       |some f0=>rw[zd2 hF]at hf⊢;exact hf
       |none=>rw[zd1 hF]at hf⊢;exact(dep_eq ds hdd t f).2 hf
      refine next a' w' (.inl ⟨F',O',nx',k2,X,r,λj hj=>?_,λj hj=>⟨(p2 j (by simp[hj])).1,(p2 j (by simp[hj])).2.1,λh=>?_⟩,p3.2,p4',λt f=>?_,hs2,p7⟩)
      ·rcases p1 j hj with h |h
       ·exact .inl ((hget j).2 (.inl h))
       ·rw[List.map_cons]at h
        rcases List.mem_cons.1 h with e |h
        ·exact .inl ((hget j).2 (.inr e))
        ·exact .inr h
      ·rcases(hget j.1).1 h with h |h
       ·exact(p2 j (by simp[hj])).2.2 h
       ·have h9:Nat.blt b0 j.1=true:=(zaq.1 p3.1) j.1 (List.mem_map.2 ⟨j,hj,rfl⟩)
        simp[Nat.blt]at h9
        omega
      ·refine(p5 t f).trans ⟨λ⟨y,hy,hDy,e1,e2⟩=>⟨y,hy,(hget _).2 (.inl hDy),e1,e2⟩,λ⟨y,hy,hDy,e1,e2⟩=>⟨y,hy,?_,e1,e2⟩⟩
       rcases(hget _).1 hDy with h |h
       ·exact h
       ·have h3:=zvf hL.ii hy
        rw[h,hx]at h3;cases h3
   ·have hit:i=t:=by
     have h1: ¬i<t:=λhh=>hni ((ht3 i).2 hh)
     rcases Nat.lt_or_ge t i with hlt |hge
     ·have h2:=(ht3 t).1 (hws t (hL.back i (by omega) hil t hlt))
      omega
     ·omega
    subst hit
    have hdrop:l.drop i=o::l.drop (i+1):=by
     rw[List.drop_eq_getElem_cons hil]
     congr 1
     have:=List.getElem?_eq_getElem hil
     rw[hoi]at this
     exact(Option.some.inj this).symm
    rw[hdrop]at hrv
    have hhd:=zm9 (Q:=Q) hT (hN o (List.mem_of_getElem? hoi)) hsat hrv
    have nx2: ∀a' w',(∃S' k',runv P T l (l.drop (i+1)) S' K/\Sat B N S' a' w' k')->wpAny P .any l.toArray Q fuel (listed.setIfInBounds i true) a' w':=λa' w' ⟨S',k',hr',hs'⟩=>
     next a' w' (.inr ⟨i+1,S',k',by omega,by omega,λj=>(hget j).trans ((or_congr (ht3 j) Iff.rfl).trans (by omega)),hs',hr'⟩)
    unfold wpOp
    simp only[ho]
    split at hhd
    ·rename_i hw
     rw[if_pos hw]
     exact .inl (Oper.wp_mono nx2 hhd)
    ·rename_i hw
     rw[if_neg hw]
     exact nx2 _ _ hhd
theorem Vcode.float(hm:P.follows .mixedOrders=true)(hT:TOk P T){id:Nat}{ops:Array Oper}{Q:Exit->St->Prop}(m:Nat)(A:List FA)(bl:List (Nat×List Nat))(hok:zrr ops.toList m A bl=true){F:List (Nat×TF)}{O:List (Nat×Option Ow)}{nx:Nat}(h0:Sub S ⟨F,O,nx⟩)
  (h:zjt P T ops.toList A (λF O nx=>runv P T ops.toList (ops.toList.drop m) ⟨F++zkw A,O,nx⟩ (Q .normal)) bl F O nx):Vcode P (.region id ops true) S Q:=by
 refine⟨λB N a w k Q' hs hd hQ=>?_⟩
 have hN: ∀o∈ops.toList,∀d,o.dst=some d->d<N:=λo ho d hod=>by
  simp only[za5,List.all_eq_true]at hd
  have h1:=hd o ho
  simp only[hod]at h1
  exact Nat.le_of_ble_eq_true h1
 have hL:=zc4b hok
 obtain⟨k1,g,hs1⟩:=h0 B N a w k hs
 have hs2:SatE B N ⟨F,O,nx⟩ a {w with drawn:=w.drawn+1} k1 g:=hs1.ext (w':={w with drawn:=w.drawn+1}) ⟨rfl,rfl,rfl,Nat.le_refl _,λ_ _=>rfl⟩ λ_ _=>rfl
 refine wp_region_any hm ?_
 have:=zgjb (Q:=Q') (B:=B) (N:=N) (K:=Q .normal) hT hN hL (λ_ _ _ _=>trivial) (λS' a' w' k' hq hs'=>hQ _ S' a' w' k' hq hs') ops.size (Array.replicate ops.size false) a {w with drawn:=w.drawn+1} (by simp) (by simp) (λi o hi=>by
  exfalso
  rw[Array.getD_eq_getD_getElem?]at hi
  by_cases hlt:i<ops.size
  ·simp[hlt]at hi
  ·simp[hlt]at hi) (.inl ⟨F,O,nx,k1,[],bl,λi hi=> .inr hi,λi hi=>⟨hi,List.mem_map.2 ⟨i,hi,rfl⟩,λhh=>absurd hh (by by_cases hlt:i.1<ops.size<;>simp[hlt])⟩,hL.rises,λj _ hh=>absurd hh (by by_cases hlt:j<ops.size<;>simp[hlt]),λt f=>?_,?_,h⟩)
 ·simpa using this
 ·constructor
  ·intro h;simp[fget]at h
  ·rintro⟨x,hx,hD,_⟩
   exact absurd hD (by by_cases hlt:x.i<ops.size<;>simp[hlt])
 ·rw[List.append_nil]
  exact⟨g,hs2⟩
end
theorem Yld.read{P:Program}{T:TT}(hT:TOk P T){S:St}{o:Oper}{d:Nat}{e:TypeId}{sz n:Nat}{cells:List RV}(h:zed P T S o λS'=>S'=⟨(d, .own S.nx)::S.F,(S.nx,some (.ch e sz n cells true))::S.O,S.nx+1⟩):
  Yld P S o ⟨(d, .r (.sl sz n cells))::S.F,S.O,S.nx⟩:=λB N a w k Q hs hd=>by
 obtain⟨g0,h0⟩:=id hs
 refine Oper.wp_mono ?_ (zd6 (Q:=Q) hT hs hd h)
 rintro a' w' ⟨S',k',rfl,g,h1⟩
 have ne: ∀id ow,oget S.O id=some ow->id≠S.nx:=λid ow ho e=>by
  have:=(h0.owns id ow ho).1
  omega
 have og: ∀id ow,oget S.O id=some ow->oget ((S.nx,some (.ch e sz n cells true))::S.O) id=some ow:=λid ow ho=>by
  simp only[oget,zl4 (λe=>ne id ow ho e.symm)]
  exact ho
 refine⟨k',g,h1.size,h1.defers,h1.keep,h1.kk,λt f hf=>?_,λid ow ho=>?_,λi j ow ow' b hi hj=>h1.apart i j ow ow' b (og i ow hi) (og j ow' hj)⟩
 ·simp only[fget]at hf
  split at hf
  ·rename_i hb
   cases hf
   have:=Nat.eq_of_beq_eq_true hb
   subst this
   have hv:=(h1.facts d (.own S.nx) (by simp[fget])).2
   exact⟨trivial,zdy (f:= .own S.nx) h1 (by simp[St.rv,oget]) hv⟩
  ·rename_i hb
   have h2:=(h1.facts t f (by simp only[fget,hb];exact hf)).2
   exact⟨(h0.facts t f hf).1,h2⟩
 ·have h2:=h1.owns id ow (og id ow ho)
  have h3:=h0.owns id ow ho
  exact⟨h3.1,h3.2.1,h2.2.2.1,h2.2.2.2⟩
theorem zgx{P:Program}{f:FuncId}{n0 n1:Nat}{O0 O1:List (Nat×Ow)}{args:List TF}{names names':List (Nat×Value)}{res:TF}(e:names=names')(h:Acts P f n0 O0 args names n1 O1 res):Acts P f n0 O0 args names' n1 O1 res:=e▸h
theorem z5f(u x:Int)(hu:zi0 u):aG 538 [I u, .ptr [I x]] (.r (.b (!zem (2*u) x))):=by
 refine aT Tryz.func538 rfl ?_
 unfold zi0 at hu
 refine zd rfl (by omega) ?_
 refine zg rfl ?_
 refine ze (zdab (2*u) x) ?_
 exact Vcmp.mk' rfl (cr)
theorem z9a(x:Int)(n:Node)(hn:n.fit):aG 507 [I x, .ag n.c] (.r (.b (zen x n))):=by
 refine aT Tryz.func507 rfl ?_
 refine za rfl rfl ?_
 refine ze (zo4 n hn) ?_
 have clo:=λ(u:Int) (hu:zi0 u)=>z5f u x hu
 cases hr:n.right with
 |false=>
  refine⟨by decide,_,rfl,?_⟩
  refine zh (λh=>zp ?_) (λh=>zq ?_)
  ·refine zu rfl ?_
   exact zf (congrArg RV.b (by simp[zen,hr]))
  ·refine zu rfl ?_
   exact zf (congrArg RV.b (by simp[zen,hr]))
 |true=>
  have hlate:=Node.right_late hr
  have hll:n.par.late.length<=1000000000:=by have:=hn.2.2.2.1;omega
  have fin: ∀{β:Bool},β=n.par.late.any (λu=> !zem (2*u) x)->n.kind.toNat≠zfz x->(!β)=zen x n:=λhb hk=>by
   subst hb
   rw[zcqb]
   simp[zen,hr,hk]
  refine⟨by decide,_,rfl,?_⟩
  refine zh (λh=>zp ?_) (λh=>zq ?_)
  ·simp only[zb]at h
   refine zt rfl ?_
   refine zh (λh2=>?_) (λh2=>?_)
   ·simp only[zb]at h2
    refine Vstep.sub (zci (t:=2) [I x] rfl rfl) (Vstep.mkfun I zi0 _ rfl rfl clo ?_)
    refine ze (zju n.par.late zi0 _ hll hlate) ?_
    exact Vcmp.mk' rfl (zf (congrArg RV.b (fin rfl (by simp[zfz,h];omega))))
   ·simp only[zb]at h2
    refine zf (congrArg RV.b ?_)
    have:n.kind.toNat=zfz x:=by simp[zfz,h];omega
    simp[zen,this]
  ·simp only[zb]at h
   refine zt rfl ?_
   refine zh (λh2=>?_) (λh2=>?_)
   ·simp only[zb]at h2
    refine Vstep.sub (zci (t:=2) [I x] rfl rfl) (Vstep.mkfun I zi0 _ rfl rfl clo ?_)
    refine ze (zju n.par.late zi0 _ hll hlate) ?_
    exact Vcmp.mk' rfl (zf (congrArg RV.b (fin rfl (by simp[zfz,h];omega))))
   ·simp only[zb]at h2
    refine zf (congrArg RV.b ?_)
    have:n.kind.toNat=zfz x:=by simp[zfz,h];omega
    simp[zen,this]
def zie(O:List Spot)(x:Int):Node:=(zbi O x).getD Node.zero
abbrev pbox(leaves own:Int)(O:List Spot)(H:List Stub):Ow:= .box [.r (I leaves), .r (I own), .r (.s (mapS (zbt O))), .r (.s (mapS (zby H)))]
theorem g_at(pv:Value)(leaves own:Int)(O:List Spot)(H:List Stub)(x:Int):Acts aP 508 1 [(0,pbox leaves own O H)] [.r (I x), .own 0] [(0,pv)] 2 [(0,pbox leaves own O H)] (.r (.tu [.ag (zie O x).c, .b (zkx O x)])):=by
 refine zag (T:=Tab) mixed Tab_ok Tryz.func508 rfl (by kernel_rfl) rfl ⟨⟨_,_,rfl,rfl,zah,zah⟩,trivial⟩ ?_
 refine Vstep.node2 rfl rfl rfl (λm hm=>?_) (λhm=>?_)
 ·refine za rfl rfl ?_
  have e1:zie O x=m:=by unfold zie;rw[hm];rfl
  have e2:zkx O x=true:=by unfold zkx;rw[hm];rfl
  rw[e1,e2]
  exact zal (.inl rfl) [(0,0),(1,1)] [(3, .own 1),(4, .r (.b true))] [(1,some (.box (m.c.map .r)))] rfl ⟨rfl,cr,⟨rfl,rfl⟩,trivial⟩ ⟨(aC aZ),(aD (aB aZ)),trivial⟩ ⟨⟨1000000,rfl⟩,trivial⟩ (za rfl rfl ⟨_,rfl,cr⟩)
 ·refine za rfl rfl ?_
  have e1:zie O x=Node.zero:=by unfold zie;rw[hm];rfl
  have e2:zkx O x=false:=by unfold zkx;rw[hm];rfl
  rw[e1,e2]
  exact zal (.inl rfl) [(0,0),(1,1)] [(3, .own 1),(4, .r (.b false))] [(1,some (.box (zc.map .r)))] rfl ⟨rfl,cr,⟨rfl,rfl⟩,trivial⟩ ⟨(aC aZ),(aD (aB aZ)),trivial⟩ ⟨⟨1000000,rfl⟩,trivial⟩ (za rfl rfl ⟨_,rfl,Cv.tu (zk zfyb (zn _))⟩)
abbrev V3:=List Int×List Int×Bool
def kidV(p:Nat->Nat->List Int->V3)(i:Int)(only:Bool)(h how:Nat)(n:Node)(late:List Int)(j:Nat):V3:=
 if how=0/\zem (2*i) (nd h j)=true then p j 0 []
 else if how=0/\only=true then([],[(nd h j:Int)],true)
 else if how=0\/(how=1/\n.kind.toNat=0)then p j 1 []
 else if late.any (λu=>zem (2*u) (nd h j))=true then p j 2 late
 else([],[(nd h j:Int)],true)
def visV(O:List Spot)(i:Int)(only:Bool):Nat->Nat->Nat->List Int->V3
 |0,k,_,_=>match zbi O (nd 0 k)with
  |none=>([],[],false)
  |some _=>([(nd 0 k:Int)],[],true)
 |h+1,k,how,late=>match zbi O (nd (h+1) k)with
  |none=>([],[],false)
  |some n=>
   let a:=kidV (λj w l=>visV O i only h j w l) i only h how n (if how=1 then n.par.late else late) (2*k)
   let b:=kidV (λj w l=>visV O i only h j w l) i only h how n (if how=1 then n.par.late else late) (2*k+1)
   (a.1++[(nd (h+1) k:Int)]++b.1,a.2.1++b.2.1,a.2.2&&b.2.2)
theorem zwn{p:Nat->Nat->List Int->V3}{b:Nat}(hb:1<=b)(hp: ∀j w l,(p j w l).1.length<=b/\(p j w l).2.1.length<=b)(i:Int)(only:Bool)(h how:Nat)(n:Node)(late:List Int)(j:Nat):(kidV p i only h how n late j).1.length<=b/\(kidV p i only h how n late j).2.1.length<=b:=by
 unfold kidV
 split
 ·exact hp _ _ _
 ·split
  ·exact⟨by simp,by simpa using hb⟩
  ·split
   ·exact hp _ _ _
   ·split
    ·exact hp _ _ _
    ·exact⟨by simp,by simpa using hb⟩
theorem zyj(O:List Spot)(i:Int)(only:Bool): ∀(h k how:Nat) (late:List Int),(visV O i only h k how late).1.length<=2^(h+1)-1/\(visV O i only h k how late).2.1.length<=2^(h+1)-1
 |0,k,how,late=>by
  simp only[visV]
  split<;>simp
 |h+1,k,how,late=>by
  simp only[visV]
  have hp:0<2^(h+1):=Nat.pow_pos (by omega)
  have e:2^(h+1+1)=2*2^(h+1):=by rw[Nat.pow_succ 2 (h+1)];omega
  split
  ·simp
  ·rename_i n _
   have h2:2<=2^(h+1):=by rw[Nat.pow_succ];have:0<2^h:=Nat.pow_pos (by omega);omega
   have key: ∀q:Nat->Nat->List Int->V3,(∀j w l,(q j w l).1.length<=2^(h+1)-1/\(q j w l).2.1.length<=2^(h+1)-1)->
     ((kidV q i only h how n (if how=1 then n.par.late else late) (2*k)).1++[(nd (h+1) k:Int)]++(kidV q i only h how n (if how=1 then n.par.late else late) (2*k+1)).1).length<=2^(h+1+1)-1/\
     ((kidV q i only h how n (if how=1 then n.par.late else late) (2*k)).2.1++(kidV q i only h how n (if how=1 then n.par.late else late) (2*k+1)).2.1).length<=2^(h+1+1)-1:=λq hq=>by
    have a:=zwn (b:=2^(h+1)-1) (by omega) hq i only h how n (if how=1 then n.par.late else late) (2*k)
    have b:=zwn (b:=2^(h+1)-1) (by omega) hq i only h how n (if how=1 then n.par.late else late) (2*k+1)
    simp only[aL,List.length_cons,List.length_nil]
    omega
   exact key _ λj w l=>zyj O i only h j w l
end Go.Proofs.YtkegaaonpekkgaaGreat.Sx
