import Derived.Test.YtkegaaonpekkgaaGreatZSxU
import Derived.Test.YtkegaaonpekkgaaGreatZFp
namespace Go.Proofs.YtkegaaonpekkgaaGreat.Sx
open Go.RowKit
structure FA where
 i:Nat
 d:Nat
 f:TF
 deps:List Nat
def zco:List FA->Nat->Option FA
 |[],_=>none
 |x::r,i=>match Nat.beq x.i i with
  |true=>some x
  |false=>zco r i
def faIn(A:List FA)(i:Nat):Bool:=match zco A i with
 |some _=>true
 |none=>false
def depF(A:List FA):List Nat->List (Nat×TF)->List (Nat×TF)
 |[],Y=>Y
 |j::r,Y=>match zco A j with
  |some x=>(x.d,x.f)::depF A r Y
  |none=>depF A r Y
def zlo:List FA->List (Nat×TF)
 |[]=>[]
 |x::r=>(x.d,x.f)::zlo r
def zrf(P:Program)(T:TT)(S:St)(o:Oper)(S2:St):Prop:=match o.op with
 | .buildSlice _ _ _=>zeq P T S o (λS'=>Sub S' S2)\/Yld P S o S2
 |_=>zeq P T S o (λS'=>Sub S' S2)
theorem z31{P:Program}{T:TT}(hT:TOk P T){S S2:St}{o:Oper}(h:zrf P T S o S2):Yld P S o S2:=by
 have sub:zeq P T S o (λS'=>Sub S' S2)->Yld P S o S2:=λh B N a w k Q hs hd=>by
  refine Oper.wp_mono ?_ (zek (Q:=Q) hT hs hd h)
  rintro a' w' ⟨S',k',hsub,hs'⟩
  exact hsub B N a' w' k' hs'
 unfold zrf at h
 split at h
 ·exact h.elim sub id
 ·exact sub h
def zkk(P:Program)(T:TT)(l:List Oper)(A:List FA)(F:List (Nat×TF))(O:List (Nat×Option Ow))(nx:Nat):List FA->Prop
 |[]=>True
 |x::r=>(match lget l x.i with
  |some o=>∀Y,zrf P T ⟨F++depF A x.deps Y,O,nx⟩ o ⟨(x.d,x.f)::(F++depF A x.deps Y),O,nx⟩
  |none=>False)/\zkk P T l A F O nx r
def zkl(P:Program)(T:TT)(l:List Oper)(A:List FA)(E:List (Nat×TF)->List (Nat×Option Ow)->Nat->Prop):List (Nat×List Nat)->List (Nat×TF)->List (Nat×Option Ow)->Nat->Prop
 |[],F,O,nx=>allB (λx=> !(memB x.1 (A.map (·.d)))) F=true/\zkk P T l A F O nx A/\E F O nx
 |b::bs,F,O,nx=>allB (λx=> !(memB x.1 (A.map (·.d)))) F=true/\zkk P T l A F O nx A/\∃F' O' nx',(match lget l b.1 with
  |some o=>∀Y,zeq P T ⟨F++depF A b.2 Y,O,nx⟩ o λS'=>Sub S' ⟨F'++depF A b.2 Y,O',nx'⟩
  |none=>False)/\zkl P T l A E bs F' O' nx'
def zk2:List Nat->Bool
 |[]=>true
 |x::r=>allB (λy=>Nat.blt x y) r&&zk2 r
def zs1(l:List Oper)(m:Nat)(A:List FA)(bl:List (Nat×List Nat)):Bool:=
 let bs:=bl.map (·.1)
 let ws:=zam [] l
 Nat.ble m l.length&&(zey (A.map (·.d))&&(zey (A.map (·.i))&&(zk2 bs&&(allB (λi=>Nat.blt i m&& !(faIn A i)) bs&&(allB (λx=>Nat.blt x.i m) A&&(allB (λb=>allB (λj=>memB j ((lget ws b.1).getD [])&&faIn A j) b.2) bl&&
 allB (λi=>match lget l i with
  |none=>false
  |some o=>allB (λe=>Nat.blt e i) (zao o)&&
   (if Nat.blt i m then(match o.guard with |none=>true |some _=>false)&&(match zco A i with
    |some x=>allB (λj=>memB j ((lget ws i).getD [])&&faIn A j) x.deps
    |none=>memB i bs&&allB (λj=>faIn A j||memB j ((lget ws i).getD [])) (List.range i))
   else allB (λj=>memB j ((lget ws i).getD [])) (List.range i))) (List.range l.length)))))))
theorem zm6: ∀{A:List FA} {i:Nat} {x:FA},zco A i=some x->x∈A/\x.i=i
 |[],i,x,h=>by simp[zco]at h
 |y::r,i,x,h=>by
  simp only[zco]at h
  split at h
  ·rename_i hb;cases h;exact⟨by simp,Nat.eq_of_beq_eq_true hb⟩
  ·have:=zm6 h;exact⟨List.mem_cons_of_mem _ this.1,this.2⟩
theorem zw3{A:List FA}{x:FA}(hn:(A.map (·.i)).Nodup)(hx:x∈A):zco A x.i=some x:=by
 induction A with
 |nil=>cases hx
 |cons y r ih=>
  simp only[List.map_cons,List.nodup_cons]at hn
  rcases List.mem_cons.1 hx with rfl |hx
  ·simp[zco]
  ·have:y.i≠x.i:=λe=>hn.1 (by rw[e];exact List.mem_map.2 ⟨x,hx,rfl⟩)
   simp only[zco,zm2 this]
   exact ih hn.2 hx
theorem zrh{P:Program}{T:TT}{l:List Oper}{A:List FA}{F:List (Nat×TF)}{O:List (Nat×Option Ow)}{nx:Nat}: ∀{r:List FA},zkk P T l A F O nx r->∀x∈r,∃o,l[x.i]?=some o/\∀Y,zrf P T ⟨F++depF A x.deps Y,O,nx⟩ o ⟨(x.d,x.f)::(F++depF A x.deps Y),O,nx⟩
 |[],_,x,hx=>by cases hx
 |y::r,h,x,hx=>by
  simp only[zkk]at h
  rcases List.mem_cons.1 hx with rfl |hx
  ·have h1:=h.1
   rw[zat]at h1
   split at h1
   ·rename_i o ho;exact⟨o,ho,h1⟩
   ·exact h1.elim
  ·exact zrh h.2 x hx
def zi0b(A:List FA)(D:Nat->Prop)(t:Nat)(f:TF):Prop:=∃x∈A,D x.i/\x.d=t/\x.f=f
def FX(A:List FA)(D:Nat->Prop)(X:List (Nat×TF)):Prop:=∀t f,fget X t=some f↔zi0b A D t f
theorem zjdb{A:List FA}(hn:(A.map (·.d)).Nodup): ∀{x y:FA},x∈A->y∈A->x.d=y.d->x=y:=by
 induction A with
 |nil=>intro x y hx;cases hx
 |cons z r ih=>
  intro x y hx hy e
  simp only[List.map_cons,List.nodup_cons]at hn
  rcases List.mem_cons.1 hx with ex |hx2
  ·rcases List.mem_cons.1 hy with ey |hy2
   ·rw[ex,ey]
   ·exact absurd (List.mem_map.2 ⟨y,hy2,by rw[<-e,ex]⟩) hn.1
  ·rcases List.mem_cons.1 hy with ey |hy2
   ·exact absurd (List.mem_map.2 ⟨x,hx2,by rw[e,ey]⟩) hn.1
   ·exact ih hn.2 hx2 hy2 e
theorem z3y{A:List FA}(hn:(A.map (·.d)).Nodup): ∀t f,fget (zlo A) t=some f↔∃x∈A,x.d=t/\x.f=f:=by
 induction A with
 |nil=>intro t f;simp[zlo,fget]
 |cons y r ih=>
  intro t f
  simp only[List.map_cons,List.nodup_cons]at hn
  constructor
  ·intro h
   rcases zay h with⟨e,e'⟩ |⟨_,h⟩
   ·exact⟨y,by simp,e,e'.symm⟩
   ·obtain⟨x,hx,h1,h2⟩:=(ih hn.2 t f).1 h
    exact⟨x,List.mem_cons_of_mem _ hx,h1,h2⟩
  ·rintro⟨x,hx,h1,h2⟩
   simp only[zlo]
   rcases List.mem_cons.1 hx with rfl |hx
   ·rw[h1];simp[fget,h2]
   ·have:y.d≠t:=λe=>hn.1 (by rw[e,<-h1];exact List.mem_map.2 ⟨x,hx,rfl⟩)
    rw[zij this]
    exact(ih hn.2 t f).2 ⟨x,hx,h1,h2⟩
section
variable {P:Program} {T:TT} {B:Bs} {N:Nat} {S:St} {a:Act} {w:World} {k:Kp} {g:Env} {Q:Exit->Act->World->Prop} {l:List Oper} {m:Nat} {A:List FA} {bl:List (Nat×List Nat)} {bs:List Nat}
theorem zj6{F F':List (Nat×TF)}{O:List (Nat×Option Ow)}{nx:Nat}(h: ∀t f,fget F' t=some f->fget F t=some f)(hs:Sat B N ⟨F,O,nx⟩ a w k):Sat B N ⟨F',O,nx⟩ a w k:=by
 obtain⟨g,hs⟩:=hs
 exact⟨g,hs.size,hs.defers,hs.keep,hs.kk,λt f hf=>hs.facts t f (h t f hf),hs.owns,hs.apart⟩
theorem zef{F F':List (Nat×TF)}{t:Nat}(h:fget F t=none):fget (F++F') t=fget F' t:=by
 induction F with
 |nil=>rfl
 |cons x r ih=>
  obtain⟨x1,x2⟩:=x
  rw[List.cons_append]
  simp only[fget]at h⊢
  split at h
  ·cases h
  ·exact ih h
theorem zeg{F F':List (Nat×TF)}{t:Nat}{f:TF}(h:fget F t=some f):fget (F++F') t=some f:=by
 induction F with
 |nil=>simp[fget]at h
 |cons x r ih=>
  obtain⟨x1,x2⟩:=x
  rw[List.cons_append]
  simp only[fget]at h⊢
  split at h
  ·exact h
  ·exact ih h
theorem z69{F:List (Nat×TF)}{t:Nat}{f:TF}(h:fget F t=some f): ∃x∈F,x.1=t:=by
 induction F with
 |nil=>simp[fget]at h
 |cons x r ih=>
  obtain⟨x1,x2⟩:=x
  rcases zay h with⟨e,_⟩ |⟨_,h⟩
  ·exact⟨(x1,x2),by simp,e⟩
  ·obtain⟨y,hy,e⟩:=ih h;exact⟨y,List.mem_cons_of_mem _ hy,e⟩
structure FlOk (l:List Oper) (m:Nat) (A:List FA) (bl:List (Nat×List Nat)) (bs:List Nat):Prop where
 le:m<=l.length
 dd:(A.map (·.d)).Nodup
 ii:(A.map (·.i)).Nodup
 rises:zk2 bs=true
 bsm: ∀i∈bs,i<m/\zco A i=none
 am: ∀x∈A,x.i<m
 edge: ∀i o,l[i]?=some o->∀e∈zao o,e<i
 grd: ∀i o,i<m->l[i]?=some o->o.guard=none
 fa: ∀i x,i<m->i<l.length->zco A i=some x->∀j∈x.deps,j∈(lget (zam [] l) i).getD []/\∃y,zco A j=some y
 fb: ∀i,i<m->i<l.length->zco A i=none->i∈bs/\∀j,j<i->zco A j=none->j∈(lget (zam [] l) i).getD []
 back: ∀i,m<=i->i<l.length->∀j,j<i->j∈(lget (zam [] l) i).getD []
 fd: ∀b∈bl,∀j∈b.2,j∈(lget (zam [] l) b.1).getD []/\∃y,zco A j=some y
theorem zfub(h:zs1 l m A bl=true):FlOk l m A bl (bl.map (·.1)):=by
 simp only[zs1,Bool.and_eq_true,Nat.ble_eq]at h
 obtain⟨h1,h2,h3,h4,h5,h55,h56,h6⟩:=h
 have blt: ∀{x y:Nat},Nat.blt x y=true↔x<y:=λ{x y}=>by simp[Nat.blt];omega
 have at_: ∀i o,l[i]?=some o->allB (λe=>Nat.blt e i) (zao o)=true/\
   (if Nat.blt i m then(match o.guard with |none=>true |some _=>false)&&(match zco A i with
    |some x=>allB (λj=>memB j ((lget (zam [] l) i).getD [])&&faIn A j) x.deps
    |none=>memB i (bl.map (·.1))&&allB (λj=>faIn A j||memB j ((lget (zam [] l) i).getD [])) (List.range i))
   else allB (λj=>memB j ((lget (zam [] l) i).getD [])) (List.range i))=true:=λi o ho=>by
  have:=(zar.1 h6) i (List.mem_range.2 (List.getElem?_eq_some_iff.1 ho).1)
  rw[zat,ho]at this
  simpa only[Bool.and_eq_true]using this
 have inA: ∀j,faIn A j=true->∃y,zco A j=some y:=λj hj=>by
  unfold faIn at hj
  split at hj
  ·rename_i y hy;exact⟨y,hy⟩
  ·cases hj
 refine⟨h1,zb5 h2,zb5 h3,h4,λi hi=>?_,λx hx=>blt.1 ((zar.1 h55) x hx),λi o ho e he=>?_,λi o hi ho=>?_,λi x hi hil hx j hj=>?_,λi hi hil hx=>?_,λi hi hil j hj=>?_,λb hb j hj=>?_⟩
 ·have:=(zar.1 h5) i hi
  simp only[Bool.and_eq_true,Bool.not_eq_true']at this
  refine⟨blt.1 this.1,?_⟩
  have h7:=this.2
  unfold faIn at h7
  split at h7
  ·cases h7
  ·assumption
 ·exact blt.1 ((zar.1 (at_ i o ho).1) e he)
 ·have:=(at_ i o ho).2
  rw[if_pos (blt.2 hi)]at this
  simp only[Bool.and_eq_true]at this
  have h7:=this.1
  split at h7
  ·assumption
  ·cases h7
 ·have:=(at_ i _ (List.getElem?_eq_getElem hil)).2
  rw[if_pos (blt.2 hi)]at this
  simp only[Bool.and_eq_true,hx]at this
  have h7:=(zar.1 this.2) j hj
  simp only[Bool.and_eq_true]at h7
  exact⟨za4.1 h7.1,inA j h7.2⟩
 ·have:=(at_ i _ (List.getElem?_eq_getElem hil)).2
  rw[if_pos (blt.2 hi)]at this
  simp only[Bool.and_eq_true,hx]at this
  refine⟨za4.1 this.2.1,λj hj hjn=>?_⟩
  have h7:=(zar.1 this.2.2) j (List.mem_range.2 hj)
  simp only[Bool.or_eq_true]at h7
  rcases h7 with h7 |h7
  ·obtain⟨y,hy⟩:=inA j h7
   rw[hy]at hjn;cases hjn
  ·exact za4.1 h7
 ·have:=(at_ i _ (List.getElem?_eq_getElem hil)).2
  rw[if_neg (λh=>by have:=blt.1 h;omega)]at this
  exact za4.1 ((zar.1 this) j (List.mem_range.2 hj))
 ·have h7:=(zar.1 ((zar.1 h56) b hb)) j hj
  simp only[Bool.and_eq_true]at h7
  exact⟨za4.1 h7.1,inA j h7.2⟩
theorem z4c(hL:FlOk l m A bl bs){D:Nat->Prop}(hc: ∀i o,D i->l[i]?=some o->∀e∈zao o,D e): ∀i,D i->∀j∈(lget (zam [] l) i).getD [],D j:=by
 intro i
 induction i using Nat.strongRecOn with
 |_ i ih=>
  intro hi j hj
  rcases Nat.lt_or_ge i l.length with hil |hil
  ·have ho:=List.getElem?_eq_getElem hil
   have he:=zmp (r:=l) (acc:=[]) (j:=i) (λk p hp e he=>by simpa using hL.edge k p hp e he) ho
   simp only[List.length_nil,Nat.zero_add]at he
   rw[zat,he]at hj
   simp only[Option.getD_some]at hj
   rcases List.mem_append.1 hj with hj |hj
   ·exact hc i _ hi ho j hj
   ·obtain⟨e,he,hj⟩:=List.mem_flatMap.1 hj
    exact ih e (hL.edge i _ ho e he) (hc i _ hi ho e he) j (by rw[zat];exact hj)
  ·rw[z3m hil]at hj;cases hj
theorem z7b(hL:FlOk l m A bl bs){D:Nat->Prop}(hc: ∀i o,D i->l[i]?=some o->∀e∈zao o,D e){i:Nat}{o:Oper}(ho:l[i]?=some o)(he: ∀e∈zao o,D e): ∀j∈(lget (zam [] l) i).getD [],D j:=by
 intro j hj
 have hw:=zmp (r:=l) (acc:=[]) (j:=i) (λk p hp e he=>by simpa using hL.edge k p hp e he) ho
 simp only[List.length_nil,Nat.zero_add]at hw
 rw[zat,hw]at hj
 simp only[Option.getD_some]at hj
 rcases List.mem_append.1 hj with hj |hj
 ·exact he j hj
 ·obtain⟨e,he',hj⟩:=List.mem_flatMap.1 hj
  exact z4c hL hc e (he e he') j (by rw[zat];exact hj)
def z3n(P:Program)(T:TT)(B:Bs)(N:Nat)(l:List Oper)(m:Nat)(A:List FA)(bl:List (Nat×List Nat))(bs:List Nat)(K:St->Prop)(D:Nat->Prop)(a:Act)(w:World):Prop:=
 (∃F O nx k X bs',(∀i∈bs,D i\/i∈bs'.map (·.1))/\(∀b∈bs',b∈bl/\b.1∈bs/\¬D b.1)/\zk2 (bs'.map (·.1))=true/\(∀j,m<=j->¬D j)/\FX A D X/\Sat B N ⟨F++X,O,nx⟩ a w k/\zkl P T l A (λF O nx=>runv P T l (l.drop m) ⟨F++zlo A,O,nx⟩ K) bs' F O nx)\/
 ∃t S k,m<=t/\t<=l.length/\(∀j,D j↔j<t)/\Sat B N S a w k/\runv P T l (l.drop t) S K
theorem zm8{E:List (Nat×TF)->List (Nat×Option Ow)->Nat->Prop}{bs':List (Nat×List Nat)}{F:List (Nat×TF)}{O:List (Nat×Option Ow)}{nx:Nat}(h:zkl P T l A E bs' F O nx):(∀x∈A,fget F x.d=none)/\zkk P T l A F O nx A:=by
 have key:allB (λx=> !(memB x.1 (A.map (·.d)))) F=true->∀x∈A,fget F x.d=none:=λh x hx=>by
  cases hf:fget F x.d with
  |none=>rfl
  |some f=>
   obtain⟨y,hy,e⟩:=z69 hf
   have:=(zar.1 h) y hy
   rw[e]at this
   rw[za4.2 (List.mem_map.2 ⟨x,hx,rfl⟩)]at this
   cases this
 cases bs' with
 |nil=>exact⟨key h.1,h.2.1⟩
 |cons b r=>exact⟨key h.1,h.2.1⟩
theorem zrg(hL:FlOk l m A bl bs){K:St->Prop}{D:Nat->Prop}(h:z3n P T B N l m A bl bs K D a w):
  (∃F O nx k X bs',(∀i∈bs,D i\/i∈bs'.map (·.1))/\(∀b∈bs',b∈bl/\b.1∈bs/\¬D b.1)/\zk2 (bs'.map (·.1))=true/\(∀j,m<=j->¬D j)/\FX A D X/\Sat B N ⟨F++X,O,nx⟩ a w k/\zkl P T l A (λF O nx=>runv P T l (l.drop m) ⟨F++zlo A,O,nx⟩ K) bs' F O nx/\∃j0,j0<m/\¬D j0)\/
 ∃t S k,m<=t/\t<=l.length/\(∀j,D j↔j<t)/\Sat B N S a w k/\runv P T l (l.drop t) S K:=by
 rcases h with⟨F,O,nx,k,X,bs',h1,h2,h3,h4,h5,h6,h7⟩ |h
 ·by_cases hx: ∃j0,j0<m/\¬D j0
  ·exact .inl ⟨F,O,nx,k,X,bs',h1,h2,h3,h4,h5,h6,h7,hx⟩
  ·have hall: ∀j,j<m->D j:=λj hj=>Classical.byContradiction λhn=>hx ⟨j,hj,hn⟩
   cases bs' with
   |cons b r=>exact absurd (hall b.1 (hL.bsm b.1 (h2 b (by simp)).2.1).1) (h2 b (by simp)).2.2
   |nil=>
    refine .inr ⟨m,_,k,Nat.le_refl _,hL.le,λj=>⟨λhj=>?_,hall j⟩,?_,h7.2.2⟩
    ·exact Classical.byContradiction λhn=>h4 j (by omega) hj
    ·refine zj6 (λt f hf=>?_) h6
     rcases zpi hf with hf |hf
     ·exact zeg hf
     ·obtain⟨x,hx,e1,e2⟩:=(z3y hL.dd t f).1 hf
      have hnone:=(zm8 (bs':=[]) h7).1 x hx
      rw[e1]at hnone
      rw[zef hnone]
      refine(h5 t f).2 ⟨x,hx,?_,e1,e2⟩
      exact hall _ (hL.am x hx)
 ·exact .inr h
theorem zjcb(hT:TOk P T)(hN: ∀o∈l,∀d,o.dst=some d->d<N)(hL:FlOk l m A bl bs)(hdst: ∀x∈A,∀o,l[x.i]?=some o->True){K:St->Prop}(hQ: ∀S' a' w' k',K S'->Sat B N S' a' w' k'->Q .normal a' w'):
  ∀(fuel:Nat) (listed:Array Bool) (a:Act) (w:World),listed.size=l.length->listed.toList.count false=fuel->
   (∀i o,listed.getD i false=true->l[i]?=some o->∀e∈zao o,listed.getD e false=true)->z3n P T B N l m A bl bs K (λj=>listed.getD j false=true) a w->wpAny P .any l.toArray Q fuel listed a w:=by
 intro fuel
 induction fuel with
 |zero=>
  intro listed a w hsz hcnt hcl hnow
  have hall: ∀i,i<l.length->listed.getD i false=true:=λi hi=>by
   have hlt:i<listed.size:=by omega
   have hne:=List.count_eq_zero.1 hcnt
   have hmem:listed[i]∈listed.toList:=by simp
   cases hb:listed[i]with
   |true=>simp[hlt,hb]
   |false=>rw[hb]at hmem;exact absurd hmem hne
  have hempty:Region.ready .any l.toArray listed=[]:=by
   cases hr:Region.ready .any l.toArray listed with
   |nil=>rfl
   |cons x xs=>
    have hx:x∈Region.ready .any l.toArray listed:=by rw[hr];simp
    obtain⟨h1,o,ho,_⟩:=mem_ready.1 hx
    have hxl:x<l.length:=by
     have:=(Array.getElem?_eq_some_iff.1 ho).1
     simpa using this
    have:=hall x hxl
    have hlt:x<listed.size:=by omega
    simp[hlt]at h1 this
    rw[h1]at this;cases this
  refine⟨hempty,?_⟩
  rcases zrg hL hnow with⟨F,O,nx,k,X,bs',_,_,_,_,_,_,_,j0,h1,h2⟩ |⟨t,S,k,h1,h2,h3,h4,h5⟩
  ·exact absurd (hall j0 (by have:=hL.le;omega)) h2
  ·obtain rfl:t=l.length:=by
    rcases Nat.lt_or_ge t l.length with h |h
    ·have:=(h3 t).1 (hall t h);omega
    ·omega
   rw[List.drop_length]at h5
   exact hQ S a w k h5 h4
 |succ fuel ih=>
  intro listed a w hsz hcnt hcl hnow
  have unl: ∀i,i<l.length->(listed.getD i true=false↔¬listed.getD i false=true):=λi hi=>by
   have hlt:i<listed.size:=by omega
   simp[hlt]
  refine⟨λhempty=>?_,λi hi=>?_⟩
  ·exfalso
   have hmem:false∈listed.toList:=by
    rcases Classical.em (false∈listed.toList)with h |h
    ·exact h
    ·rw[List.count_eq_zero.2 h]at hcnt;cases hcnt
   obtain⟨i,hi⟩:=List.getElem?_of_mem hmem
   have hex: ∃i,i<l.length/\¬listed.getD i false=true:=by
    have hlt:=(List.getElem?_eq_some_iff.1 hi).1
    rw[Array.length_toList]at hlt
    refine⟨i,by omega,?_⟩
    have:listed[i]?=some false:=by simpa using hi
    simp[this]
   obtain⟨i,⟨hil,hin⟩,hleast⟩:=zfp hex
   have hrd:i∈Region.ready .any l.toArray listed:=by
    refine mem_ready.2 ⟨(unl i hil).2 hin,l[i],by simp[hil],λe he hb=>?_⟩
    have hee:e.on∈zao l[i]:=List.mem_filterMap.2 ⟨e,by simpa using he,by simp[hb]⟩
    have hlt:=hL.edge i _ (List.getElem?_eq_getElem hil) _ hee
    exact Classical.byContradiction λhn=>by
     have:=hleast e.on ⟨by omega,hn⟩
     omega
   rw[hempty]at hrd
   cases hrd
  ·obtain⟨h1,o,ho,hedge⟩:=mem_ready.1 hi
   have hoi:l[i]?=some o:=by simpa using ho
   have hil:i<l.length:=(List.getElem?_eq_some_iff.1 hoi).1
   have hni: ¬listed.getD i false=true:=(unl i hil).1 h1
   have hed: ∀e∈zao o,listed.getD e false=true:=λe he=>by
    obtain⟨x,hx,hxe⟩:=List.mem_filterMap.1 he
    split at hxe
    ·rename_i hb
     cases hxe
     exact hedge x (by simpa using hx) hb
    ·cases hxe
   have hws:=z7b (D:=λj=>listed.getD j false=true) hL hcl hoi hed
   have hget: ∀j,(listed.setIfInBounds i true).getD j false=true↔(listed.getD j false=true\/j=i):=λj=>by
    have hlt:i<listed.size:=by omega
    by_cases hji:j=i
    ·subst hji;simp[hlt]
    ·have:i≠j:=λe=>hji e.symm
     simp[Array.getElem?_setIfInBounds_ne this,hji]
   have hcl': ∀x p,(listed.setIfInBounds i true).getD x false=true->l[x]?=some p->∀e∈zao p,(listed.setIfInBounds i true).getD e false=true:=λx p hx hp e he=>by
    rw[hget]
    rcases(hget x).1 hx with hx |rfl
    ·exact .inl (hcl x p hx hp e he)
    ·rw[hoi]at hp;cases hp
     exact .inl (hed e he)
   have hcnt':(listed.setIfInBounds i true).toList.count false=fuel:=by
    have hlt:i<listed.toList.length:=by rw[Array.length_toList];omega
    have hlt':i<listed.size:=by omega
    have hv:listed.toList[i]=false:=by
     have:listed[i]?=some listed[i]:=Array.getElem?_eq_getElem hlt'
     simp[hlt']at hni
     simpa using hni
    rw[Array.toList_setIfInBounds,List.count_set hlt,hcnt,hv]
    simp
   have next: ∀a' w',z3n P T B N l m A bl bs K (λj=>(listed.setIfInBounds i true).getD j false=true) a' w'->wpAny P .any l.toArray Q fuel (listed.setIfInBounds i true) a' w':=
    λa' w' h=>ih _ a' w' (by simpa using hsz) hcnt' hcl' h
   rcases zrg hL hnow with⟨F,O,nx,k,X,bs',p1,p2,p3,p4,p5,p6,p7,j0,hj0,hn0⟩ |⟨t,S,k,ht1,ht2,ht3,hsat,hrv⟩
   ·have him:i<m:=by
     rcases Nat.lt_or_ge i m with h |h
     ·exact h
     ·exact absurd (hws j0 (hL.back i h hil j0 (by omega))) hn0
    have hgrd:=hL.grd i o him hoi
    obtain⟨hclean,hfA⟩:=zm8 p7
    unfold wpOp
    simp only[ho]
    rw[if_pos (by simp[Region.wanted,hgrd])]
    have p4': ∀j,m<=j->¬(listed.setIfInBounds i true).getD j false=true:=λj hj h=>by
     rcases(hget j).1 h with h |h
     ·exact p4 j hj h
     ·omega
    have dep_eq: ∀(ds:List Nat),(∀j∈ds,listed.getD j false=true/\∃y,zco A j=some y)->∀t f,fget (depF A ds X) t=some f↔fget X t=some f:=by
     intro ds
     induction ds with
     |nil=>intro _ t f;rfl
     |cons j r ihd=>
      intro hds t f
      obtain⟨hDj,y,hy⟩:=hds j (by simp)
      have ihr:=ihd (λj' hj'=>hds j' (by simp[hj'])) t f
      simp only[depF,hy]
      obtain⟨hyA,hyi⟩:=zm6 hy
      by_cases e:y.d=t
      ·have hX:fget X t=some y.f:=(p5 t y.f).2 ⟨y,hyA,by rw[hyi];exact hDj,e,rfl⟩
       rw[hX,e]
       simp[fget]
      ·rw[zij e]
       exact ihr
    have sat_dep: ∀(ds:List Nat),(∀j∈ds,listed.getD j false=true/\∃y,zco A j=some y)->Sat B N ⟨F++depF A ds X,O,nx⟩ a w k:=λds hds=>by
     refine zj6 (λt f hf=>?_) p6
     cases hF:fget F t with
     |some f0=>rw[zeg hF]at hf⊢;exact hf
     |none=>rw[zef hF]at hf⊢;exact(dep_eq ds hds t f).1 hf
    cases hx:zco A i with
    |some x=>
     obtain⟨hxA,hxi⟩:=zm6 hx
     obtain⟨o',ho',hstep⟩:=zrh hfA x hxA
     rw[hxi,hoi]at ho'
     cases ho'
     have hdeps:=hL.fa i x him hil hx
     have hfx:=dep_eq x.deps λj hj=>⟨hws j (hdeps j hj).1,(hdeps j hj).2⟩
     have hsat2:=sat_dep x.deps λj hj=>⟨hws j (hdeps j hj).1,(hdeps j hj).2⟩
     refine .inl (Oper.wp_mono ?_ (z31 hT (hstep X) B N a w k Q hsat2 (hN o (List.mem_of_getElem? hoi))))
     rintro a' w' ⟨k2,hs2⟩
     obtain⟨X',hX'⟩: ∃X',X'=(x.d,x.f)::X:=⟨_,rfl⟩
     refine next a' w' (.inl ⟨F,O,nx,k2,X',bs',λj hj=>?_,λj hj=>⟨(p2 j hj).1,(p2 j hj).2.1,λh=>?_⟩,p3,p4',λt f=>?_,?_,p7⟩)
     ·rcases p1 j hj with h |h
      ·exact .inl ((hget j).2 (.inl h))
      ·exact .inr h
     ·rcases(hget j.1).1 h with h |h
      ·exact(p2 j hj).2.2 h
      ·have:=(hL.bsm j.1 (p2 j hj).2.1).2
       rw[h,hx]at this;cases this
     ·subst hX'
      constructor
      ·intro h
       rcases zay h with⟨e,e'⟩ |⟨_,h⟩
       ·exact⟨x,hxA,(hget _).2 (.inr hxi),e,e'.symm⟩
       ·obtain⟨y,hy,hDy,e1,e2⟩:=(p5 t f).1 h
        exact⟨y,hy,(hget _).2 (.inl hDy),e1,e2⟩
      ·rintro⟨y,hy,hDy,e1,e2⟩
       by_cases e:x.d=t
       ·have:x=y:=zjdb hL.dd hxA hy (e.trans e1.symm)
        subst this
        rw[e,e2];simp[fget]
       ·rw[zij e]
        refine(p5 t f).2 ⟨y,hy,?_,e1,e2⟩
        rcases(hget _).1 hDy with h |h
        ·exact h
        ·have h3:=zw3 hL.ii hy
         rw[h,hx]at h3
         cases h3
         exact absurd e1 e
     ·refine zj6 (λt f hf=>?_) hs2
      subst hX'
      cases hF:fget F t with
      |some f0=>
       rw[zeg hF]at hf
       have hne:x.d≠t:=λe=>by rw[<-e,hclean x hxA]at hF;cases hF
       rw[zij hne,zeg hF]
       exact hf
      |none=>
       rw[zef hF]at hf
       by_cases e:x.d=t
       ·subst e;simpa[fget]using hf
       ·rw[zij e]at hf⊢
        rw[zef hF]
        exact(hfx t f).2 hf
    |none=>
     obtain⟨hib,hbk⟩:=hL.fb i him hil hx
     cases bs' with
     |nil=>
      rcases p1 i hib with h |h
      ·exact absurd h hni
      ·cases h
     |cons b r=>
      simp only[List.map_cons,zk2,Bool.and_eq_true]at p3
      have hbi:b.1=i:=by
       rcases p1 i hib with h |h
       ·exact absurd h hni
       ·rw[List.map_cons]at h
        rcases List.mem_cons.1 h with e |h
        ·exact e.symm
        ·have hlt:b.1<i:=by
          have:=(zar.1 p3.1) i h
          simp[Nat.blt]at this
          omega
         have:=hbk b.1 hlt (hL.bsm b.1 (p2 b (by simp)).2.1).2
         exact absurd (hws b.1 this) (p2 b (by simp)).2.2
      obtain⟨b0,ds⟩:=b
      simp only at hbi
      subst hbi
      simp only[zkl]at p7
      obtain⟨_,_,F',O',nx',hst,p7⟩:=p7
      rw[zat,hoi]at hst
      simp only at hst
      have hdd: ∀j∈ds,listed.getD j false=true/\∃y,zco A j=some y:=λj hj=>by
       have:=hL.fd (b0,ds) (p2 (b0,ds) (by simp)).1 j hj
       exact⟨hws j this.1,this.2⟩
      refine .inl (Oper.wp_mono ?_ (zek (Q:=Q) hT (sat_dep ds hdd) (hN o (List.mem_of_getElem? hoi)) (hst X)))
      rintro a' w' ⟨S',k',hsub,hs'⟩
      obtain⟨k2,hs2⟩:=hsub B N a' w' k' hs'
      have hs2:Sat B N ⟨F'++X,O',nx'⟩ a' w' k2:=by
       refine zj6 (λt f hf=>?_) hs2
       cases hF:fget F' t with
       |some f0=>rw[zeg hF]at hf⊢;exact hf
       |none=>rw[zef hF]at hf⊢;exact(dep_eq ds hdd t f).2 hf
      refine next a' w' (.inl ⟨F',O',nx',k2,X,r,λj hj=>?_,λj hj=>⟨(p2 j (by simp[hj])).1,(p2 j (by simp[hj])).2.1,λh=>?_⟩,p3.2,p4',λt f=>?_,hs2,p7⟩)
      ·rcases p1 j hj with h |h
       ·exact .inl ((hget j).2 (.inl h))
       ·rw[List.map_cons]at h
        rcases List.mem_cons.1 h with e |h
        ·exact .inl ((hget j).2 (.inr e))
        ·exact .inr h
      ·rcases(hget j.1).1 h with h |h
       ·exact(p2 j (by simp[hj])).2.2 h
       ·have h9:Nat.blt b0 j.1=true:=(zar.1 p3.1) j.1 (List.mem_map.2 ⟨j,hj,rfl⟩)
        simp[Nat.blt]at h9
        omega
      ·refine(p5 t f).trans ⟨λ⟨y,hy,hDy,e1,e2⟩=>⟨y,hy,(hget _).2 (.inl hDy),e1,e2⟩,λ⟨y,hy,hDy,e1,e2⟩=>⟨y,hy,?_,e1,e2⟩⟩
       rcases(hget _).1 hDy with h |h
       ·exact h
       ·have h3:=zw3 hL.ii hy
        rw[h,hx]at h3;cases h3
   ·have hit:i=t:=by
     have h1: ¬i<t:=λhh=>hni ((ht3 i).2 hh)
     rcases Nat.lt_or_ge t i with hlt |hge
     ·have h2:=(ht3 t).1 (hws t (hL.back i (by omega) hil t hlt))
      omega
     ·omega
    subst hit
    have hdrop:l.drop i=o::l.drop (i+1):=by
     rw[List.drop_eq_getElem_cons hil]
     congr 1
     have:=List.getElem?_eq_getElem hil
     rw[hoi]at this
     exact(Option.some.inj this).symm
    rw[hdrop]at hrv
    have hhd:=zoa (Q:=Q) hT (hN o (List.mem_of_getElem? hoi)) hsat hrv
    have nx2: ∀a' w',(∃S' k',runv P T l (l.drop (i+1)) S' K/\Sat B N S' a' w' k')->wpAny P .any l.toArray Q fuel (listed.setIfInBounds i true) a' w':=λa' w' ⟨S',k',hr',hs'⟩=>
     next a' w' (.inr ⟨i+1,S',k',by omega,by omega,λj=>(hget j).trans ((or_congr (ht3 j) Iff.rfl).trans (by omega)),hs',hr'⟩)
    unfold wpOp
    simp only[ho]
    split at hhd
    ·rename_i hw
     rw[if_pos hw]
     exact .inl (Oper.wp_mono nx2 hhd)
    ·rename_i hw
     rw[if_neg hw]
     exact nx2 _ _ hhd
theorem Vcode.float(hm:P.follows .mixedOrders=true)(hT:TOk P T){id:Nat}{ops:Array Oper}{Q:Exit->St->Prop}(m:Nat)(A:List FA)(bl:List (Nat×List Nat))(hok:zs1 ops.toList m A bl=true){F:List (Nat×TF)}{O:List (Nat×Option Ow)}{nx:Nat}(h0:Sub S ⟨F,O,nx⟩)
  (h:zkl P T ops.toList A (λF O nx=>runv P T ops.toList (ops.toList.drop m) ⟨F++zlo A,O,nx⟩ (Q .normal)) bl F O nx):Vcode P (.region id ops true) S Q:=by
 refine⟨λB N a w k Q' hs hd hQ=>?_⟩
 have hN: ∀o∈ops.toList,∀d,o.dst=some d->d<N:=λo ho d hod=>by
  simp only[za6,List.all_eq_true]at hd
  have h1:=hd o ho
  simp only[hod]at h1
  exact Nat.le_of_ble_eq_true h1
 have hL:=zfub hok
 obtain⟨k1,g,hs1⟩:=h0 B N a w k hs
 have hs2:SatE B N ⟨F,O,nx⟩ a {w with drawn:=w.drawn+1} k1 g:=hs1.ext (w':={w with drawn:=w.drawn+1}) ⟨rfl,rfl,rfl,Nat.le_refl _,λ_ _=>rfl⟩ λ_ _=>rfl
 refine wp_region_any hm ?_
 have:=zjcb (Q:=Q') (B:=B) (N:=N) (K:=Q .normal) hT hN hL (λ_ _ _ _=>trivial) (λS' a' w' k' hq hs'=>hQ _ S' a' w' k' hq hs') ops.size (Array.replicate ops.size false) a {w with drawn:=w.drawn+1} (by simp) (by simp) (λi o hi=>by
  exfalso
  rw[Array.getD_eq_getD_getElem?]at hi
  by_cases hlt:i<ops.size
  ·simp[hlt]at hi
  ·simp[hlt]at hi) (.inl ⟨F,O,nx,k1,[],bl,λi hi=> .inr hi,λi hi=>⟨hi,List.mem_map.2 ⟨i,hi,rfl⟩,λhh=>absurd hh (by by_cases hlt:i.1<ops.size<;>simp[hlt])⟩,hL.rises,λj _ hh=>absurd hh (by by_cases hlt:j<ops.size<;>simp[hlt]),λt f=>?_,?_,h⟩)
 ·simpa using this
 ·constructor
  ·intro h;simp[fget]at h
  ·rintro⟨x,hx,hD,_⟩
   exact absurd hD (by by_cases hlt:x.i<ops.size<;>simp[hlt])
 ·rw[List.append_nil]
  exact⟨g,hs2⟩
end
theorem Yld.read{P:Program}{T:TT}(hT:TOk P T){S:St}{o:Oper}{d:Nat}{e:TypeId}{sz n:Nat}{cells:List RV}(h:zeq P T S o λS'=>S'=⟨(d, .own S.nx)::S.F,(S.nx,some (.ch e sz n cells true))::S.O,S.nx+1⟩):
  Yld P S o ⟨(d, .r (.sl sz n cells))::S.F,S.O,S.nx⟩:=λB N a w k Q hs hd=>by
 obtain⟨g0,h0⟩:=id hs
 refine Oper.wp_mono ?_ (zek (Q:=Q) hT hs hd h)
 rintro a' w' ⟨S',k',rfl,g,h1⟩
 have ne: ∀id ow,oget S.O id=some ow->id≠S.nx:=λid ow ho e=>by
  have:=(h0.owns id ow ho).1
  omega
 have og: ∀id ow,oget S.O id=some ow->oget ((S.nx,some (.ch e sz n cells true))::S.O) id=some ow:=λid ow ho=>by
  simp only[oget,zm2 (λe=>ne id ow ho e.symm)]
  exact ho
 refine⟨k',g,h1.size,h1.defers,h1.keep,h1.kk,λt f hf=>?_,λid ow ho=>?_,λi j ow ow' b hi hj=>h1.apart i j ow ow' b (og i ow hi) (og j ow' hj)⟩
 ·simp only[fget]at hf
  split at hf
  ·rename_i hb
   cases hf
   have:=Nat.eq_of_beq_eq_true hb
   subst this
   have hv:=(h1.facts d (.own S.nx) (by simp[fget])).2
   exact⟨trivial,zed (f:= .own S.nx) h1 (by simp[St.rv,oget]) hv⟩
  ·rename_i hb
   have h2:=(h1.facts t f (by simp only[fget,hb];exact hf)).2
   exact⟨(h0.facts t f hf).1,h2⟩
 ·have h2:=h1.owns id ow (og id ow ho)
  have h3:=h0.owns id ow ho
  exact⟨h3.1,h3.2.1,h2.2.2.1,h2.2.2.2⟩
def repC(c:UInt8)(bp:Nat):List RV:=List.replicate bp (U8 c)++List.replicate (32-bp) .any
theorem zzh(c:UInt8){bp:Nat}(h:bp<=32):(repC c bp).length=32:=by simp[repC];omega
theorem z99(c:UInt8):(([c].map U8).take (Nat.min [c].length 32*1))++(List.replicate 32 RV.any).drop (Nat.min [c].length 32*1)=repC c 1:=rfl
theorem z98(c:UInt8){bp:Nat}(h:2*bp<=32)(h0:0<bp):(repC c bp).take (bp*1)++(((repC c bp).drop (0*1)).take (bp*1)).take (Nat.min bp (32-bp)*1)++(repC c bp).drop (bp*1+Nat.min bp (32-bp)*1)=repC c (2*bp):=by
 have e:Nat.min bp (32-bp)=bp:=Nat.min_eq_left (by omega)
 rw[e]
 simp only[repC,Nat.mul_one,Nat.zero_mul,List.drop_zero]
 have h1:(List.replicate bp (U8 c)).length=bp:=List.length_replicate
 have t1:(List.replicate bp (U8 c)++List.replicate (32-bp) RV.any).take bp=List.replicate bp (U8 c):=by rw[List.take_append_of_le_length (by rw[h1];exact Nat.le_refl _),List.take_of_length_le (by rw[h1];exact Nat.le_refl _)]
 rw[t1,List.take_of_length_le (by rw[h1];exact Nat.le_refl _),List.replicate_append_replicate,List.drop_append,h1,List.drop_eq_nil_of_le (by rw[h1];omega),List.nil_append,List.drop_replicate]
 congr 2<;>omega
theorem zhub{S:St}{j off m s0:Nat}{e:TypeId}{sz n:Nat}{ys:List RV}{pub:Bool}(ho:oget S.O j=some (.ch e sz n ys pub))(h:off+m*sz<=ys.length):rhsv S s0 (.cut j off m)=some (sz,m,(ys.drop off).take (m*sz)):=by
 have hb:Nat.ble (off+m*sz) ys.length=true:=Nat.ble_eq_true_of_le h
 unfold rhsv
 simp only[ho,hb]
def repI(c:UInt8)(bp:Nat):St:={F:=[(7, .r (I 32)),(8, .r (I 32)),(9, .own 0),(10, .r (I bp))],O:=[(0,some (.ch 5 1 32 (repC c bp) false))],nx:=1}
set_option maxHeartbeats 1000000 in
theorem zclb(c:UInt8):aG 425 [bs [c],I 32] (.own 5 1 32 (List.replicate 32 (U8 c))):=by
 refine aT Tryz.func425 rfl ?_
 refine zu rfl (zq ?_)
 refine zu rfl (zq ?_)
 refine Vint.n 1 rfl ?_
 refine Vint.n 32 rfl ?_
 refine ze (zjmb 1 32) ?_
 refine zu rfl ?_
 refine zu rfl (zq ?_)
 refine Vint.n 32 rfl ?_
 refine zu rfl (zq ?_)
 refine zu rfl (zq ?_)
 refine Vcall.ext (zneb 32 (by decide)) ?_
 refine Vstep.clip Tab_ok rfl rfl rfl rfl rfl rfl rfl rfl rfl (by decide) ?_
 refine Vstep.copy Tab_ok rfl rfl rfl rfl rfl rfl rfl rfl (z99 c) ?_
 refine zy (repI c) (λbp=>bp∈[1,2,4,8,16,32]) (λbp=>32-bp) 1 (by decide) (zac [(0,1)] rfl ⟨cr,cr,rfl,cr,trivial⟩ ⟨⟨rfl,rfl,rfl,rfl,zn _⟩,trivial⟩) ?_
 intro bp hbp
 refine zh (λh=>zp ?_) (λh=>zq ?_)
 ·simp only[zb]at h
  have h2:2*bp<=32:=by simp at hbp;omega
  have h0:0<bp:=by simp at hbp;omega
  refine Vstep.min rfl rfl rfl ?_
  refine Vdraw.code (Vcode.float mixed Tab_ok 8 [⟨0,67, .r (I bp),[]⟩,⟨1,68, .own 0,[]⟩,⟨2,69, .r (I bp),[]⟩,⟨3,70, .cut 0 (bp*1) (32-bp),[1,2]⟩,⟨4,71, .own 0,[]⟩,⟨5,72, .r (I bp),[]⟩,⟨6,73, .cut 0 (0*1) bp,[4,5]⟩] [(7,[3,6])] (by kernel_rfl)
   (F:=[(7, .r (I 32)),(8, .r (I 32)),(9, .own 0),(10, .r (I bp)),(11, .r (I bp))]) (O:=[(0,some (.ch 5 1 32 (repC c bp) false))]) (nx:=1) (zac [(0,0)] rfl ⟨cr,cr,rfl,cr,zf (by rw[if_neg (by omega)]),trivial⟩ ⟨⟨rfl,rfl,rfl,rfl,zn _⟩,trivial⟩) ?_)
  refine⟨rfl,⟨λY=>zo _,λY=>zo _,λY=>zo _,λY=>Vstep.val Tab_ok (Vcutn.mk' bp (32-bp) rfl (by omega) (by omega) (by omega) (zo _)),λY=>zo _,λY=>zo _,λY=>Vstep.val Tab_ok (Vcutn.mk' 0 bp rfl (by omega) (by omega) (by omega) (zo _)),trivial⟩,
   [(74, .r (I ((Nat.min bp (32-bp):Nat):Int))),(7, .r (I 32)),(8, .r (I 32)),(9, .own 0),(10, .r (I bp)),(11, .r (I bp))],(0,some (.ch 5 1 32 (repC c (2*bp)) false))::[(0,some (.ch 5 1 32 (repC c bp) false))],1,λY=>?_,?_⟩
  ·exact Vstep.copyCut Tab_ok rfl rfl rfl rfl rfl rfl (by rw[zzh c (by omega)];show bp*1+(32-bp)*1<=32;omega) rfl (zhub rfl (by rw[zzh c (by omega)];show 0*1+bp*1<=32;omega)) (z98 c h2 h0) (zo _)
  refine⟨rfl,⟨λY=>zo _,λY=>zo _,λY=>zo _,λY=>Vstep.val Tab_ok (Vcutn.mk' bp (32-bp) rfl (by omega) (by omega) (by omega) (zo _)),λY=>zo _,λY=>zo _,λY=>Vstep.val Tab_ok (Vcutn.mk' 0 bp rfl (by omega) (by omega) (by omega) (zo _)),trivial⟩,?_⟩
  refine zd (m:=((2*bp:Nat):Int)) (by rw[show Nat.min bp (32-bp)=bp from Nat.min_eq_left (by omega)];omega) (by rw[show Nat.min bp (32-bp)=bp from Nat.min_eq_left (by omega)];omega) ?_
  exact⟨2*bp,by simp at hbp⊢;omega,by omega,zac [(0,0)] rfl ⟨cr,cr,rfl,cr,trivial⟩ ⟨⟨rfl,rfl,rfl,rfl,zn _⟩,trivial⟩⟩
 ·simp only[zb]at h
  obtain rfl:bp=32:=by simp at hbp;omega
  exact rfl
section
def powE(a b:UInt8):List UInt8:=((List.replicate 32 (255:UInt8)).set 0 a).set 31 b
theorem zqp(a b:UInt8):(powE a b).length=32:=by simp[powE]
theorem ztd(a b:UInt8):aG 328 [U8 a,U8 b] (bch (powE a b)):=by
 refine za1 (T:=Tab) mixed Tab_ok Tryz.func328 rfl (by kernel_rfl) ?_
 refine zw ?_
 refine ze (zclb 255) ?_
 refine Vadr.mk' 0 rfl (by decide) ?_
 refine⟨by decide,_,rfl,?_⟩
 refine Vadr.mk' 31 rfl (by decide) ?_
 refine⟨Nat.le_refl _,(powE a b).map U8,rfl,?_⟩
 refine⟨_,zbd (id:=1) rfl,?_⟩
 exact rfl
def shr8(x:UInt8)(n:Nat):UInt8:=UInt8.ofNat (x.toNat/2^n)
theorem Vshr.b{a b:Int}{K:Int->Prop}(x:UInt8)(n:Nat)(ha:a=(x.toNat:Int))(hb:b=(n:Int))(hn:n<=8)(hK:K ((shr8 x n).toNat:Int)):Vshr .u8 a b K:=by
 subst ha;subst hb
 refine⟨by omega,_,?_,hK⟩
 have hx:=x.toNat_lt
 have h1:(shr8 x n).toNat=x.toNat/2^n:=by
  unfold shr8
  rw[UInt8.toNat_ofNat']
  exact Nat.mod_eq_of_lt (Nat.lt_of_le_of_lt (Nat.div_le_self _ _) hx)
 have hb:IntKind.u8.bits=8:=rfl
 rw[h1,Int.toNat_natCast,hb,Nat.min_eq_left hn,Int.fdiv_eq_ediv_of_nonneg _ (Int.pow_nonneg (by omega))]
 norm_cast
def bitE(e:List UInt8)(k:Nat):UInt8:=shr8 (e.getD (k/8) 0) (k%8)&&&1
def one:Fe:=⟨1&&&msk,shrW 1 51,0,0,0⟩
def powN(x:Fe)(e:List UInt8)(n:Nat):Nat->Fe
 |0=>one
 |j+1=>if bitE e (n-1-j)=1 then((powN x e n j).mul (powN x e n j)).mul x else(powN x e n j).mul (powN x e n j)
theorem zuz(x:Fe)(e:List UInt8)(n:Nat):powN x e n 0=one:=rfl
theorem zn3(x:Fe)(e:List UInt8)(n j:Nat):powN x e n (j+1)=if bitE e (n-1-j)=1 then((powN x e n j).mul (powN x e n j)).mul x else(powN x e n j).mul (powN x e n j):=rfl
attribute [irreducible] powN one
def Fe.pow(x:Fe)(e:List UInt8):Fe:=powN x e (8*e.length) (8*e.length)
abbrev Fe.bx(x:Fe):Ow:= .box [.r (W x.a), .r (W x.b), .r (W x.c), .r (W x.d), .r (W x.e)]
def zFe:Ow:= .box [.r (.i .u64 0), .r (.i .u64 0), .r (.i .u64 0), .r (.i .u64 0), .r (.i .u64 0)]
def powI(x:Fe)(e:List UInt8)(j:Nat):St:={F:=[(1, .r (bs e)),(2, .own 0),(4, .own 1),(5, .own 2),(6, .r (I ((8*e.length-j:Nat):Int)))],O:=[(0,some x.bx),(1,some zFe),(2,some (powN x e (8*e.length) j).bx)],nx:=3}
theorem zor{e:List UInt8}{k:Nat}(h:k/8<e.length):(((e.map U8).drop (((k/8:Nat):Int).toNat*1)).take 1)[0]?=some (U8 (e.getD (k/8) 0)):=by
 rw[Int.toNat_natCast,Nat.mul_one,List.getElem?_take,if_pos (by omega),List.getElem?_drop,Nat.add_zero]
 exact zeu h
theorem zol{e:List UInt8}{k:Nat}(h:(((bitE e k).toNat:Int)==1)=true):bitE e k=1:=by
 rw[beq_iff_eq]at h
 have:(bitE e k).toNat=1:=by omega
 exact UInt8.toNat_inj.1 this
theorem zlg{e:List UInt8}{k:Nat}(h:(((bitE e k).toNat:Int)==1)=false): ¬bitE e k=1:=by
 intro h1
 rw[h1]at h
 exact absurd h (by decide)
theorem zlw:aG 210 [.i .u64 1] (.r (.ag one.v)):=by
 have h:=zju 1
 unfold one
 exact h
set_option maxHeartbeats 2000000 in
theorem z47(x:Fe)(e:List UInt8)(he:e.length<=1000000):aG 327 [.ag x.v,bs e] (.r (.ag (x.pow e).v)):=by
 refine aT Tryz.func327 rfl ?_
 refine Vcode.scope mixed Tab_ok 0 (powI x e) (λj=>j<=8*e.length) (λj=>8*e.length-j) rfl ?_ ?_
 ·refine ze zlw ?_
  obtain⟨J,hJ⟩: ∃J,J=0:=⟨0,rfl⟩
  have hj:J<=8*e.length:=by omega
  have e0:=zuz x e (8*e.length)
  rw[<-hJ]at e0
  refine zd (m:=((8*e.length-J:Nat):Int)) (by omega) (by omega) ?_
  rw[<-e0]
  refine zd (m:=((8*e.length-J:Nat):Int)-1) rfl (by omega) ?_
  refine zh (λh=>zp ?_) (λh=>zq ?_)
  ·simp only[zb]at h
   obtain⟨k,hk⟩: ∃k,k=8*e.length-1-J:=⟨_,rfl⟩
   have ek:((8*e.length-J:Nat):Int)-1=(k:Int):=by omega
   have hd:k/8<e.length:=by omega
   have hs:=zn3 x e (8*e.length) J
   rw[<-hk]at hs
   rw[ek]
   refine za rfl rfl ?_
   refine ze (zds (powN x e (8*e.length) J)) ?_
   refine Vquo.i64 k 8 rfl rfl (by omega) (by omega) ?_
   refine zm (by omega) (by omega) rfl (zg (f:=U8 (e.getD (k/8) 0)) (zor hd) ?_)
   refine Vrem.nat k 8 rfl rfl (by omega) ?_
   refine Vshr.b _ (k%8) rfl rfl (by omega) ?_
   refine Vbits.and8 _ 1 rfl rfl ?_
   refine zh (λh=>zp ?_) (λh=>zq ?_)
   ·have hb:bitE e k=1:=zol h
    rw[if_pos hb]at hs
    refine za rfl rfl ?_
    refine za rfl rfl ?_
    refine ze (zbh ((powN x e (8*e.length) J).mul (powN x e (8*e.length) J)) x) ?_
    exact⟨J+1,by omega,zac [(0,0),(1,1),(2,2)] rfl ⟨cr,rfl,rfl,rfl,zf (by rw[hk];congr 2;omega),trivial⟩ ⟨(aC (aA aZ)),(aC (aA aZ)),by rw[hs];exact⟨_,_,rfl,cr,_,_,rfl,cr,_,_,rfl,cr,_,_,rfl,cr,_,_,rfl,cr,rfl⟩,trivial⟩⟩
   ·have hb: ¬bitE e k=1:=zlg h
    rw[if_neg hb]at hs
    exact⟨J+1,by omega,zac [(0,0),(1,1),(2,2)] rfl ⟨cr,rfl,rfl,rfl,zf (by rw[hk];congr 2;omega),trivial⟩ ⟨(aC (aA aZ)),(aC (aA aZ)),by rw[hs];exact⟨_,_,rfl,cr,_,_,rfl,cr,_,_,rfl,cr,_,_,rfl,cr,_,_,rfl,cr,rfl⟩,trivial⟩⟩
  ·simp only[zb]at h
   have hj':J=8*e.length:=by omega
   refine za rfl rfl ?_
   refine za rfl rfl ?_
   exact zf (by unfold Fe.pow;rw[<-hj'])
 ·intro J hj
  refine zd (m:=((8*e.length-J:Nat):Int)-1) rfl (by omega) ?_
  refine zh (λh=>zp ?_) (λh=>zq ?_)
  ·simp only[zb]at h
   obtain⟨k,hk⟩: ∃k,k=8*e.length-1-J:=⟨_,rfl⟩
   have ek:((8*e.length-J:Nat):Int)-1=(k:Int):=by omega
   have hd:k/8<e.length:=by omega
   have hs:=zn3 x e (8*e.length) J
   rw[<-hk]at hs
   rw[ek]
   refine za rfl rfl ?_
   refine ze (zds (powN x e (8*e.length) J)) ?_
   refine Vquo.i64 k 8 rfl rfl (by omega) (by omega) ?_
   refine zm (by omega) (by omega) rfl (zg (f:=U8 (e.getD (k/8) 0)) (zor hd) ?_)
   refine Vrem.nat k 8 rfl rfl (by omega) ?_
   refine Vshr.b _ (k%8) rfl rfl (by omega) ?_
   refine Vbits.and8 _ 1 rfl rfl ?_
   refine zh (λh=>zp ?_) (λh=>zq ?_)
   ·have hb:bitE e k=1:=zol h
    rw[if_pos hb]at hs
    refine za rfl rfl ?_
    refine za rfl rfl ?_
    refine ze (zbh ((powN x e (8*e.length) J).mul (powN x e (8*e.length) J)) x) ?_
    exact⟨J+1,by omega,by omega,zac [(0,0),(1,1),(2,2)] rfl ⟨cr,rfl,rfl,rfl,zf (by rw[hk];congr 2;omega),trivial⟩ ⟨(aC (aA aZ)),(aC (aA aZ)),by rw[hs];exact⟨_,_,rfl,cr,_,_,rfl,cr,_,_,rfl,cr,_,_,rfl,cr,_,_,rfl,cr,rfl⟩,trivial⟩⟩
   ·have hb: ¬bitE e k=1:=zlg h
    rw[if_neg hb]at hs
    exact⟨J+1,by omega,by omega,zac [(0,0),(1,1),(2,2)] rfl ⟨cr,rfl,rfl,rfl,zf (by rw[hk];congr 2;omega),trivial⟩ ⟨(aC (aA aZ)),(aC (aA aZ)),by rw[hs];exact⟨_,_,rfl,cr,_,_,rfl,cr,_,_,rfl,cr,_,_,rfl,cr,_,_,rfl,cr,rfl⟩,trivial⟩⟩
  ·simp only[zb]at h
   have hj':J=8*e.length:=by omega
   refine za rfl rfl ?_
   refine za rfl rfl ?_
   exact zf (by unfold Fe.pow;rw[<-hj'])
end
end Go.Proofs.YtkegaaonpekkgaaGreat.Sx
