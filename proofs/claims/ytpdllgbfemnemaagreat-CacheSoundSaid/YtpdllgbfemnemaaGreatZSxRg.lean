import Derived.Test.YtpdllgbfemnemaaGreatZSxU
import Derived.Maps.RangeRun
namespace Go.Proofs.YtpdllgbfemnemaaGreat.Sx
open Go.RowKit
section
structure FA where
 i:Nat
 d:Nat
 f:TF
 deps:List Nat
def zd3:List FA->Nat->Option FA
 |[],_=>none
 |x::r,i=>match Nat.beq x.i i with
  |true=>some x
  |false=>zd3 r i
def faIn(A:List FA)(i:Nat):Bool:=match zd3 A i with
 |some _=>true
 |none=>false
def depF(A:List FA):List Nat->List (Nat×TF)->List (Nat×TF)
 |[],Y=>Y
 |j::r,Y=>match zd3 A j with
  |some x=>(x.d,x.f)::depF A r Y
  |none=>depF A r Y
def zn8:List FA->List (Nat×TF)
 |[]=>[]
 |x::r=>(x.d,x.f)::zn8 r
def znt(P:Program)(T:TT)(l:List Oper)(A:List FA)(F:List (Nat×TF))(O:List (Nat×Option Ow))(nx:Nat):List FA->Prop
 |[]=>True
 |x::r=>(match lget l x.i with
  |some o=>∀Y,zju P T ⟨F++depF A x.deps Y,O,nx⟩ o λS'=>Sub S' ⟨(x.d,x.f)::(F++depF A x.deps Y),O,nx⟩
  |none=>False)/\znt P T l A F O nx r
def znn(P:Program)(T:TT)(l:List Oper)(A:List FA)(E:List (Nat×TF)->List (Nat×Option Ow)->Nat->Prop):List (Nat×List Nat)->List (Nat×TF)->List (Nat×Option Ow)->Nat->Prop
 |[],F,O,nx=>allB (λx=> !(memB x.1 (A.map (·.d)))) F=true/\znt P T l A F O nx A/\E F O nx
 |b::bs,F,O,nx=>allB (λx=> !(memB x.1 (A.map (·.d)))) F=true/\znt P T l A F O nx A/\∃F' O' nx',(match lget l b.1 with
  |some o=>∀Y,zju P T ⟨F++depF A b.2 Y,O,nx⟩ o λS'=>Sub S' ⟨F'++depF A b.2 Y,O',nx'⟩
  |none=>False)/\znn P T l A E bs F' O' nx'
def znb:List Nat->Bool
 |[]=>true
 |x::r=>allB (λy=>Nat.blt x y) r&&znb r
def zwk(l:List Oper)(m:Nat)(A:List FA)(bl:List (Nat×List Nat)):Bool:=
 let bs:=bl.map (·.1)
 let ws:=zas [] l
 Nat.ble m l.length&&(zir (A.map (·.d))&&(zir (A.map (·.i))&&(znb bs&&(allB (λi=>Nat.blt i m&& !(faIn A i)) bs&&(allB (λx=>Nat.blt x.i m) A&&(allB (λb=>allB (λj=>memB j ((lget ws b.1).getD [])&&faIn A j) b.2) bl&&
 allB (λi=>match lget l i with
  |none=>false
  |some o=>allB (λe=>Nat.blt e i) (zbd o)&&
   (if Nat.blt i m then(match o.guard with |none=>true |some _=>false)&&(match zd3 A i with
    |some x=>allB (λj=>memB j ((lget ws i).getD [])&&faIn A j) x.deps
    |none=>memB i bs&&allB (λj=>faIn A j||memB j ((lget ws i).getD [])) (List.range i))
   else allB (λj=>memB j ((lget ws i).getD [])) (List.range i))) (List.range l.length)))))))
theorem zp5: ∀{A:List FA} {i:Nat} {x:FA},zd3 A i=some x->x∈A/\x.i=i
 |[],i,x,h=>by simp[zd3]at h
 |y::r,i,x,h=>by
  simp only[zd3]at h
  split at h
  ·rename_i hb;cases h;exact⟨by simp,Nat.eq_of_beq_eq_true hb⟩
  ·have:=zp5 h;exact⟨List.mem_cons_of_mem _ this.1,this.2⟩
theorem zz8{A:List FA}{x:FA}(hn:(A.map (·.i)).Nodup)(hx:x∈A):zd3 A x.i=some x:=by
 induction A with
 |nil=>cases hx
 |cons y r ih=>
  simp only[List.map_cons,List.nodup_cons]at hn
  rcases List.mem_cons.1 hx with rfl |hx
  ·simp[zd3]
  ·have:y.i≠x.i:=λe=>hn.1 (by rw[e];exact List.mem_map.2 ⟨x,hx,rfl⟩)
   simp only[zd3,zgj this]
   exact ih hn.2 hx
theorem zvo{P:Program}{T:TT}{l:List Oper}{A:List FA}{F:List (Nat×TF)}{O:List (Nat×Option Ow)}{nx:Nat}: ∀{r:List FA},znt P T l A F O nx r->∀x∈r,∃o,l[x.i]?=some o/\∀Y,zju P T ⟨F++depF A x.deps Y,O,nx⟩ o λS'=>Sub S' ⟨(x.d,x.f)::(F++depF A x.deps Y),O,nx⟩
 |[],_,x,hx=>by cases hx
 |y::r,h,x,hx=>by
  simp only[znt]at h
  rcases List.mem_cons.1 hx with rfl |hx
  ·have h1:=h.1
   rw[zb0]at h1
   split at h1
   ·rename_i o ho;exact⟨o,ho,h1⟩
   ·exact h1.elim
  ·exact zvo h.2 x hx
def zgbb(A:List FA)(D:Nat->Prop)(t:Nat)(f:TF):Prop:=∃x∈A,D x.i/\x.d=t/\x.f=f
def FX(A:List FA)(D:Nat->Prop)(X:List (Nat×TF)):Prop:=∀t f,fget X t=some f↔zgbb A D t f
theorem zfub{A:List FA}(hn:(A.map (·.d)).Nodup): ∀{x y:FA},x∈A->y∈A->x.d=y.d->x=y:=by
 induction A with
 |nil=>intro x y hx;cases hx
 |cons z r ih=>
  intro x y hx hy e
  simp only[List.map_cons,List.nodup_cons]at hn
  rcases List.mem_cons.1 hx with ex |hx2
  ·rcases List.mem_cons.1 hy with ey |hy2
   ·rw[ex,ey]
   ·exact absurd (List.mem_map.2 ⟨y,hy2,by rw[<-e,ex]⟩) hn.1
  ·rcases List.mem_cons.1 hy with ey |hy2
   ·exact absurd (List.mem_map.2 ⟨x,hx2,by rw[e,ey]⟩) hn.1
   ·exact ih hn.2 hx2 hy2 e
theorem z6q{A:List FA}(hn:(A.map (·.d)).Nodup): ∀t f,fget (zn8 A) t=some f↔∃x∈A,x.d=t/\x.f=f:=by
 induction A with
 |nil=>intro t f;simp[zn8,fget]
 |cons y r ih=>
  intro t f
  simp only[List.map_cons,List.nodup_cons]at hn
  constructor
  ·intro h
   rcases zca h with⟨e,e'⟩ |⟨_,h⟩
   ·exact⟨y,by simp,e,e'.symm⟩
   ·obtain⟨x,hx,h1,h2⟩:=(ih hn.2 t f).1 h
    exact⟨x,List.mem_cons_of_mem _ hx,h1,h2⟩
  ·rintro⟨x,hx,h1,h2⟩
   simp only[zn8]
   rcases List.mem_cons.1 hx with rfl |hx
   ·rw[h1];simp[fget,h2]
   ·have:y.d≠t:=λe=>hn.1 (by rw[e,<-h1];exact List.mem_map.2 ⟨x,hx,rfl⟩)
    rw[zk5 this]
    exact(ih hn.2 t f).2 ⟨x,hx,h1,h2⟩
section
variable {P:Program} {T:TT} {B:Bs} {N:Nat} {S:St} {a:Act} {w:World} {k:Kp} {g:Env} {Q:Exit->Act->World->Prop} {l:List Oper} {m:Nat} {A:List FA} {bl:List (Nat×List Nat)} {bs:List Nat}
theorem zmd{F F':List (Nat×TF)}{O:List (Nat×Option Ow)}{nx:Nat}(h: ∀t f,fget F' t=some f->fget F t=some f)(hs:Sat B N ⟨F,O,nx⟩ a w k):Sat B N ⟨F',O,nx⟩ a w k:=by
 obtain⟨g,hs⟩:=hs
 exact⟨g,hs.size,hs.defers,hs.keep,hs.kk,λt f hf=>hs.facts t f (h t f hf),hs.owns,hs.apart⟩
theorem zf1{F F':List (Nat×TF)}{t:Nat}(h:fget F t=none):fget (F++F') t=fget F' t:=by
 induction F with
 |nil=>rfl
 |cons x r ih=>
  obtain⟨x1,x2⟩:=x
  rw[List.cons_append]
  simp only[fget]at h⊢
  split at h
  ·cases h
  ·exact ih h
theorem zfy{F F':List (Nat×TF)}{t:Nat}{f:TF}(h:fget F t=some f):fget (F++F') t=some f:=by
 induction F with
 |nil=>simp[fget]at h
 |cons x r ih=>
  obtain⟨x1,x2⟩:=x
  rw[List.cons_append]
  simp only[fget]at h⊢
  split at h
  ·exact h
  ·exact ih h
theorem z9t{F:List (Nat×TF)}{t:Nat}{f:TF}(h:fget F t=some f): ∃x∈F,x.1=t:=by
 induction F with
 |nil=>simp[fget]at h
 |cons x r ih=>
  obtain⟨x1,x2⟩:=x
  rcases zca h with⟨e,_⟩ |⟨_,h⟩
  ·exact⟨(x1,x2),by simp,e⟩
  ·obtain⟨y,hy,e⟩:=ih h;exact⟨y,List.mem_cons_of_mem _ hy,e⟩
structure FlOk (l:List Oper) (m:Nat) (A:List FA) (bl:List (Nat×List Nat)) (bs:List Nat):Prop where
 le:m<=l.length
 dd:(A.map (·.d)).Nodup
 ii:(A.map (·.i)).Nodup
 rises:znb bs=true
 bsm: ∀i∈bs,i<m/\zd3 A i=none
 am: ∀x∈A,x.i<m
 edge: ∀i o,l[i]?=some o->∀e∈zbd o,e<i
 grd: ∀i o,i<m->l[i]?=some o->o.guard=none
 fa: ∀i x,i<m->i<l.length->zd3 A i=some x->∀j∈x.deps,j∈(lget (zas [] l) i).getD []/\∃y,zd3 A j=some y
 fb: ∀i,i<m->i<l.length->zd3 A i=none->i∈bs/\∀j,j<i->zd3 A j=none->j∈(lget (zas [] l) i).getD []
 back: ∀i,m<=i->i<l.length->∀j,j<i->j∈(lget (zas [] l) i).getD []
 fd: ∀b∈bl,∀j∈b.2,j∈(lget (zas [] l) b.1).getD []/\∃y,zd3 A j=some y
theorem zepb(h:zwk l m A bl=true):FlOk l m A bl (bl.map (·.1)):=by
 simp only[zwk,Bool.and_eq_true,Nat.ble_eq]at h
 obtain⟨h1,h2,h3,h4,h5,h55,h56,h6⟩:=h
 have blt: ∀{x y:Nat},Nat.blt x y=true↔x<y:=λ{x y}=>by simp[Nat.blt];omega
 have at_: ∀i o,l[i]?=some o->allB (λe=>Nat.blt e i) (zbd o)=true/\
   (if Nat.blt i m then(match o.guard with |none=>true |some _=>false)&&(match zd3 A i with
    |some x=>allB (λj=>memB j ((lget (zas [] l) i).getD [])&&faIn A j) x.deps
    |none=>memB i (bl.map (·.1))&&allB (λj=>faIn A j||memB j ((lget (zas [] l) i).getD [])) (List.range i))
   else allB (λj=>memB j ((lget (zas [] l) i).getD [])) (List.range i))=true:=λi o ho=>by
  have:=(zbk.1 h6) i (List.mem_range.2 (List.getElem?_eq_some_iff.1 ho).1)
  rw[zb0,ho]at this
  simpa only[Bool.and_eq_true]using this
 have inA: ∀j,faIn A j=true->∃y,zd3 A j=some y:=λj hj=>by
  unfold faIn at hj
  split at hj
  ·rename_i y hy;exact⟨y,hy⟩
  ·cases hj
 refine⟨h1,zdt h2,zdt h3,h4,λi hi=>?_,λx hx=>blt.1 ((zbk.1 h55) x hx),λi o ho e he=>?_,λi o hi ho=>?_,λi x hi hil hx j hj=>?_,λi hi hil hx=>?_,λi hi hil j hj=>?_,λb hb j hj=>?_⟩
 ·have:=(zbk.1 h5) i hi
  simp only[Bool.and_eq_true,Bool.not_eq_true']at this
  refine⟨blt.1 this.1,?_⟩
  have h7:=this.2
  unfold faIn at h7
  split at h7
  ·cases h7
  ·assumption
 ·exact blt.1 ((zbk.1 (at_ i o ho).1) e he)
 ·have:=(at_ i o ho).2
  rw[if_pos (blt.2 hi)]at this
  simp only[Bool.and_eq_true]at this
  have h7:=this.1
  split at h7
  ·assumption
  ·cases h7
 ·have:=(at_ i _ (List.getElem?_eq_getElem hil)).2
  rw[if_pos (blt.2 hi)]at this
  simp only[Bool.and_eq_true,hx]at this
  have h7:=(zbk.1 this.2) j hj
  simp only[Bool.and_eq_true]at h7
  exact⟨zbt.1 h7.1,inA j h7.2⟩
 ·have:=(at_ i _ (List.getElem?_eq_getElem hil)).2
  rw[if_pos (blt.2 hi)]at this
  simp only[Bool.and_eq_true,hx]at this
  refine⟨zbt.1 this.2.1,λj hj hjn=>?_⟩
  have h7:=(zbk.1 this.2.2) j (List.mem_range.2 hj)
  simp only[Bool.or_eq_true]at h7
  rcases h7 with h7 |h7
  ·obtain⟨y,hy⟩:=inA j h7
   rw[hy]at hjn;cases hjn
  ·exact zbt.1 h7
 ·have:=(at_ i _ (List.getElem?_eq_getElem hil)).2
  rw[if_neg (λh=>by have:=blt.1 h;omega)]at this
  exact zbt.1 ((zbk.1 this) j (List.mem_range.2 hj))
 ·have h7:=(zbk.1 ((zbk.1 h56) b hb)) j hj
  simp only[Bool.and_eq_true]at h7
  exact⟨zbt.1 h7.1,inA j h7.2⟩
theorem z6n(hL:FlOk l m A bl bs){D:Nat->Prop}(hc: ∀i o,D i->l[i]?=some o->∀e∈zbd o,D e): ∀i,D i->∀j∈(lget (zas [] l) i).getD [],D j:=by
 intro i
 induction i using Nat.strongRecOn with
 |_ i ih=>
  intro hi j hj
  rcases Nat.lt_or_ge i l.length with hil |hil
  ·have ho:=List.getElem?_eq_getElem hil
   have he:=zot (r:=l) (acc:=[]) (j:=i) (λk p hp e he=>by simpa using hL.edge k p hp e he) ho
   simp only[List.length_nil,Nat.zero_add]at he
   rw[zb0,he]at hj
   simp only[Option.getD_some]at hj
   rcases List.mem_append.1 hj with hj |hj
   ·exact hc i _ hi ho j hj
   ·obtain⟨e,he,hj⟩:=List.mem_flatMap.1 hj
    exact ih e (hL.edge i _ ho e he) (hc i _ hi ho e he) j (by rw[zb0];exact hj)
  ·rw[z21 hil]at hj;cases hj
theorem z9i(hL:FlOk l m A bl bs){D:Nat->Prop}(hc: ∀i o,D i->l[i]?=some o->∀e∈zbd o,D e){i:Nat}{o:Oper}(ho:l[i]?=some o)(he: ∀e∈zbd o,D e): ∀j∈(lget (zas [] l) i).getD [],D j:=by
 intro j hj
 have hw:=zot (r:=l) (acc:=[]) (j:=i) (λk p hp e he=>by simpa using hL.edge k p hp e he) ho
 simp only[List.length_nil,Nat.zero_add]at hw
 rw[zb0,hw]at hj
 simp only[Option.getD_some]at hj
 rcases List.mem_append.1 hj with hj |hj
 ·exact he j hj
 ·obtain⟨e,he',hj⟩:=List.mem_flatMap.1 hj
  exact z6n hL hc e (he e he') j (by rw[zb0];exact hj)
def z6f(P:Program)(T:TT)(B:Bs)(N:Nat)(l:List Oper)(m:Nat)(A:List FA)(bl:List (Nat×List Nat))(bs:List Nat)(K:St->Prop)(D:Nat->Prop)(a:Act)(w:World):Prop:=
 (∃F O nx k X bs',(∀i∈bs,D i\/i∈bs'.map (·.1))/\(∀b∈bs',b∈bl/\b.1∈bs/\¬D b.1)/\znb (bs'.map (·.1))=true/\(∀j,m<=j->¬D j)/\FX A D X/\Sat B N ⟨F++X,O,nx⟩ a w k/\znn P T l A (λF O nx=>runv P T l (l.drop m) ⟨F++zn8 A,O,nx⟩ K) bs' F O nx)\/
 ∃t S k,m<=t/\t<=l.length/\(∀j,D j↔j<t)/\Sat B N S a w k/\runv P T l (l.drop t) S K
theorem zp0{E:List (Nat×TF)->List (Nat×Option Ow)->Nat->Prop}{bs':List (Nat×List Nat)}{F:List (Nat×TF)}{O:List (Nat×Option Ow)}{nx:Nat}(h:znn P T l A E bs' F O nx):(∀x∈A,fget F x.d=none)/\znt P T l A F O nx A:=by
 have key:allB (λx=> !(memB x.1 (A.map (·.d)))) F=true->∀x∈A,fget F x.d=none:=λh x hx=>by
  cases hf:fget F x.d with
  |none=>rfl
  |some f=>
   obtain⟨y,hy,e⟩:=z9t hf
   have:=(zbk.1 h) y hy
   rw[e]at this
   rw[zbt.2 (List.mem_map.2 ⟨x,hx,rfl⟩)]at this
   cases this
 cases bs' with
 |nil=>exact⟨key h.1,h.2.1⟩
 |cons b r=>exact⟨key h.1,h.2.1⟩
theorem zu4(hL:FlOk l m A bl bs){K:St->Prop}{D:Nat->Prop}(h:z6f P T B N l m A bl bs K D a w):
  (∃F O nx k X bs',(∀i∈bs,D i\/i∈bs'.map (·.1))/\(∀b∈bs',b∈bl/\b.1∈bs/\¬D b.1)/\znb (bs'.map (·.1))=true/\(∀j,m<=j->¬D j)/\FX A D X/\Sat B N ⟨F++X,O,nx⟩ a w k/\znn P T l A (λF O nx=>runv P T l (l.drop m) ⟨F++zn8 A,O,nx⟩ K) bs' F O nx/\∃j0,j0<m/\¬D j0)\/
 ∃t S k,m<=t/\t<=l.length/\(∀j,D j↔j<t)/\Sat B N S a w k/\runv P T l (l.drop t) S K:=by
 rcases h with⟨F,O,nx,k,X,bs',h1,h2,h3,h4,h5,h6,h7⟩ |h
 ·by_cases hx: ∃j0,j0<m/\¬D j0
  ·exact .inl ⟨F,O,nx,k,X,bs',h1,h2,h3,h4,h5,h6,h7,hx⟩
  ·have hall: ∀j,j<m->D j:=λj hj=>Classical.byContradiction λhn=>hx ⟨j,hj,hn⟩
   cases bs' with
   |cons b r=>exact absurd (hall b.1 (hL.bsm b.1 (h2 b (by simp)).2.1).1) (h2 b (by simp)).2.2
   |nil=>
    refine .inr ⟨m,_,k,Nat.le_refl _,hL.le,λj=>⟨λhj=>?_,hall j⟩,?_,h7.2.2⟩
    ·exact Classical.byContradiction λhn=>h4 j (by omega) hj
    ·refine zmd (λt f hf=>?_) h6
     rcases zsj hf with hf |hf
     ·exact zfy hf
     ·obtain⟨x,hx,e1,e2⟩:=(z6q hL.dd t f).1 hf
      have hnone:=(zp0 (bs':=[]) h7).1 x hx
      rw[e1]at hnone
      rw[zf1 hnone]
      refine(h5 t f).2 ⟨x,hx,?_,e1,e2⟩
      exact hall _ (hL.am x hx)
 ·exact .inr h
theorem zgcb(hT:TOk P T)(hN: ∀o∈l,∀d,o.dst=some d->d<N)(hL:FlOk l m A bl bs)(hdst: ∀x∈A,∀o,l[x.i]?=some o->True){K:St->Prop}(hQ: ∀S' a' w' k',K S'->Sat B N S' a' w' k'->Q .normal a' w'):
  ∀(fuel:Nat) (listed:Array Bool) (a:Act) (w:World),listed.size=l.length->listed.toList.count false=fuel->
   (∀i o,listed.getD i false=true->l[i]?=some o->∀e∈zbd o,listed.getD e false=true)->z6f P T B N l m A bl bs K (λj=>listed.getD j false=true) a w->wpAny P .any l.toArray Q fuel listed a w:=by
 intro fuel
 induction fuel with
 |zero=>
  intro listed a w hsz hcnt hcl hnow
  have hall: ∀i,i<l.length->listed.getD i false=true:=λi hi=>by
   have hlt:i<listed.size:=by omega
   have hne:=List.count_eq_zero.1 hcnt
   have hmem:listed[i]∈listed.toList:=by simp
   cases hb:listed[i]with
   |true=>simp[hlt,hb]
   |false=>rw[hb]at hmem;exact absurd hmem hne
  have hempty:Region.ready .any l.toArray listed=[]:=by
   cases hr:Region.ready .any l.toArray listed with
   |nil=>rfl
   |cons x xs=>
    have hx:x∈Region.ready .any l.toArray listed:=by rw[hr];simp
    obtain⟨h1,o,ho,_⟩:=mem_ready.1 hx
    have hxl:x<l.length:=by
     have:=(Array.getElem?_eq_some_iff.1 ho).1
     simpa using this
    have:=hall x hxl
    have hlt:x<listed.size:=by omega
    simp[hlt]at h1 this
    rw[h1]at this;cases this
  refine⟨hempty,?_⟩
  rcases zu4 hL hnow with⟨F,O,nx,k,X,bs',_,_,_,_,_,_,_,j0,h1,h2⟩ |⟨t,S,k,h1,h2,h3,h4,h5⟩
  ·exact absurd (hall j0 (by have:=hL.le;omega)) h2
  ·obtain rfl:t=l.length:=by
    rcases Nat.lt_or_ge t l.length with h |h
    ·have:=(h3 t).1 (hall t h);omega
    ·omega
   rw[List.drop_length]at h5
   exact hQ S a w k h5 h4
 |succ fuel ih=>
  intro listed a w hsz hcnt hcl hnow
  have unl: ∀i,i<l.length->(listed.getD i true=false↔¬listed.getD i false=true):=λi hi=>by
   have hlt:i<listed.size:=by omega
   simp[hlt]
  refine⟨λhempty=>?_,λi hi=>?_⟩
  ·exfalso
   have hmem:false∈listed.toList:=by
    rcases Classical.em (false∈listed.toList)with h |h
    ·exact h
    ·rw[List.count_eq_zero.2 h]at hcnt;cases hcnt
   obtain⟨i,hi⟩:=List.getElem?_of_mem hmem
   have hex: ∃i,i<l.length/\¬listed.getD i false=true:=by
    have hlt:=(List.getElem?_eq_some_iff.1 hi).1
    rw[Array.length_toList]at hlt
    refine⟨i,by omega,?_⟩
    have:listed[i]?=some false:=by simpa using hi
    simp[this]
   obtain⟨i,⟨hil,hin⟩,hleast⟩:=zo7 hex
   have hrd:i∈Region.ready .any l.toArray listed:=by
    refine mem_ready.2 ⟨(unl i hil).2 hin,l[i],by simp[hil],λe he hb=>?_⟩
    have hee:e.on∈zbd l[i]:=List.mem_filterMap.2 ⟨e,by simpa using he,by simp[hb]⟩
    have hlt:=hL.edge i _ (List.getElem?_eq_getElem hil) _ hee
    exact Classical.byContradiction λhn=>by
     have:=hleast e.on ⟨by omega,hn⟩
     omega
   rw[hempty]at hrd
   cases hrd
  ·obtain⟨h1,o,ho,hedge⟩:=mem_ready.1 hi
   have hoi:l[i]?=some o:=by simpa using ho
   have hil:i<l.length:=(List.getElem?_eq_some_iff.1 hoi).1
   have hni: ¬listed.getD i false=true:=(unl i hil).1 h1
   have hed: ∀e∈zbd o,listed.getD e false=true:=λe he=>by
    obtain⟨x,hx,hxe⟩:=List.mem_filterMap.1 he
    split at hxe
    ·rename_i hb
     cases hxe
     exact hedge x (by simpa using hx) hb
    ·cases hxe
   have hws:=z9i (D:=λj=>listed.getD j false=true) hL hcl hoi hed
   have hget: ∀j,(listed.setIfInBounds i true).getD j false=true↔(listed.getD j false=true\/j=i):=λj=>by
    have hlt:i<listed.size:=by omega
    by_cases hji:j=i
    ·subst hji;simp[hlt]
    ·have:i≠j:=λe=>hji e.symm
     simp[Array.getElem?_setIfInBounds_ne this,hji]
   have hcl': ∀x p,(listed.setIfInBounds i true).getD x false=true->l[x]?=some p->∀e∈zbd p,(listed.setIfInBounds i true).getD e false=true:=λx p hx hp e he=>by
    rw[hget]
    rcases(hget x).1 hx with hx |rfl
    ·exact .inl (hcl x p hx hp e he)
    ·rw[hoi]at hp;cases hp
     exact .inl (hed e he)
   have hcnt':(listed.setIfInBounds i true).toList.count false=fuel:=by
    have hlt:i<listed.toList.length:=by rw[Array.length_toList];omega
    have hlt':i<listed.size:=by omega
    have hv:listed.toList[i]=false:=by
     have:listed[i]?=some listed[i]:=Array.getElem?_eq_getElem hlt'
     simp[hlt']at hni
     simpa using hni
    rw[Array.toList_setIfInBounds,List.count_set hlt,hcnt,hv]
    simp
   have next: ∀a' w',z6f P T B N l m A bl bs K (λj=>(listed.setIfInBounds i true).getD j false=true) a' w'->wpAny P .any l.toArray Q fuel (listed.setIfInBounds i true) a' w':=
    λa' w' h=>ih _ a' w' (by simpa using hsz) hcnt' hcl' h
   rcases zu4 hL hnow with⟨F,O,nx,k,X,bs',p1,p2,p3,p4,p5,p6,p7,j0,hj0,hn0⟩ |⟨t,S,k,ht1,ht2,ht3,hsat,hrv⟩
   ·have him:i<m:=by
     rcases Nat.lt_or_ge i m with h |h
     ·exact h
     ·exact absurd (hws j0 (hL.back i h hil j0 (by omega))) hn0
    have hgrd:=hL.grd i o him hoi
    obtain⟨hclean,hfA⟩:=zp0 p7
    unfold wpOp
    simp only[ho]
    rw[if_pos (by simp[Region.wanted,hgrd])]
    have p4': ∀j,m<=j->¬(listed.setIfInBounds i true).getD j false=true:=λj hj h=>by
     rcases(hget j).1 h with h |h
     ·exact p4 j hj h
     ·omega
    have dep_eq: ∀(ds:List Nat),(∀j∈ds,listed.getD j false=true/\∃y,zd3 A j=some y)->∀t f,fget (depF A ds X) t=some f↔fget X t=some f:=by
     intro ds
     induction ds with
     |nil=>intro _ t f;rfl
     |cons j r ihd=>
      intro hds t f
      obtain⟨hDj,y,hy⟩:=hds j (by simp)
      have ihr:=ihd (λj' hj'=>hds j' (by simp[hj'])) t f
      simp only[depF,hy]
      obtain⟨hyA,hyi⟩:=zp5 hy
      by_cases e:y.d=t
      ·have hX:fget X t=some y.f:=(p5 t y.f).2 ⟨y,hyA,by rw[hyi];exact hDj,e,rfl⟩
       rw[hX,e]
       simp[fget]
      ·rw[zk5 e]
       exact ihr
    have sat_dep: ∀(ds:List Nat),(∀j∈ds,listed.getD j false=true/\∃y,zd3 A j=some y)->Sat B N ⟨F++depF A ds X,O,nx⟩ a w k:=λds hds=>by
     refine zmd (λt f hf=>?_) p6
     cases hF:fget F t with
     |some f0=>rw[zfy hF]at hf⊢;exact hf
     |none=>rw[zf1 hF]at hf⊢;exact(dep_eq ds hds t f).1 hf
    cases hx:zd3 A i with
    |some x=>
     obtain⟨hxA,hxi⟩:=zp5 hx
     obtain⟨o',ho',hstep⟩:=zvo hfA x hxA
     rw[hxi,hoi]at ho'
     cases ho'
     have hdeps:=hL.fa i x him hil hx
     have hfx:=dep_eq x.deps λj hj=>⟨hws j (hdeps j hj).1,(hdeps j hj).2⟩
     have hsat2:=sat_dep x.deps λj hj=>⟨hws j (hdeps j hj).1,(hdeps j hj).2⟩
     refine .inl (Oper.wp_mono ?_ (zm5 (Q:=Q) hT hsat2 (hN o (List.mem_of_getElem? hoi)) (hstep X)))
     rintro a' w' ⟨S',k',hsub,hs'⟩
     obtain⟨k2,hs2⟩:=hsub B N a' w' k' hs'
     obtain⟨X',hX'⟩: ∃X',X'=(x.d,x.f)::X:=⟨_,rfl⟩
     refine next a' w' (.inl ⟨F,O,nx,k2,X',bs',λj hj=>?_,λj hj=>⟨(p2 j hj).1,(p2 j hj).2.1,λh=>?_⟩,p3,p4',λt f=>?_,?_,p7⟩)
     ·rcases p1 j hj with h |h
      ·exact .inl ((hget j).2 (.inl h))
      ·exact .inr h
     ·rcases(hget j.1).1 h with h |h
      ·exact(p2 j hj).2.2 h
      ·have:=(hL.bsm j.1 (p2 j hj).2.1).2
       rw[h,hx]at this;cases this
     ·subst hX'
      constructor
      ·intro h
       rcases zca h with⟨e,e'⟩ |⟨_,h⟩
       ·exact⟨x,hxA,(hget _).2 (.inr hxi),e,e'.symm⟩
       ·obtain⟨y,hy,hDy,e1,e2⟩:=(p5 t f).1 h
        exact⟨y,hy,(hget _).2 (.inl hDy),e1,e2⟩
      ·rintro⟨y,hy,hDy,e1,e2⟩
       by_cases e:x.d=t
       ·have:x=y:=zfub hL.dd hxA hy (e.trans e1.symm)
        subst this
        rw[e,e2];simp[fget]
       ·rw[zk5 e]
        refine(p5 t f).2 ⟨y,hy,?_,e1,e2⟩
        rcases(hget _).1 hDy with h |h
        ·exact h
        ·have h3:=zz8 hL.ii hy
         rw[h,hx]at h3
         cases h3
         exact absurd e1 e
     ·refine zmd (λt f hf=>?_) hs2
      subst hX'
      cases hF:fget F t with
      |some f0=>
       rw[zfy hF]at hf
       have hne:x.d≠t:=λe=>by rw[<-e,hclean x hxA]at hF;cases hF
       rw[zk5 hne,zfy hF]
       exact hf
      |none=>
       rw[zf1 hF]at hf
       by_cases e:x.d=t
       ·subst e;simpa[fget]using hf
       ·rw[zk5 e]at hf⊢
        rw[zf1 hF]
        exact(hfx t f).2 hf
    |none=>
     obtain⟨hib,hbk⟩:=hL.fb i him hil hx
     cases bs' with
     |nil=>
      rcases p1 i hib with h |h
      ·exact absurd h hni
      ·cases h
     |cons b r=>
      simp only[List.map_cons,znb,Bool.and_eq_true]at p3
      have hbi:b.1=i:=by
       rcases p1 i hib with h |h
       ·exact absurd h hni
       ·rw[List.map_cons]at h
        rcases List.mem_cons.1 h with e |h
        ·exact e.symm
        ·have hlt:b.1<i:=by
          have:=(zbk.1 p3.1) i h
          simp[Nat.blt]at this
          omega
         have:=hbk b.1 hlt (hL.bsm b.1 (p2 b (by simp)).2.1).2
         exact absurd (hws b.1 this) (p2 b (by simp)).2.2
      obtain⟨b0,ds⟩:=b
      simp only at hbi
      subst hbi
      simp only[znn]at p7
      obtain⟨_,_,F',O',nx',hst,p7⟩:=p7
      rw[zb0,hoi]at hst
      simp only at hst
      have hdd: ∀j∈ds,listed.getD j false=true/\∃y,zd3 A j=some y:=λj hj=>by
       have:=hL.fd (b0,ds) (p2 (b0,ds) (by simp)).1 j hj
       exact⟨hws j this.1,this.2⟩
      refine .inl (Oper.wp_mono ?_ (zm5 (Q:=Q) hT (sat_dep ds hdd) (hN o (List.mem_of_getElem? hoi)) (hst X)))
      rintro a' w' ⟨S',k',hsub,hs'⟩
      obtain⟨k2,hs2⟩:=hsub B N a' w' k' hs'
      have hs2:Sat B N ⟨F'++X,O',nx'⟩ a' w' k2:=by
       refine zmd (λt f hf=>?_) hs2
       cases hF:fget F' t with
       |some f0=>rw[zfy hF]at hf⊢;exact hf
       |none=>rw[zf1 hF]at hf⊢;exact(dep_eq ds hdd t f).2 hf
      refine next a' w' (.inl ⟨F',O',nx',k2,X,r,λj hj=>?_,λj hj=>⟨(p2 j (by simp[hj])).1,(p2 j (by simp[hj])).2.1,λh=>?_⟩,p3.2,p4',λt f=>?_,hs2,p7⟩)
      ·rcases p1 j hj with h |h
       ·exact .inl ((hget j).2 (.inl h))
       ·rw[List.map_cons]at h
        rcases List.mem_cons.1 h with e |h
        ·exact .inl ((hget j).2 (.inr e))
        ·exact .inr h
      ·rcases(hget j.1).1 h with h |h
       ·exact(p2 j (by simp[hj])).2.2 h
       ·have h9:Nat.blt b0 j.1=true:=(zbk.1 p3.1) j.1 (List.mem_map.2 ⟨j,hj,rfl⟩)
        simp[Nat.blt]at h9
        omega
      ·refine(p5 t f).trans ⟨λ⟨y,hy,hDy,e1,e2⟩=>⟨y,hy,(hget _).2 (.inl hDy),e1,e2⟩,λ⟨y,hy,hDy,e1,e2⟩=>⟨y,hy,?_,e1,e2⟩⟩
       rcases(hget _).1 hDy with h |h
       ·exact h
       ·have h3:=zz8 hL.ii hy
        rw[h,hx]at h3;cases h3
   ·have hit:i=t:=by
     have h1: ¬i<t:=λhh=>hni ((ht3 i).2 hh)
     rcases Nat.lt_or_ge t i with hlt |hge
     ·have h2:=(ht3 t).1 (hws t (hL.back i (by omega) hil t hlt))
      omega
     ·omega
    subst hit
    have hdrop:l.drop i=o::l.drop (i+1):=by
     rw[List.drop_eq_getElem_cons hil]
     congr 1
     have:=List.getElem?_eq_getElem hil
     rw[hoi]at this
     exact(Option.some.inj this).symm
    rw[hdrop]at hrv
    have hhd:=zpj (Q:=Q) hT (hN o (List.mem_of_getElem? hoi)) hsat hrv
    have nx2: ∀a' w',(∃S' k',runv P T l (l.drop (i+1)) S' K/\Sat B N S' a' w' k')->wpAny P .any l.toArray Q fuel (listed.setIfInBounds i true) a' w':=λa' w' ⟨S',k',hr',hs'⟩=>
     next a' w' (.inr ⟨i+1,S',k',by omega,by omega,λj=>(hget j).trans ((or_congr (ht3 j) Iff.rfl).trans (by omega)),hs',hr'⟩)
    unfold wpOp
    simp only[ho]
    split at hhd
    ·rename_i hw
     rw[if_pos hw]
     exact .inl (Oper.wp_mono nx2 hhd)
    ·rename_i hw
     rw[if_neg hw]
     exact nx2 _ _ hhd
theorem Vcode.float(hm:P.follows .mixedOrders=true)(hT:TOk P T){id:Nat}{ops:Array Oper}{Q:Exit->St->Prop}(m:Nat)(A:List FA)(bl:List (Nat×List Nat))(hok:zwk ops.toList m A bl=true){F:List (Nat×TF)}{O:List (Nat×Option Ow)}{nx:Nat}(h0:Sub S ⟨F,O,nx⟩)
  (h:znn P T ops.toList A (λF O nx=>runv P T ops.toList (ops.toList.drop m) ⟨F++zn8 A,O,nx⟩ (Q .normal)) bl F O nx):Vcode P (.region id ops true) S Q:=by
 refine⟨λB N a w k Q' hs hd hQ=>?_⟩
 have hN: ∀o∈ops.toList,∀d,o.dst=some d->d<N:=λo ho d hod=>by
  simp only[zcp,List.all_eq_true]at hd
  have h1:=hd o ho
  simp only[hod]at h1
  exact Nat.le_of_ble_eq_true h1
 have hL:=zepb hok
 obtain⟨k1,g,hs1⟩:=h0 B N a w k hs
 have hs2:SatE B N ⟨F,O,nx⟩ a {w with drawn:=w.drawn+1} k1 g:=hs1.ext (w':={w with drawn:=w.drawn+1}) ⟨rfl,rfl,rfl,Nat.le_refl _,λ_ _=>rfl⟩ λ_ _=>rfl
 refine wp_region_any hm ?_
 have:=zgcb (Q:=Q') (B:=B) (N:=N) (K:=Q .normal) hT hN hL (λ_ _ _ _=>trivial) (λS' a' w' k' hq hs'=>hQ _ S' a' w' k' hq hs') ops.size (Array.replicate ops.size false) a {w with drawn:=w.drawn+1} (by simp) (by simp) (λi o hi=>by
  exfalso
  rw[Array.getD_eq_getD_getElem?]at hi
  by_cases hlt:i<ops.size
  ·simp[hlt]at hi
  ·simp[hlt]at hi) (.inl ⟨F,O,nx,k1,[],bl,λi hi=> .inr hi,λi hi=>⟨hi,List.mem_map.2 ⟨i,hi,rfl⟩,λhh=>absurd hh (by by_cases hlt:i.1<ops.size<;>simp[hlt])⟩,hL.rises,λj _ hh=>absurd hh (by by_cases hlt:j<ops.size<;>simp[hlt]),λt f=>?_,?_,h⟩)
 ·simpa using this
 ·constructor
  ·intro h;simp[fget]at h
  ·rintro⟨x,hx,hD,_⟩
   exact absurd hD (by by_cases hlt:x.i<ops.size<;>simp[hlt])
 ·rw[List.append_nil]
  exact⟨g,hs2⟩
end
end
section
def itO(ents:List (Int×RV))(dn:List Nat)(last:Option Nat):GOw where
 at_ w k vb:=∃r,vb=(.pointer (some ⟨r,0,none⟩),some r)/\k r=0/\((ents=[]/\last=none/\w.heap[r]?=some (.mapIter none 0 #[] 0))\/
  ∃b es c since seen c0,b<w.heap.size/\0<k b/\w.heap[b]?=some (.map es c)/\entsAt w k ents es.toList/\stampE es c/\w.heap[r]?=some (.mapIter (some b) since seen c0)/\(∀x∈es.toList,x.born<since)/\since<=c0/\since<=c/\
   (∀j e,es.toList[j]?=some e->(seen.contains e.born=true↔j∈dn))/\(∀j,last=some j->∃e s,es.toList[j]?=some e/\seen=Array.push s e.born/\c0=c))
 mono:=by
  rintro w k w' k' vb h hb ⟨r,rfl,hk,hr⟩
  obtain⟨h1,h2⟩:=hb r rfl
  refine⟨r,rfl,h2.trans hk,?_⟩
  rcases hr with⟨e1,e2,hr⟩ |⟨b,es,c,since,seen,c0,q1,q2,q3,q4,q5,q6,q7,q8,q9,q10,q11⟩
  ·exact .inl ⟨e1,e2,h1.trans hr⟩
  ·exact .inr ⟨b,es,c,since,seen,c0,Nat.lt_of_lt_of_le q1 h.size,Nat.lt_of_lt_of_le q2 (h.keep b q1),h.map b q1 q2 es c q3,q4.mono h,q5,h1.trans q6,q7,q8,q9,q10,q11⟩
 one:=by rintro w k vb ⟨r,rfl,_⟩;rfl
theorem zuf{ents:List (Int×RV)}{dn:List Nat}{last:Option Nat}(w:World)(k:Kp)(vb:Value×Option Nat)(h:(itO ents dn last).at_ w k vb):(itO ents dn none).at_ w k vb:=by
 obtain⟨r,e,hk,hr⟩:=h
 refine⟨r,e,hk,?_⟩
 rcases hr with⟨e1,_,hr⟩ |⟨b,es,c,since,seen,c0,q1,q2,q3,q4,q5,q6,q7,q8,q9,q10,_⟩
 ·exact .inl ⟨e1,rfl,hr⟩
 ·exact .inr ⟨b,es,c,since,seen,c0,q1,q2,q3,q4,q5,q6,q7,q8,q9,q10,λj h=>by cases h⟩
theorem z8b{l:List Nat}(h:l.Nodup){i j x:Nat}(hi:l[i]?=some x)(hj:l[j]?=some x):i=j:=by
 obtain⟨h1,e1⟩:=List.getElem?_eq_some_iff.1 hi
 obtain⟨h2,e2⟩:=List.getElem?_eq_some_iff.1 hj
 rcases Nat.lt_trichotomy i j with hlt |e |hlt
 ·exact absurd (e1.trans e2.symm) ((List.pairwise_iff_getElem.1 h) i j h1 h2 hlt)
 ·exact e
 ·exact absurd (e2.trans e1.symm) ((List.pairwise_iff_getElem.1 h) j i h2 h1 hlt)
theorem zl5: ∀(n:Nat) {l:List Nat},l.Nodup->(∀x∈l,x<n)->l.length<=n
 |0,l,_,h=>by
  cases l with
  |nil=>simp
  |cons x r=>have:=h x (by simp);omega
 |n+1,l,hn,h=>by
  by_cases hm:n∈l
  ·have h1:=zl5 n (hn.erase n) λx hx=>by
    have:=(hn.mem_erase_iff).1 hx
    have:=h x this.2
    omega
   rw[List.length_erase_of_mem hm]at h1
   omega
  ·have:=zl5 n hn λx hx=>by
    have h1:=h x hx
    have:x≠n:=λe=>hm (e▸hx)
    omega
   omega
section
variable {P:Program} {T:TT} {B:Bs} {N:Nat} {S:St} {a:Act} {w:World} {k:Kp} {g:Env} {o:Oper} {Q:Exit->Act->World->Prop}
theorem Vstep.range{t kt et:TypeId}{x:Operand}{ents:List (Int×RV)}{K:St->Prop}(hop:o.op= .range t x)(hx:opr S x=some (.r (.s (mapS ents))))(hu:P.underlying t=some (.map kt et))
  (hK:newK S o.dst (.own S.nx) (some (.gen (itO ents [] none))) K):Vstep P S o K:=by
 rw[zci]at hK
 refine Vstep.one (λB N a w k Q ⟨g,hs⟩ hd=>?_) hK
 have hv:=(zak hs hx).2
 simp only[TF.at_,RV.at_]at hv
 rcases hv with⟨hv,rfl⟩ |⟨b,es,c,hv,hb,hk,hh,he,hst⟩
 ·refine zbr (v:= .pointer (some ⟨w.heap.size,0,none⟩)) (w':=w.alloc (.mapIter none 0 #[] 0)) (by simp[execOp,hop,hv,run_range_nilMap w t kt et hu]) ⟨kset k w.heap.size 0,_,hs.make hd (za3 w _) (λb hb=>zdw b hb) (vb:=(.pointer (some ⟨w.heap.size,0,none⟩),some w.heap.size)) (o:= .gen (itO [] [] none)) trivial ?_ λb hb=>?_⟩
  ·exact⟨w.heap.size,rfl,zc1, .inl ⟨rfl,rfl,heap_alloc_new w _⟩⟩
  ·cases hb
   exact⟨Nat.le_refl _,by simp⟩
 ·refine zbr (v:= .pointer (some ⟨w.heap.size,0,none⟩)) (w':=w.alloc (.mapIter (some b) c #[] c)) (by simp[execOp,hop,hv,run_range_map w t kt et b es c hu hh]) ⟨kset k w.heap.size 0,_,hs.make hd (za3 w _) (λb hb=>zdw b hb) (vb:=(.pointer (some ⟨w.heap.size,0,none⟩),some w.heap.size)) (o:= .gen (itO ents [] none)) trivial ?_ λb hb=>?_⟩
  ·have hle:=Ext.le (za3 w (.mapIter (some b) c #[] c)) (k:=k) (k':=kset k w.heap.size 0) λb hb=>zdw b hb
   exact⟨w.heap.size,rfl,zc1, .inr ⟨b,es,c,c, #[],c,by simp;omega,by show 0<kset k w.heap.size 0 b;rw[zdw b hb];exact hk,hle.map b hb hk es c hh,he.mono hle,hst,heap_alloc_new w _,hst.1,Nat.le_refl _,Nat.le_refl _,λj e _=>by simp,λj h=>by cases h⟩⟩
  ·cases hb
   exact⟨Nat.le_refl _,by simp⟩
theorem Vstep.next{x:Operand}{id:Nat}{ents:List (Int×RV)}{dn:List Nat}{last:Option Nat}{K:St->Prop}(hop:o.op= .next x false)(hx:opr S x=some (.own id))(ho:oget S.O id=some (.gen (itO ents dn last)))
  (h0:(∀j,j<ents.length->j∈dn)->newK S o.dst (.r (.tu [.b false])) none K)
  (h1: ∀(j:Nat) (x:Int×RV),ents[j]?=some x->j∉dn->newK ⟨S.F,(id,some (.gen (itO ents (dn++[j]) (some j))))::S.O,S.nx⟩ o.dst (.r (.tu [.b true, .i .i64 x.1,x.2])) none K):Vstep P S o K:=by
 simp only[zci]at h0 h1
 let ι:={y:Option Nat//match y with
  |none=>∀j,j<ents.length->j∈dn
  |some j=>j<ents.length/\j∉dn}
 refine⟨ι,λy=>match y with
  |⟨none,_⟩=>S.new o.dst (.r (.tu [.b false])) none
  |⟨some j,h⟩=>St.new ⟨S.F,(id,some (.gen (itO ents (dn++[j]) (some j))))::S.O,S.nx⟩ o.dst (.r (.tu [.b true, .i .i64 (ents[j]'h.1).1,(ents[j]'h.1).2])) none,λB N a w k Q ⟨g,hs⟩ hd=>?_,λy=>?_⟩
 ·have hv:=(zak hs hx).2
  simp only[TF.at_]at hv
  obtain⟨_,_,hat,_⟩:=hs.owns id _ ho
  simp only[Ow.at_]at hat
  obtain⟨r,e,hkr,hr⟩:=hat
  rw[e]at hv
  rcases hr with⟨rfl,rfl,hr⟩ |⟨b,es,c,since,seen,c0,q1,q2,q3,q4,q5,q6,q7,q8,q9,q10,q11⟩
  ·refine zbr (v:= .tuple #[.bool false]) (w':=w) ?_ ⟨⟨none,λj hj=>by simp at hj⟩,k,g,hs.put hd trivial ?_⟩
   ·simp only[execOp,hop,hv,Sem.run_bind]
    simp[Instr.next,getObj,Sem.run,hr]
   ·simp only[TF.at_,RV.at_]
    exact⟨_,rfl,by simp only[RV.partsAt,RV.at_];exact⟨_,_,rfl,rfl,rfl⟩⟩
  ·rcases run_next_at (P:=P) w o.type r b since c0 seen es c q6 q3 q7 q8 with⟨hz,hrun⟩ |⟨en,hen,w1,hw1,hrun⟩
   ·have hall: ∀j,j<ents.length->j∈dn:=λj hj=>by
     have hjl:j<es.toList.length:=by rw[q4.1];exact hj
     have hjs:=List.getElem?_eq_getElem hjl
     refine(q10 j _ hjs).1 ?_
     refine Classical.byContradiction λhn=>?_
     have hm:es.toList[j]∈(leftOf es seen).toList:=by
      unfold leftOf
      rw[Array.toList_filter,List.mem_filter]
      exact⟨List.getElem_mem hjl,by simpa using hn⟩
     have:(leftOf es seen).toList=[]:=List.eq_nil_of_length_eq_zero (by rw[Array.length_toList];exact hz)
     rw[this]at hm
     cases hm
    refine zbr (v:= .tuple #[.bool false]) (w':=w) (by simp[execOp,hop,hv,hrun]) ⟨⟨none,hall⟩,k,g,hs.put hd trivial ?_⟩
    simp only[TF.at_,RV.at_]
    exact⟨_,rfl,by simp only[RV.partsAt,RV.at_];exact⟨_,_,rfl,rfl,rfl⟩⟩
   ·unfold leftOf at hen
    rw[Array.toList_filter,List.mem_filter]at hen
    obtain⟨hmem,hns⟩:=hen
    obtain⟨j,hjl,hj⟩:=List.getElem_of_mem hmem
    have hjs:es.toList[j]?=some en:=by rw[List.getElem?_eq_getElem hjl,hj]
    have hje:j<ents.length:=by rw[<-q4.1];exact hjl
    have hjn:j∉dn:=λh=>by
     have:=(q10 j en hjs).2 h
     rw[this]at hns
     cases hns
    have hx1:=q4.2 j _ en (List.getElem?_eq_getElem hje) hjs
    have hheap:w1.heap=w.heap:=by rcases hw1 with rfl |rfl<;>rfl
    have hrl:r<w.heap.size:=(Array.getElem?_eq_some_iff.1 q6).1
    have hbr:b≠r:=λe=>by rw[e,q6]at q3;cases q3
    obtain⟨w2,hw2⟩: ∃w2,w2=ChangeMaps.setBlock w1 r (.mapIter (some b) since (seen.push en.born) c):=⟨_,rfl⟩
    have e2:w2.heap=w.heap.setIfInBounds r (.mapIter (some b) since (seen.push en.born) c):=by rw[hw2];simp only[ChangeMaps.setBlock];rw[hheap]
    have eos:w2.os=w.os/\w2.tape=w.tape/\w2.output=w.output:=by rw[hw2];rcases hw1 with rfl |rfl<;>exact⟨rfl,rfl,rfl⟩
    have hw:Wrote w k w2 k (some r):=⟨eos.1,eos.2.1,eos.2.2,by rw[e2];simp,λx _ hne=>⟨by rw[e2,Array.getElem?_setIfInBounds_ne (λh=>hne (by rw[h]))],rfl⟩,λx hx=>by
     cases hx
     exact⟨Nat.le_refl _,λo' ho'=>by omega,λh=>by omega⟩⟩
    have hnew:(Ow.gen (itO ents (dn++[j]) (some j))).at_ w2 k g (g id):=by
     simp only[Ow.at_]
     refine⟨r,e,hkr, .inr ⟨b,es,c,since,seen.push en.born,c,Nat.lt_of_lt_of_le q1 hw.size,q2,hw.le.map b q1 q2 es c q3,q4.mono hw.le,q5,by rw[e2,Array.getElem?_setIfInBounds_self_of_lt hrl],q7,q9,q9,λi ei hi=>?_,λi hi=>?_⟩⟩
     ·rw[Array.contains_push]
      simp only[Bool.or_eq_true,beq_iff_eq,List.mem_append,List.mem_singleton]
      constructor
      ·rintro(h |h)
       ·exact .inl ((q10 i ei hi).1 h)
       ·refine .inr (z8b q5.2.1 (x:=en.born) ?_ ?_)
        ·rw[List.getElem?_map,hi];exact congrArg some h
        ·rw[List.getElem?_map,hjs];rfl
      ·rintro(h |rfl)
       ·exact .inl ((q10 i ei hi).2 h)
       ·rw[hjs]at hi;cases hi;exact .inr rfl
     ·cases hi
      exact⟨en,seen,hjs,rfl,rfl⟩
    have hs2:=hs.redo (ow':= .gen (itO ents (dn++[j]) (some j))) ho (by rw[e]) hw trivial hnew
    refine zbr (v:= .tuple #[.bool true,en.key,en.val]) (w':=w2) (by simp[execOp,hop,hv,hrun,hw2]) ⟨⟨some j,hje,hjn⟩,k,g,hs2.put hd trivial ?_⟩
    simp only[TF.at_,RV.at_]
    refine⟨_,rfl,?_⟩
    simp only[RV.partsAt,RV.at_]
    exact⟨_,_,rfl,rfl,_,_,rfl,hx1.1,_,_,rfl,RV.mono hw.le _ _ hx1.2,rfl⟩
 ·obtain⟨y,hy⟩:=y
  cases y with
  |none=>exact h0 hy
  |some j=>exact h1 j _ (List.getElem?_eq_getElem hy.1) hy.2
theorem Vstep.entry{x:Operand}{id:Nat}{ents:List (Int×RV)}{dn:List Nat}{j:Nat}{y:Int×RV}{K:St->Prop}(hop:o.op= .entry x)(hx:opr S x=some (.own id))(ho:oget S.O id=some (.gen (itO ents dn (some j))))(hy:ents[j]?=some y)
  (hK:newK S o.dst (.r (.tu [.i .i64 y.1,y.2])) none K):Vstep P S o K:=by
 rw[zci]at hK
 refine Vstep.one (λB N a w k Q ⟨g,hs⟩ hd=>?_) hK
 have hv:=(zak hs hx).2
 simp only[TF.at_]at hv
 obtain⟨_,_,hat,_⟩:=hs.owns id _ ho
 simp only[Ow.at_]at hat
 obtain⟨r,e,hkr,hr⟩:=hat
 rw[e]at hv
 rcases hr with⟨_,h,_⟩ |⟨b,es,c,since,seen,c0,q1,q2,q3,q4,q5,q6,q7,q8,q9,q10,q11⟩
 ·cases h
 ·obtain⟨en,s,hjs,rfl,rfl⟩:=q11 j rfl
  have hx1:=q4.2 j _ en hy hjs
  have hrun:=run_entry_at (P:=P) w r b since s es c0 en q6 q3 (List.mem_of_getElem? hjs) q5.2.1
  refine zbr (v:= .tuple #[en.key,en.val]) (w':=w) (by simp[execOp,hop,hv,hrun]) ⟨k,g,hs.put hd trivial ?_⟩
  simp only[TF.at_,RV.at_]
  refine⟨_,rfl,?_⟩
  simp only[RV.partsAt,RV.at_]
  exact⟨_,_,rfl,hx1.1,_,_,rfl,hx1.2,rfl⟩
end
end
end Go.Proofs.YtpdllgbfemnemaaGreat.Sx
