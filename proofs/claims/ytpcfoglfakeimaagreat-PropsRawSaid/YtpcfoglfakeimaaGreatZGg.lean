import Derived.Test.YtpcfoglfakeimaaGreatZSxU
import Derived.Test.YtpcfoglfakeimaaGreatZKf
import Derived.Test.YtpcfoglfakeimaaGreatZNk
import Derived.Test.YtpcfoglfakeimaaGreatZNx
import Derived.Test.YtpcfoglfakeimaaGreatZSxPt
import Derived.Maps.RangeRun
import Derived.Shelf.SlIterI.Nil
import Derived.Shelf.SortM.Plain
import Derived.Shelf.SortM.SortNone
import Derived.Ground.GgzProg
import Derived.Ground.SlgmProg
import Derived.WideShapes
namespace Go.Proofs.YtpcfoglfakeimaaGreat.Sx
open Go.RowKit
structure FA where
 i:Nat
 d:Nat
 f:TF
 deps:List Nat
def zce:List FA->Nat->Option FA
 |[],_=>none
 |x::r,i=>match Nat.beq x.i i with
  |true=>some x
  |false=>zce r i
def faIn(A:List FA)(i:Nat):Bool:=match zce A i with
 |some _=>true
 |none=>false
def depF(A:List FA):List Nat->List (Nat×TF)->List (Nat×TF)
 |[],Y=>Y
 |j::r,Y=>match zce A j with
  |some x=>(x.d,x.f)::depF A r Y
  |none=>depF A r Y
def zkz:List FA->List (Nat×TF)
 |[]=>[]
 |x::r=>(x.d,x.f)::zkz r
def zqh(P:Program)(T:TT)(S:St)(o:Oper)(S2:St):Prop:=match o.op with
 | .buildSlice _ _ _=>zea P T S o (λS'=>Sub S' S2)\/Yld P S o S2
 |_=>zea P T S o (λS'=>Sub S' S2)
theorem z0v{P:Program}{T:TT}(hT:TOk P T){S S2:St}{o:Oper}(h:zqh P T S o S2):Yld P S o S2:=by
 have sub:zea P T S o (λS'=>Sub S' S2)->Yld P S o S2:=λh B N a w k Q hs hd=>by
  refine Oper.wp_mono ?_ (zdr (Q:=Q) hT hs hd h)
  rintro a' w' ⟨S',k',hsub,hs'⟩
  exact hsub B N a' w' k' hs'
 unfold zqh at h
 split at h
 ·exact h.elim sub id
 ·exact sub h
def zjz(P:Program)(T:TT)(l:List Oper)(A:List FA)(F:List (Nat×TF))(O:List (Nat×Option Ow))(nx:Nat):List FA->Prop
 |[]=>True
 |x::r=>(match lget l x.i with
  |some o=>∀Y,zqh P T ⟨F++depF A x.deps Y,O,nx⟩ o ⟨(x.d,x.f)::(F++depF A x.deps Y),O,nx⟩
  |none=>False)/\zjz P T l A F O nx r
def zj0(P:Program)(T:TT)(l:List Oper)(A:List FA)(E:List (Nat×TF)->List (Nat×Option Ow)->Nat->Prop):List (Nat×List Nat)->List (Nat×TF)->List (Nat×Option Ow)->Nat->Prop
 |[],F,O,nx=>allB (λx=> !(memB x.1 (A.map (·.d)))) F=true/\zjz P T l A F O nx A/\E F O nx
 |b::bs,F,O,nx=>allB (λx=> !(memB x.1 (A.map (·.d)))) F=true/\zjz P T l A F O nx A/\∃F' O' nx',(match lget l b.1 with
  |some o=>∀Y,zea P T ⟨F++depF A b.2 Y,O,nx⟩ o λS'=>Sub S' ⟨F'++depF A b.2 Y,O',nx'⟩
  |none=>False)/\zj0 P T l A E bs F' O' nx'
def zkb:List Nat->Bool
 |[]=>true
 |x::r=>allB (λy=>Nat.blt x y) r&&zkb r
def zr1(l:List Oper)(m:Nat)(A:List FA)(bl:List (Nat×List Nat)):Bool:=
 let bs:=bl.map (·.1)
 let ws:=zaj [] l
 Nat.ble m l.length&&(zeu (A.map (·.d))&&(zeu (A.map (·.i))&&(zkb bs&&(allB (λi=>Nat.blt i m&& !(faIn A i)) bs&&(allB (λx=>Nat.blt x.i m) A&&(allB (λb=>allB (λj=>memB j ((lget ws b.1).getD [])&&faIn A j) b.2) bl&&
 allB (λi=>match lget l i with
  |none=>false
  |some o=>allB (λe=>Nat.blt e i) (zak o)&&
   (if Nat.blt i m then(match o.guard with |none=>true |some _=>false)&&(match zce A i with
    |some x=>allB (λj=>memB j ((lget ws i).getD [])&&faIn A j) x.deps
    |none=>memB i bs&&allB (λj=>faIn A j||memB j ((lget ws i).getD [])) (List.range i))
   else allB (λj=>memB j ((lget ws i).getD [])) (List.range i))) (List.range l.length)))))))
theorem zmh: ∀{A:List FA} {i:Nat} {x:FA},zce A i=some x->x∈A/\x.i=i
 |[],i,x,h=>by simp[zce]at h
 |y::r,i,x,h=>by
  simp only[zce]at h
  split at h
  ·rename_i hb;cases h;exact⟨by simp,Nat.eq_of_beq_eq_true hb⟩
  ·have:=zmh h;exact⟨List.mem_cons_of_mem _ this.1,this.2⟩
theorem zvf{A:List FA}{x:FA}(hn:(A.map (·.i)).Nodup)(hx:x∈A):zce A x.i=some x:=by
 induction A with
 |nil=>cases hx
 |cons y r ih=>
  simp only[List.map_cons,List.nodup_cons]at hn
  rcases List.mem_cons.1 hx with rfl |hx
  ·simp[zce]
  ·have:y.i≠x.i:=λe=>hn.1 (by rw[e];exact List.mem_map.2 ⟨x,hx,rfl⟩)
   simp only[zce,zij this]
   exact ih hn.2 hx
theorem zqj{P:Program}{T:TT}{l:List Oper}{A:List FA}{F:List (Nat×TF)}{O:List (Nat×Option Ow)}{nx:Nat}: ∀{r:List FA},zjz P T l A F O nx r->∀x∈r,∃o,l[x.i]?=some o/\∀Y,zqh P T ⟨F++depF A x.deps Y,O,nx⟩ o ⟨(x.d,x.f)::(F++depF A x.deps Y),O,nx⟩
 |[],_,x,hx=>by cases hx
 |y::r,h,x,hx=>by
  simp only[zjz]at h
  rcases List.mem_cons.1 hx with rfl |hx
  ·have h1:=h.1
   rw[zao]at h1
   split at h1
   ·rename_i o ho;exact⟨o,ho,h1⟩
   ·exact h1.elim
  ·exact zqj h.2 x hx
def zczb(A:List FA)(D:Nat->Prop)(t:Nat)(f:TF):Prop:=∃x∈A,D x.i/\x.d=t/\x.f=f
def FX(A:List FA)(D:Nat->Prop)(X:List (Nat×TF)):Prop:=∀t f,fget X t=some f↔zczb A D t f
theorem zc8b{A:List FA}(hn:(A.map (·.d)).Nodup): ∀{x y:FA},x∈A->y∈A->x.d=y.d->x=y:=by
 induction A with
 |nil=>intro x y hx;cases hx
 |cons z r ih=>
  intro x y hx hy e
  simp only[List.map_cons,List.nodup_cons]at hn
  rcases List.mem_cons.1 hx with ex |hx2
  ·rcases List.mem_cons.1 hy with ey |hy2
   ·rw[ex,ey]
   ·exact absurd (List.mem_map.2 ⟨y,hy2,by rw[<-e,ex]⟩) hn.1
  ·rcases List.mem_cons.1 hy with ey |hy2
   ·exact absurd (List.mem_map.2 ⟨x,hx2,by rw[e,ey]⟩) hn.1
   ·exact ih hn.2 hx2 hy2 e
theorem z0t{A:List FA}(hn:(A.map (·.d)).Nodup): ∀t f,fget (zkz A) t=some f↔∃x∈A,x.d=t/\x.f=f:=by
 induction A with
 |nil=>intro t f;simp[zkz,fget]
 |cons y r ih=>
  intro t f
  simp only[List.map_cons,List.nodup_cons]at hn
  constructor
  ·intro h
   rcases za5 h with⟨e,e'⟩ |⟨_,h⟩
   ·exact⟨y,by simp,e,e'.symm⟩
   ·obtain⟨x,hx,h1,h2⟩:=(ih hn.2 t f).1 h
    exact⟨x,List.mem_cons_of_mem _ hx,h1,h2⟩
  ·rintro⟨x,hx,h1,h2⟩
   simp only[zkz]
   rcases List.mem_cons.1 hx with rfl |hx
   ·rw[h1];simp[fget,h2]
   ·have:y.d≠t:=λe=>hn.1 (by rw[e,<-h1];exact List.mem_map.2 ⟨x,hx,rfl⟩)
    rw[zh5 this]
    exact(ih hn.2 t f).2 ⟨x,hx,h1,h2⟩
section
variable {P:Program} {T:TT} {B:Bs} {N:Nat} {S:St} {a:Act} {w:World} {k:Kp} {g:Env} {Q:Exit->Act->World->Prop} {l:List Oper} {m:Nat} {A:List FA} {bl:List (Nat×List Nat)} {bs:List Nat}
theorem zje{F F':List (Nat×TF)}{O:List (Nat×Option Ow)}{nx:Nat}(h: ∀t f,fget F' t=some f->fget F t=some f)(hs:Sat B N ⟨F,O,nx⟩ a w k):Sat B N ⟨F',O,nx⟩ a w k:=by
 obtain⟨g,hs⟩:=hs
 exact⟨g,hs.size,hs.defers,hs.keep,hs.kk,λt f hf=>hs.facts t f (h t f hf),hs.owns,hs.apart⟩
theorem zec{F F':List (Nat×TF)}{t:Nat}(h:fget F t=none):fget (F++F') t=fget F' t:=by
 induction F with
 |nil=>rfl
 |cons x r ih=>
  obtain⟨x1,x2⟩:=x
  rw[List.cons_append]
  simp only[fget]at h⊢
  split at h
  ·cases h
  ·exact ih h
theorem zed{F F':List (Nat×TF)}{t:Nat}{f:TF}(h:fget F t=some f):fget (F++F') t=some f:=by
 induction F with
 |nil=>simp[fget]at h
 |cons x r ih=>
  obtain⟨x1,x2⟩:=x
  rw[List.cons_append]
  simp only[fget]at h⊢
  split at h
  ·exact h
  ·exact ih h
theorem z25{F:List (Nat×TF)}{t:Nat}{f:TF}(h:fget F t=some f): ∃x∈F,x.1=t:=by
 induction F with
 |nil=>simp[fget]at h
 |cons x r ih=>
  obtain⟨x1,x2⟩:=x
  rcases za5 h with⟨e,_⟩ |⟨_,h⟩
  ·exact⟨(x1,x2),by simp,e⟩
  ·obtain⟨y,hy,e⟩:=ih h;exact⟨y,List.mem_cons_of_mem _ hy,e⟩
structure FlOk (l:List Oper) (m:Nat) (A:List FA) (bl:List (Nat×List Nat)) (bs:List Nat):Prop where
 le:m<=l.length
 dd:(A.map (·.d)).Nodup
 ii:(A.map (·.i)).Nodup
 rises:zkb bs=true
 bsm: ∀i∈bs,i<m/\zce A i=none
 am: ∀x∈A,x.i<m
 edge: ∀i o,l[i]?=some o->∀e∈zak o,e<i
 grd: ∀i o,i<m->l[i]?=some o->o.guard=none
 fa: ∀i x,i<m->i<l.length->zce A i=some x->∀j∈x.deps,j∈(lget (zaj [] l) i).getD []/\∃y,zce A j=some y
 fb: ∀i,i<m->i<l.length->zce A i=none->i∈bs/\∀j,j<i->zce A j=none->j∈(lget (zaj [] l) i).getD []
 back: ∀i,m<=i->i<l.length->∀j,j<i->j∈(lget (zaj [] l) i).getD []
 fd: ∀b∈bl,∀j∈b.2,j∈(lget (zaj [] l) b.1).getD []/\∃y,zce A j=some y
theorem zadb(h:zr1 l m A bl=true):FlOk l m A bl (bl.map (·.1)):=by
 simp only[zr1,Bool.and_eq_true,Nat.ble_eq]at h
 obtain⟨h1,h2,h3,h4,h5,h55,h56,h6⟩:=h
 have blt: ∀{x y:Nat},Nat.blt x y=true↔x<y:=λ{x y}=>by simp[Nat.blt];omega
 have at_: ∀i o,l[i]?=some o->allB (λe=>Nat.blt e i) (zak o)=true/\
   (if Nat.blt i m then(match o.guard with |none=>true |some _=>false)&&(match zce A i with
    |some x=>allB (λj=>memB j ((lget (zaj [] l) i).getD [])&&faIn A j) x.deps
    |none=>memB i (bl.map (·.1))&&allB (λj=>faIn A j||memB j ((lget (zaj [] l) i).getD [])) (List.range i))
   else allB (λj=>memB j ((lget (zaj [] l) i).getD [])) (List.range i))=true:=λi o ho=>by
  have:=(zam.1 h6) i (List.mem_range.2 (List.getElem?_eq_some_iff.1 ho).1)
  rw[zao,ho]at this
  simpa only[Bool.and_eq_true]using this
 have inA: ∀j,faIn A j=true->∃y,zce A j=some y:=λj hj=>by
  unfold faIn at hj
  split at hj
  ·rename_i y hy;exact⟨y,hy⟩
  ·cases hj
 refine⟨h1,zbn h2,zbn h3,h4,λi hi=>?_,λx hx=>blt.1 ((zam.1 h55) x hx),λi o ho e he=>?_,λi o hi ho=>?_,λi x hi hil hx j hj=>?_,λi hi hil hx=>?_,λi hi hil j hj=>?_,λb hb j hj=>?_⟩
 ·have:=(zam.1 h5) i hi
  simp only[Bool.and_eq_true,Bool.not_eq_true']at this
  refine⟨blt.1 this.1,?_⟩
  have h7:=this.2
  unfold faIn at h7
  split at h7
  ·cases h7
  ·assumption
 ·exact blt.1 ((zam.1 (at_ i o ho).1) e he)
 ·have:=(at_ i o ho).2
  rw[if_pos (blt.2 hi)]at this
  simp only[Bool.and_eq_true]at this
  have h7:=this.1
  split at h7
  ·assumption
  ·cases h7
 ·have:=(at_ i _ (List.getElem?_eq_getElem hil)).2
  rw[if_pos (blt.2 hi)]at this
  simp only[Bool.and_eq_true,hx]at this
  have h7:=(zam.1 this.2) j hj
  simp only[Bool.and_eq_true]at h7
  exact⟨za2.1 h7.1,inA j h7.2⟩
 ·have:=(at_ i _ (List.getElem?_eq_getElem hil)).2
  rw[if_pos (blt.2 hi)]at this
  simp only[Bool.and_eq_true,hx]at this
  refine⟨za2.1 this.2.1,λj hj hjn=>?_⟩
  have h7:=(zam.1 this.2.2) j (List.mem_range.2 hj)
  simp only[Bool.or_eq_true]at h7
  rcases h7 with h7 |h7
  ·obtain⟨y,hy⟩:=inA j h7
   rw[hy]at hjn;cases hjn
  ·exact za2.1 h7
 ·have:=(at_ i _ (List.getElem?_eq_getElem hil)).2
  rw[if_neg (λh=>by have:=blt.1 h;omega)]at this
  exact za2.1 ((zam.1 this) j (List.mem_range.2 hj))
 ·have h7:=(zam.1 ((zam.1 h56) b hb)) j hj
  simp only[Bool.and_eq_true]at h7
  exact⟨za2.1 h7.1,inA j h7.2⟩
theorem z01(hL:FlOk l m A bl bs){D:Nat->Prop}(hc: ∀i o,D i->l[i]?=some o->∀e∈zak o,D e): ∀i,D i->∀j∈(lget (zaj [] l) i).getD [],D j:=by
 intro i
 induction i using Nat.strongRecOn with
 |_ i ih=>
  intro hi j hj
  rcases Nat.lt_or_ge i l.length with hil |hil
  ·have ho:=List.getElem?_eq_getElem hil
   have he:=zlv (r:=l) (acc:=[]) (j:=i) (λk p hp e he=>by simpa using hL.edge k p hp e he) ho
   simp only[List.length_nil,Nat.zero_add]at he
   rw[zao,he]at hj
   simp only[Option.getD_some]at hj
   rcases List.mem_append.1 hj with hj |hj
   ·exact hc i _ hi ho j hj
   ·obtain⟨e,he,hj⟩:=List.mem_flatMap.1 hj
    exact ih e (hL.edge i _ ho e he) (hc i _ hi ho e he) j (by rw[zao];exact hj)
  ·rw[z0i hil]at hj;cases hj
theorem z27(hL:FlOk l m A bl bs){D:Nat->Prop}(hc: ∀i o,D i->l[i]?=some o->∀e∈zak o,D e){i:Nat}{o:Oper}(ho:l[i]?=some o)(he: ∀e∈zak o,D e): ∀j∈(lget (zaj [] l) i).getD [],D j:=by
 intro j hj
 have hw:=zlv (r:=l) (acc:=[]) (j:=i) (λk p hp e he=>by simpa using hL.edge k p hp e he) ho
 simp only[List.length_nil,Nat.zero_add]at hw
 rw[zao,hw]at hj
 simp only[Option.getD_some]at hj
 rcases List.mem_append.1 hj with hj |hj
 ·exact he j hj
 ·obtain⟨e,he',hj⟩:=List.mem_flatMap.1 hj
  exact z01 hL hc e (he e he') j (by rw[zao];exact hj)
def z0k(P:Program)(T:TT)(B:Bs)(N:Nat)(l:List Oper)(m:Nat)(A:List FA)(bl:List (Nat×List Nat))(bs:List Nat)(K:St->Prop)(D:Nat->Prop)(a:Act)(w:World):Prop:=
 (∃F O nx k X bs',(∀i∈bs,D i\/i∈bs'.map (·.1))/\(∀b∈bs',b∈bl/\b.1∈bs/\¬D b.1)/\zkb (bs'.map (·.1))=true/\(∀j,m<=j->¬D j)/\FX A D X/\Sat B N ⟨F++X,O,nx⟩ a w k/\zj0 P T l A (λF O nx=>runv P T l (l.drop m) ⟨F++zkz A,O,nx⟩ K) bs' F O nx)\/
 ∃t S k,m<=t/\t<=l.length/\(∀j,D j↔j<t)/\Sat B N S a w k/\runv P T l (l.drop t) S K
theorem zmk{E:List (Nat×TF)->List (Nat×Option Ow)->Nat->Prop}{bs':List (Nat×List Nat)}{F:List (Nat×TF)}{O:List (Nat×Option Ow)}{nx:Nat}(h:zj0 P T l A E bs' F O nx):(∀x∈A,fget F x.d=none)/\zjz P T l A F O nx A:=by
 have key:allB (λx=> !(memB x.1 (A.map (·.d)))) F=true->∀x∈A,fget F x.d=none:=λh x hx=>by
  cases hf:fget F x.d with
  |none=>rfl
  |some f=>
   obtain⟨y,hy,e⟩:=z25 hf
   have:=(zam.1 h) y hy
   rw[e]at this
   rw[za2.2 (List.mem_map.2 ⟨x,hx,rfl⟩)]at this
   cases this
 cases bs' with
 |nil=>exact⟨key h.1,h.2.1⟩
 |cons b r=>exact⟨key h.1,h.2.1⟩
theorem zqi(hL:FlOk l m A bl bs){K:St->Prop}{D:Nat->Prop}(h:z0k P T B N l m A bl bs K D a w):
  (∃F O nx k X bs',(∀i∈bs,D i\/i∈bs'.map (·.1))/\(∀b∈bs',b∈bl/\b.1∈bs/\¬D b.1)/\zkb (bs'.map (·.1))=true/\(∀j,m<=j->¬D j)/\FX A D X/\Sat B N ⟨F++X,O,nx⟩ a w k/\zj0 P T l A (λF O nx=>runv P T l (l.drop m) ⟨F++zkz A,O,nx⟩ K) bs' F O nx/\∃j0,j0<m/\¬D j0)\/
 ∃t S k,m<=t/\t<=l.length/\(∀j,D j↔j<t)/\Sat B N S a w k/\runv P T l (l.drop t) S K:=by
 rcases h with⟨F,O,nx,k,X,bs',h1,h2,h3,h4,h5,h6,h7⟩ |h
 ·by_cases hx: ∃j0,j0<m/\¬D j0
  ·exact .inl ⟨F,O,nx,k,X,bs',h1,h2,h3,h4,h5,h6,h7,hx⟩
  ·have hall: ∀j,j<m->D j:=λj hj=>Classical.byContradiction λhn=>hx ⟨j,hj,hn⟩
   cases bs' with
   |cons b r=>exact absurd (hall b.1 (hL.bsm b.1 (h2 b (by simp)).2.1).1) (h2 b (by simp)).2.2
   |nil=>
    refine .inr ⟨m,_,k,Nat.le_refl _,hL.le,λj=>⟨λhj=>?_,hall j⟩,?_,h7.2.2⟩
    ·exact Classical.byContradiction λhn=>h4 j (by omega) hj
    ·refine zje (λt f hf=>?_) h6
     rcases zom hf with hf |hf
     ·exact zed hf
     ·obtain⟨x,hx,e1,e2⟩:=(z0t hL.dd t f).1 hf
      have hnone:=(zmk (bs':=[]) h7).1 x hx
      rw[e1]at hnone
      rw[zec hnone]
      refine(h5 t f).2 ⟨x,hx,?_,e1,e2⟩
      exact hall _ (hL.am x hx)
 ·exact .inr h
theorem zc7b(hT:TOk P T)(hN: ∀o∈l,∀d,o.dst=some d->d<N)(hL:FlOk l m A bl bs)(hdst: ∀x∈A,∀o,l[x.i]?=some o->True){K:St->Prop}(hQ: ∀S' a' w' k',K S'->Sat B N S' a' w' k'->Q .normal a' w'):
  ∀(fuel:Nat) (listed:Array Bool) (a:Act) (w:World),listed.size=l.length->listed.toList.count false=fuel->
   (∀i o,listed.getD i false=true->l[i]?=some o->∀e∈zak o,listed.getD e false=true)->z0k P T B N l m A bl bs K (λj=>listed.getD j false=true) a w->wpAny P .any l.toArray Q fuel listed a w:=by
 intro fuel
 induction fuel with
 |zero=>
  intro listed a w hsz hcnt hcl hnow
  have hall: ∀i,i<l.length->listed.getD i false=true:=λi hi=>by
   have hlt:i<listed.size:=by omega
   have hne:=List.count_eq_zero.1 hcnt
   have hmem:listed[i]∈listed.toList:=by simp
   cases hb:listed[i]with
   |true=>simp[hlt,hb]
   |false=>rw[hb]at hmem;exact absurd hmem hne
  have hempty:Region.ready .any l.toArray listed=[]:=by
   cases hr:Region.ready .any l.toArray listed with
   |nil=>rfl
   |cons x xs=>
    have hx:x∈Region.ready .any l.toArray listed:=by rw[hr];simp
    obtain⟨h1,o,ho,_⟩:=mem_ready.1 hx
    have hxl:x<l.length:=by
     have:=(Array.getElem?_eq_some_iff.1 ho).1
     simpa using this
    have:=hall x hxl
    have hlt:x<listed.size:=by omega
    simp[hlt]at h1 this
    rw[h1]at this;cases this
  refine⟨hempty,?_⟩
  rcases zqi hL hnow with⟨F,O,nx,k,X,bs',_,_,_,_,_,_,_,j0,h1,h2⟩ |⟨t,S,k,h1,h2,h3,h4,h5⟩
  ·exact absurd (hall j0 (by have:=hL.le;omega)) h2
  ·obtain rfl:t=l.length:=by
    rcases Nat.lt_or_ge t l.length with h |h
    ·have:=(h3 t).1 (hall t h);omega
    ·omega
   rw[List.drop_length]at h5
   exact hQ S a w k h5 h4
 |succ fuel ih=>
  intro listed a w hsz hcnt hcl hnow
  have unl: ∀i,i<l.length->(listed.getD i true=false↔¬listed.getD i false=true):=λi hi=>by
   have hlt:i<listed.size:=by omega
   simp[hlt]
  refine⟨λhempty=>?_,λi hi=>?_⟩
  ·exfalso
   have hmem:false∈listed.toList:=by
    rcases Classical.em (false∈listed.toList)with h |h
    ·exact h
    ·rw[List.count_eq_zero.2 h]at hcnt;cases hcnt
   obtain⟨i,hi⟩:=List.getElem?_of_mem hmem
   have hex: ∃i,i<l.length/\¬listed.getD i false=true:=by
    have hlt:=(List.getElem?_eq_some_iff.1 hi).1
    rw[Array.length_toList]at hlt
    refine⟨i,by omega,?_⟩
    have:listed[i]?=some false:=by simpa using hi
    simp[this]
   obtain⟨i,⟨hil,hin⟩,hleast⟩:=zfg hex
   have hrd:i∈Region.ready .any l.toArray listed:=by
    refine mem_ready.2 ⟨(unl i hil).2 hin,l[i],by simp[hil],λe he hb=>?_⟩
    have hee:e.on∈zak l[i]:=List.mem_filterMap.2 ⟨e,by simpa using he,by simp[hb]⟩
    have hlt:=hL.edge i _ (List.getElem?_eq_getElem hil) _ hee
    exact Classical.byContradiction λhn=>by
     have:=hleast e.on ⟨by omega,hn⟩
     omega
   rw[hempty]at hrd
   cases hrd
  ·obtain⟨h1,o,ho,hedge⟩:=mem_ready.1 hi
   have hoi:l[i]?=some o:=by simpa using ho
   have hil:i<l.length:=(List.getElem?_eq_some_iff.1 hoi).1
   have hni: ¬listed.getD i false=true:=(unl i hil).1 h1
   have hed: ∀e∈zak o,listed.getD e false=true:=λe he=>by
    obtain⟨x,hx,hxe⟩:=List.mem_filterMap.1 he
    split at hxe
    ·rename_i hb
     cases hxe
     exact hedge x (by simpa using hx) hb
    ·cases hxe
   have hws:=z27 (D:=λj=>listed.getD j false=true) hL hcl hoi hed
   have hget: ∀j,(listed.setIfInBounds i true).getD j false=true↔(listed.getD j false=true\/j=i):=λj=>by
    have hlt:i<listed.size:=by omega
    by_cases hji:j=i
    ·subst hji;simp[hlt]
    ·have:i≠j:=λe=>hji e.symm
     simp[Array.getElem?_setIfInBounds_ne this,hji]
   have hcl': ∀x p,(listed.setIfInBounds i true).getD x false=true->l[x]?=some p->∀e∈zak p,(listed.setIfInBounds i true).getD e false=true:=λx p hx hp e he=>by
    rw[hget]
    rcases(hget x).1 hx with hx |rfl
    ·exact .inl (hcl x p hx hp e he)
    ·rw[hoi]at hp;cases hp
     exact .inl (hed e he)
   have hcnt':(listed.setIfInBounds i true).toList.count false=fuel:=by
    have hlt:i<listed.toList.length:=by rw[Array.length_toList];omega
    have hlt':i<listed.size:=by omega
    have hv:listed.toList[i]=false:=by
     have:listed[i]?=some listed[i]:=Array.getElem?_eq_getElem hlt'
     simp[hlt']at hni
     simpa using hni
    rw[Array.toList_setIfInBounds,List.count_set hlt,hcnt,hv]
    simp
   have next: ∀a' w',z0k P T B N l m A bl bs K (λj=>(listed.setIfInBounds i true).getD j false=true) a' w'->wpAny P .any l.toArray Q fuel (listed.setIfInBounds i true) a' w':=
    λa' w' h=>ih _ a' w' (by simpa using hsz) hcnt' hcl' h
   rcases zqi hL hnow with⟨F,O,nx,k,X,bs',p1,p2,p3,p4,p5,p6,p7,j0,hj0,hn0⟩ |⟨t,S,k,ht1,ht2,ht3,hsat,hrv⟩
   ·have him:i<m:=by
     rcases Nat.lt_or_ge i m with h |h
     ·exact h
     ·exact absurd (hws j0 (hL.back i h hil j0 (by omega))) hn0
    have hgrd:=hL.grd i o him hoi
    obtain⟨hclean,hfA⟩:=zmk p7
    unfold wpOp
    simp only[ho]
    rw[if_pos (by simp[Region.wanted,hgrd])]
    have p4': ∀j,m<=j->¬(listed.setIfInBounds i true).getD j false=true:=λj hj h=>by
     rcases(hget j).1 h with h |h
     ·exact p4 j hj h
     ·omega
    have dep_eq: ∀(ds:List Nat),(∀j∈ds,listed.getD j false=true/\∃y,zce A j=some y)->∀t f,fget (depF A ds X) t=some f↔fget X t=some f:=by
     intro ds
     induction ds with
     |nil=>intro _ t f;rfl
     |cons j r ihd=>
      intro hds t f
      obtain⟨hDj,y,hy⟩:=hds j (by simp)
      have ihr:=ihd (λj' hj'=>hds j' (by simp[hj'])) t f
      simp only[depF,hy]
      obtain⟨hyA,hyi⟩:=zmh hy
      by_cases e:y.d=t
      ·have hX:fget X t=some y.f:=(p5 t y.f).2 ⟨y,hyA,by rw[hyi];exact hDj,e,rfl⟩
       rw[hX,e]
       simp[fget]
      ·rw[zh5 e]
       exact ihr
    have sat_dep: ∀(ds:List Nat),(∀j∈ds,listed.getD j false=true/\∃y,zce A j=some y)->Sat B N ⟨F++depF A ds X,O,nx⟩ a w k:=λds hds=>by
     refine zje (λt f hf=>?_) p6
     cases hF:fget F t with
     |some f0=>rw[zed hF]at hf⊢;exact hf
     |none=>rw[zec hF]at hf⊢;exact(dep_eq ds hds t f).1 hf
    cases hx:zce A i with
    |some x=>
     obtain⟨hxA,hxi⟩:=zmh hx
     obtain⟨o',ho',hstep⟩:=zqj hfA x hxA
     rw[hxi,hoi]at ho'
     cases ho'
     have hdeps:=hL.fa i x him hil hx
     have hfx:=dep_eq x.deps λj hj=>⟨hws j (hdeps j hj).1,(hdeps j hj).2⟩
     have hsat2:=sat_dep x.deps λj hj=>⟨hws j (hdeps j hj).1,(hdeps j hj).2⟩
     refine .inl (Oper.wp_mono ?_ (z0v hT (hstep X) B N a w k Q hsat2 (hN o (List.mem_of_getElem? hoi))))
     rintro a' w' ⟨k2,hs2⟩
     obtain⟨X',hX'⟩: ∃X',X'=(x.d,x.f)::X:=⟨_,rfl⟩
     refine next a' w' (.inl ⟨F,O,nx,k2,X',bs',λj hj=>?_,λj hj=>⟨(p2 j hj).1,(p2 j hj).2.1,λh=>?_⟩,p3,p4',λt f=>?_,?_,p7⟩)
     ·rcases p1 j hj with h |h
      ·exact .inl ((hget j).2 (.inl h))
      ·exact .inr h
     ·rcases(hget j.1).1 h with h |h
      ·exact(p2 j hj).2.2 h
      ·have:=(hL.bsm j.1 (p2 j hj).2.1).2
       rw[h,hx]at this;cases this
     ·subst hX'
      constructor
      ·intro h
       rcases za5 h with⟨e,e'⟩ |⟨_,h⟩
       ·exact⟨x,hxA,(hget _).2 (.inr hxi),e,e'.symm⟩
       ·obtain⟨y,hy,hDy,e1,e2⟩:=(p5 t f).1 h
        exact⟨y,hy,(hget _).2 (.inl hDy),e1,e2⟩
      ·rintro⟨y,hy,hDy,e1,e2⟩
       by_cases e:x.d=t
       ·have:x=y:=zc8b hL.dd hxA hy (e.trans e1.symm)
        subst this
        rw[e,e2];simp[fget]
       ·rw[zh5 e]
        refine(p5 t f).2 ⟨y,hy,?_,e1,e2⟩
        rcases(hget _).1 hDy with h |h
        ·exact h
        ·have h3:=zvf hL.ii hy
         rw[h,hx]at h3
         cases h3
         exact absurd e1 e
     ·refine zje (λt f hf=>?_) hs2
      subst hX'
      cases hF:fget F t with
      |some f0=>
       rw[zed hF]at hf
       have hne:x.d≠t:=λe=>by rw[<-e,hclean x hxA]at hF;cases hF
       rw[zh5 hne,zed hF]
       exact hf
      |none=>
       rw[zec hF]at hf
       by_cases e:x.d=t
       ·subst e;simpa[fget]using hf
       ·rw[zh5 e]at hf⊢
        rw[zec hF]
        exact(hfx t f).2 hf
    |none=>
     obtain⟨hib,hbk⟩:=hL.fb i him hil hx
     cases bs' with
     |nil=>
      rcases p1 i hib with h |h
      ·exact absurd h hni
      ·cases h
     |cons b r=>
      simp only[List.map_cons,zkb,Bool.and_eq_true]at p3
      have hbi:b.1=i:=by
       rcases p1 i hib with h |h
       ·exact absurd h hni
       ·rw[List.map_cons]at h
        rcases List.mem_cons.1 h with e |h
        ·exact e.symm
        ·have hlt:b.1<i:=by
          have:=(zam.1 p3.1) i h
          simp[Nat.blt]at this
          omega
         have:=hbk b.1 hlt (hL.bsm b.1 (p2 b (by simp)).2.1).2
         exact absurd (hws b.1 this) (p2 b (by simp)).2.2
      obtain⟨b0,ds⟩:=b
      simp only at hbi
      subst hbi
      simp only[zj0]at p7
      obtain⟨_,_,F',O',nx',hst,p7⟩:=p7
      rw[zao,hoi]at hst
      simp only at hst
      have hdd: ∀j∈ds,listed.getD j false=true/\∃y,zce A j=some y:=λj hj=>by
       have:=hL.fd (b0,ds) (p2 (b0,ds) (by simp)).1 j hj
       exact⟨hws j this.1,this.2⟩
      refine .inl (Oper.wp_mono ?_ (zdr (Q:=Q) hT (sat_dep ds hdd) (hN o (List.mem_of_getElem? hoi)) (hst X)))
      rintro a' w' ⟨S',k',hsub,hs'⟩
      obtain⟨k2,hs2⟩:=hsub B N a' w' k' hs'
      have hs2:Sat B N ⟨F'++X,O',nx'⟩ a' w' k2:=by
       refine zje (λt f hf=>?_) hs2
       cases hF:fget F' t with
       |some f0=>rw[zed hF]at hf⊢;exact hf
       |none=>rw[zec hF]at hf⊢;exact(dep_eq ds hdd t f).2 hf
      refine next a' w' (.inl ⟨F',O',nx',k2,X,r,λj hj=>?_,λj hj=>⟨(p2 j (by simp[hj])).1,(p2 j (by simp[hj])).2.1,λh=>?_⟩,p3.2,p4',λt f=>?_,hs2,p7⟩)
      ·rcases p1 j hj with h |h
       ·exact .inl ((hget j).2 (.inl h))
       ·rw[List.map_cons]at h
        rcases List.mem_cons.1 h with e |h
        ·exact .inl ((hget j).2 (.inr e))
        ·exact .inr h
      ·rcases(hget j.1).1 h with h |h
       ·exact(p2 j (by simp[hj])).2.2 h
       ·have h9:Nat.blt b0 j.1=true:=(zam.1 p3.1) j.1 (List.mem_map.2 ⟨j,hj,rfl⟩)
        simp[Nat.blt]at h9
        omega
      ·refine(p5 t f).trans ⟨λ⟨y,hy,hDy,e1,e2⟩=>⟨y,hy,(hget _).2 (.inl hDy),e1,e2⟩,λ⟨y,hy,hDy,e1,e2⟩=>⟨y,hy,?_,e1,e2⟩⟩
       rcases(hget _).1 hDy with h |h
       ·exact h
       ·have h3:=zvf hL.ii hy
        rw[h,hx]at h3;cases h3
   ·have hit:i=t:=by
     have h1: ¬i<t:=λhh=>hni ((ht3 i).2 hh)
     rcases Nat.lt_or_ge t i with hlt |hge
     ·have h2:=(ht3 t).1 (hws t (hL.back i (by omega) hil t hlt))
      omega
     ·omega
    subst hit
    have hdrop:l.drop i=o::l.drop (i+1):=by
     rw[List.drop_eq_getElem_cons hil]
     congr 1
     have:=List.getElem?_eq_getElem hil
     rw[hoi]at this
     exact(Option.some.inj this).symm
    rw[hdrop]at hrv
    have hhd:=znf (Q:=Q) hT (hN o (List.mem_of_getElem? hoi)) hsat hrv
    have nx2: ∀a' w',(∃S' k',runv P T l (l.drop (i+1)) S' K/\Sat B N S' a' w' k')->wpAny P .any l.toArray Q fuel (listed.setIfInBounds i true) a' w':=λa' w' ⟨S',k',hr',hs'⟩=>
     next a' w' (.inr ⟨i+1,S',k',by omega,by omega,λj=>(hget j).trans ((or_congr (ht3 j) Iff.rfl).trans (by omega)),hs',hr'⟩)
    unfold wpOp
    simp only[ho]
    split at hhd
    ·rename_i hw
     rw[if_pos hw]
     exact .inl (Oper.wp_mono nx2 hhd)
    ·rename_i hw
     rw[if_neg hw]
     exact nx2 _ _ hhd
theorem Vcode.float(hm:P.follows .mixedOrders=true)(hT:TOk P T){id:Nat}{ops:Array Oper}{Q:Exit->St->Prop}(m:Nat)(A:List FA)(bl:List (Nat×List Nat))(hok:zr1 ops.toList m A bl=true){F:List (Nat×TF)}{O:List (Nat×Option Ow)}{nx:Nat}(h0:Sub S ⟨F,O,nx⟩)
  (h:zj0 P T ops.toList A (λF O nx=>runv P T ops.toList (ops.toList.drop m) ⟨F++zkz A,O,nx⟩ (Q .normal)) bl F O nx):Vcode P (.region id ops true) S Q:=by
 refine⟨λB N a w k Q' hs hd hQ=>?_⟩
 have hN: ∀o∈ops.toList,∀d,o.dst=some d->d<N:=λo ho d hod=>by
  simp only[zau,List.all_eq_true]at hd
  have h1:=hd o ho
  simp only[hod]at h1
  exact Nat.le_of_ble_eq_true h1
 have hL:=zadb hok
 obtain⟨k1,g,hs1⟩:=h0 B N a w k hs
 have hs2:SatE B N ⟨F,O,nx⟩ a {w with drawn:=w.drawn+1} k1 g:=hs1.ext (w':={w with drawn:=w.drawn+1}) ⟨rfl,rfl,rfl,Nat.le_refl _,λ_ _=>rfl⟩ λ_ _=>rfl
 refine wp_region_any hm ?_
 have:=zc7b (Q:=Q') (B:=B) (N:=N) (K:=Q .normal) hT hN hL (λ_ _ _ _=>trivial) (λS' a' w' k' hq hs'=>hQ _ S' a' w' k' hq hs') ops.size (Array.replicate ops.size false) a {w with drawn:=w.drawn+1} (by simp) (by simp) (λi o hi=>by
  exfalso
  rw[Array.getD_eq_getD_getElem?]at hi
  by_cases hlt:i<ops.size
  ·simp[hlt]at hi
  ·simp[hlt]at hi) (.inl ⟨F,O,nx,k1,[],bl,λi hi=> .inr hi,λi hi=>⟨hi,List.mem_map.2 ⟨i,hi,rfl⟩,λhh=>absurd hh (by by_cases hlt:i.1<ops.size<;>simp[hlt])⟩,hL.rises,λj _ hh=>absurd hh (by by_cases hlt:j<ops.size<;>simp[hlt]),λt f=>?_,?_,h⟩)
 ·simpa using this
 ·constructor
  ·intro h;simp[fget]at h
  ·rintro⟨x,hx,hD,_⟩
   exact absurd hD (by by_cases hlt:x.i<ops.size<;>simp[hlt])
 ·rw[List.append_nil]
  exact⟨g,hs2⟩
end
theorem Yld.read{P:Program}{T:TT}(hT:TOk P T){S:St}{o:Oper}{d:Nat}{e:TypeId}{sz n:Nat}{cells:List RV}(h:zea P T S o λS'=>S'=⟨(d, .own S.nx)::S.F,(S.nx,some (.ch e sz n cells true))::S.O,S.nx+1⟩):
  Yld P S o ⟨(d, .r (.sl sz n cells))::S.F,S.O,S.nx⟩:=λB N a w k Q hs hd=>by
 obtain⟨g0,h0⟩:=id hs
 refine Oper.wp_mono ?_ (zdr (Q:=Q) hT hs hd h)
 rintro a' w' ⟨S',k',rfl,g,h1⟩
 have ne: ∀id ow,oget S.O id=some ow->id≠S.nx:=λid ow ho e=>by
  have:=(h0.owns id ow ho).1
  omega
 have og: ∀id ow,oget S.O id=some ow->oget ((S.nx,some (.ch e sz n cells true))::S.O) id=some ow:=λid ow ho=>by
  simp only[oget,zij (λe=>ne id ow ho e.symm)]
  exact ho
 refine⟨k',g,h1.size,h1.defers,h1.keep,h1.kk,λt f hf=>?_,λid ow ho=>?_,λi j ow ow' b hi hj=>h1.apart i j ow ow' b (og i ow hi) (og j ow' hj)⟩
 ·simp only[fget]at hf
  split at hf
  ·rename_i hb
   cases hf
   have:=Nat.eq_of_beq_eq_true hb
   subst this
   have hv:=(h1.facts d (.own S.nx) (by simp[fget])).2
   exact⟨trivial,zdm (f:= .own S.nx) h1 (by simp[St.rv,oget]) hv⟩
  ·rename_i hb
   have h2:=(h1.facts t f (by simp only[fget,hb];exact hf)).2
   exact⟨(h0.facts t f hf).1,h2⟩
 ·have h2:=h1.owns id ow (og id ow ho)
  have h3:=h0.owns id ow ho
  exact⟨h3.1,h3.2.1,h2.2.2.1,h2.2.2.2⟩
theorem z6q(l m:List Int)(hl:l.length<=1000000000)(hm:m.length<=1000000000):aG 247 [is l,is m] (.r (.b (decide (l=m)))):=by
 refine aT Tryz.func247 rfl ?_
 by_cases hlen:l.length=m.length
 ·refine zw (by simp only[zb];omega) (zt ?_)
  refine Vloop.mk' (λi:Nat=>⟨[(0, .r (is l)),(1, .r (is m)),(12, .r (I l.length)),(13, .r (I i))],[],0⟩) (λi=>i<=l.length/\l.take i=m.take i) (λi=>l.length-i) 0 ⟨by omega,by simp⟩ (zac [] rfl ⟨cr,cr,cr,cr,trivial⟩ trivial) ?_
  rintro i ⟨hi,he⟩
  refine zh (λh=>zq ?_) (λh=>zt ?_)
  ·simp only[zb]at h
   have h1:i<l.length:=by omega
   have h2:i<m.length:=by omega
   refine aV ?_
   refine zm (by omega) (by omega) (zan rfl h1) (zg rfl ?_)
   refine zm (by omega) (by omega) (zan rfl h2) (zg rfl ?_)
   refine zh (λh3=>zq ?_) (λh3=>zt ?_)
   ·simp only[zb]at h3
    refine zf (congrArg RV.b (Eq.symm ?_))
    rw[decide_eq_false_iff_not]
    intro e
    subst e
    exact h3 rfl
   ·simp only[zb]at h3
    refine zd (m:=((i+1:Nat):Int)) (by omega) (by omega) ?_
    refine⟨i+1,⟨h1,?_⟩,by omega,zac [] rfl ⟨cr,cr,cr,cr,trivial⟩ trivial⟩
    rw[List.take_succ_eq_append_getElem h1,List.take_succ_eq_append_getElem h2,he,h3]
  ·simp only[zb]at h
   refine zf (congrArg RV.b (Eq.symm ?_))
   rw[decide_eq_true_eq,<-List.take_of_length_le (show l.length<=i by omega),he,List.take_of_length_le (by omega)]
 ·refine zu (by simp only[zb];omega) (zq ?_)
  refine zf (congrArg RV.b (Eq.symm ?_))
  rw[decide_eq_false_iff_not]
  exactλe=>hlen (by rw[e])
abbrev Str(s:ByteArray):RV:= .x (.string s)
abbrev sB(s:ByteArray):List UInt8:=s.data.toList
def keyB(k:List UInt8):List UInt8:=if 64<k.length then shaB k else k
def zd4(k:List UInt8)(w:UInt8):List UInt8:=(List.range 64).map λi=>(keyB k).getD i 0^^^w
def macB(k t:List UInt8):List UInt8:=shaB (zd4 k 92++shaB (zd4 k 54++t))
theorem zi8(k:List UInt8)(w:UInt8):(zd4 k w).length=64:=by simp[zd4]
theorem zgp(k t:List UInt8):(macB k t).length=32:=zls _
theorem zbjb(k:List UInt8):(keyB k).length<=64:=by
 unfold keyB
 split
 ·rw[zls];omega
 ·omega
theorem ze0b(x y:UInt8):IntKind.u8.wrap (((BitVec.ofInt 8 (x.toNat:Int)^^^BitVec.ofInt 8 (y.toNat:Int)).toNat:Nat):Int)=(((x^^^y).toNat:Nat):Int):=by
 have e: ∀z:UInt8,BitVec.ofInt 8 (z.toNat:Int)=z.toBitVec:=λz=>by
  rw[BitVec.ofInt_natCast]
  simp
 rw[e,e]
 have h:=(x^^^y).toNat_lt
 have e2:(x.toBitVec^^^y.toBitVec).toNat=(x^^^y).toNat:=by simp
 rw[e2]
 generalize (x^^^y).toNat=z at h
 simp only[IntKind.wrap]
 simp[IntKind.bits,IntKind.signed]
 omega
theorem Vbits.xor8{a b:Int}{K:Int->Prop}(x y:UInt8)(ha:a=(x.toNat:Int))(hb:b=(y.toNat:Int))(hK:K (((x^^^y).toNat:Nat):Int)):Vbits .u8 .xor a b K:=by
 subst ha;subst hb
 exact⟨_,(ze0b x y).symm,hK⟩
def zdh(k:List UInt8)(w:UInt8)(i:Nat):List UInt8:=(List.range 64).map λj=>if j<i then k.getD j 0^^^w else k.getD j 0
theorem zk8(k:List UInt8)(w:UInt8)(i:Nat):(zdh k w i).length=64:=by simp[zdh]
theorem z7s(k:List UInt8)(w:UInt8):zdh (keyB k) w 64=zd4 k w:=by
 unfold zdh zd4
 exact List.map_congr_left λj hj=>by rw[if_pos (List.mem_range.1 hj)]
theorem z7u(k:List UInt8)(w:UInt8){i:Nat}(hi:i<64):(zdh k w i)[i]'(by rw[zk8];exact hi)=k.getD i 0:=by simp[zdh]
theorem z7v(k:List UInt8)(w:UInt8){i:Nat}(hi:i<64):(zdh k w i).set i (k.getD i 0^^^w)=zdh k w (i+1):=by
 apply List.ext_getElem
 ·simp[zdh]
 ·intro j h1 h2
  simp only[zdh,List.getElem_set,List.getElem_map,List.getElem_range]
  by_cases h:i=j
  ·subst h;simp
  ·rw[if_neg h]
   by_cases h3:j<i
   ·rw[if_pos h3,if_pos (by omega)]
   ·rw[if_neg h3,if_neg (by omega)]
theorem zth(k:List UInt8)(w:UInt8)(hk:k.length<=64):(k.map U8).take (Nat.min k.length 64*1)++(List.replicate 64 (RV.i .u8 0)).drop (Nat.min k.length 64*1)=(zdh k w 0).map U8:=by
 have e:Nat.min k.length 64*1=k.length:=by rw[Nat.mul_one];exact Nat.min_eq_left hk
 rw[e]
 apply List.ext_getElem
 ·simp[zdh];omega
 ·intro j h1 h2
  simp only[List.getElem_append,List.length_take,List.length_map,Nat.min_self,List.getElem_take,List.getElem_map,List.getElem_drop,List.getElem_replicate,zdh,List.getElem_range]
  split
  ·rename_i h;simp[List.getD,h]
  ·rename_i h;simp[List.getD,List.getElem?_eq_none (Nat.le_of_not_lt h)]
theorem zb9{α:Type}{f:α->RV}{l:List α}{i:Nat}{x:α}(hi:i<l.length):zbx (l.map f) i [f x]=(l.set i x).map f:=by
 unfold zbx
 simp only[List.length_cons,List.length_nil,Nat.zero_add]
 rw[<-List.map_take,<-List.map_drop]
 have:l.set i x=l.take i++[x]++l.drop (i+1):=by rw[List.set_eq_take_append_cons_drop,if_pos hi];simp
 rw[this]
 simp
def zzs(k:List UInt8)(w:UInt8)(i:Nat):St:={F:=[(1, .r (U8 w)),(5, .own 0),(18, .r (I 64)),(19, .r (I i))],O:=[(0,some (.ch 5 1 64 ((zdh k w i).map U8) false))],nx:=1}
theorem z7t(k:List UInt8)(w:UInt8):some (Ow.ch 5 1 64 ((zdh (keyB k) w 64).map U8) true)=some (Ow.ch 5 1 (zd4 k w).length ((zd4 k w).map U8) true):=by rw[z7s,zi8]
theorem zs64:(List.replicate ((64:Int).toNat) ([Value.int .u8 0].map ofC)).flatten=List.replicate 64 (RV.i .u8 0):=by simp[ofC]
theorem z3a(k:List UInt8)(w:UInt8)(hk:k.length<=1000000000):aG 314 [bs k,U8 w] (bch (zd4 k w)):=by
 refine za1 (T:=Tab) mixed Tab_ok Tryz.func314 rfl (by kernel_rfl) ?_
 have hkey:=zbjb k
 refine zh (λh=>zq ?a) (λh=>zt ?b)
 case' a=>
  simp only[zb]at h
  have hx:shaB ([k].flatMap id)=keyB k:=by unfold keyB;rw[if_pos (by omega)];simp
  refine zy ?_
  refine ze (z06 [k] (by simp;omega)) ?_
  rw[hx]
  refine⟨rfl,by decide,by decide,by decide,_,_,rfl,zs64,Vpub.own ?_⟩
  refine Vstep.copy (id:=2) Tab_ok rfl rfl rfl rfl rfl rfl rfl rfl (zth (keyB k) w hkey) ?_
  refine Vloop.mk' (zzs (keyB k) w) (λi=>i<=64) (λi=>64-i) 0 (by omega) (zac [(0,2)] rfl ⟨cr,rfl,cr,cr,trivial⟩ ⟨⟨rfl,rfl,rfl,rfl,zn _⟩,trivial⟩) ?_
 case' b=>
  simp only[zb]at h
  have hx:k=keyB k:=by unfold keyB;rw[if_neg (by omega)]
  refine⟨rfl,by decide,by decide,by decide,_,_,rfl,zs64,Vpub.own ?_⟩
  refine Vstep.copy (id:=0) (zs:=(zdh (keyB k) w 0).map U8) Tab_ok rfl rfl rfl rfl rfl rfl rfl rfl (by rw[<-hx];exact zth k w (by omega)) ?_
  refine Vloop.mk' (zzs (keyB k) w) (λi=>i<=64) (λi=>64-i) 0 (by omega) (zac [(0,0)] rfl ⟨cr,rfl,cr,cr,trivial⟩ ⟨⟨rfl,rfl,rfl,rfl,zn _⟩,trivial⟩) ?_
 all_goals
  intro i hi
  refine zh (λh=>zq ?_) (λh=>zt ?_)
  ·simp only[zb]at h
   have hi':i<64:=by omega
   refine Vadr.mk' i rfl hi' ?_
   refine zg (f:=U8 ((keyB k).getD i 0)) (by rw[Nat.mul_one,List.getElem?_map,List.getElem?_eq_getElem (by rw[zk8];exact hi'),z7u _ _ hi'];rfl) ?_
   refine Vbits.xor8 _ _ rfl rfl ?_
   refine Vadr.mk' i rfl hi' ?_
   refine⟨by simp[zk8];omega,(zdh (keyB k) w (i+1)).map U8,?_,?_⟩
   ·rw[<-z7v _ _ hi',Nat.mul_one]
    exact zb9 (by rw[zk8];exact hi')
   refine zd (m:=((i+1:Nat):Int)) (by omega) (by omega) ?_
   exact⟨i+1,by omega,by omega,zac [(0,0)] rfl ⟨cr,rfl,cr,cr,trivial⟩ ⟨⟨rfl,rfl,rfl,rfl,zn _⟩,trivial⟩⟩
  ·simp only[zb]at h
   obtain rfl:i=64:=by omega
   refine⟨_,za7 (id:=0) rfl,?_⟩
   exact z7t k w
theorem z9f(key:List UInt8)(parts:List (List UInt8))(hk:key.length<=1000000000)(hp:(parts.flatMap id).length<=10000000000):aG 260 [bs key,bss parts] (bch (macB key (parts.flatMap id))):=by
 refine aT Tryz.func260 rfl ?_
 have e1: ∀l:List UInt8,[l].flatMap id=l:=λl=>by simp
 have e2:[zd4 key 54,parts.flatMap id].flatMap id=zd4 key 54++parts.flatMap id:=by simp
 refine ze (z3a key 54 hk) ?_
 refine ze (zgl parts (by omega)) ?_
 refine zy ?_
 refine ze (zgl [zd4 key 54,parts.flatMap id] (by rw[e2,aL,zi8];omega)) ?_
 refine zy ?_
 refine ze (z06 [[zd4 key 54,parts.flatMap id].flatMap id] (by rw[e2,e1,aL,zi8];omega)) ?_
 refine ze (z3a key 92 hk) ?_
 refine zy ?_
 refine ze (z06 [zd4 key 92,shaB ([[zd4 key 54,parts.flatMap id].flatMap id].flatMap id)] (by simp[zi8,zls])) ?_
 exact zf0 (by simp[macB])
def exp1(s info:List UInt8)(n:Nat):List UInt8:=(macB s (info++[1])).take n
theorem zve(s info:List UInt8){n:Nat}(hn:n<=32):(exp1 s info n).length=n:=by
 unfold exp1
 rw[List.length_take,zgp]
 omega
def mlsB:List UInt8:=[77,76,83,32,49,46,48,32]
def labB(s label ctx:List UInt8)(n:Nat):List UInt8:=exp1 s (beB 2 n++vecB (mlsB++label)++vecB ctx) n
theorem Cv.sl{sz n:Nat}{cs ds:List RV}(h:Cvs cs ds):Cv (.sl sz n cs) (.sl sz n ds):=λw k v hv=>by
 simp only[RV.at_]at hv⊢
 obtain⟨a,c,e,h1,h2,h3,h4⟩:=hv
 exact⟨a,c,e,h1,h2,by rw[h.length];exact h3,λhn=>by obtain⟨b,o,ea,hb,hc⟩:=h4 hn;exact⟨b,o,ea,hb,h.cells hc⟩⟩
theorem z3d(s info:List UInt8)(n:Nat)(hn:1<=n/\n<=32)(hs:s.length<=1000000000)(hi:info.length<=1000000000):aG 190 [bs s,bs info,I n] (.r (.tu [bs (exp1 s info n),Er 0])):=by
 refine aT Tryz.func190 rfl ?_
 have hm:=zgp s (info++[1])
 refine Vcode.scope mixed Tab_ok 0 (λ_:Unit=>{F:=[(0, .r (bs s)),(1, .r (bs info)),(2, .r (I n)),(8, .own 0)],O:=[(0,some (.ch 5 1 32 ((macB s (info++[1])).map U8) true))],nx:=1}) (λ_=>True) (λ_=>0) rfl ?_ ?_
 ·refine zw (decide_eq_false (by omega)) ?_
  refine zw (decide_eq_false (by omega)) (zt ?_)
  refine zu (decide_eq_true (by omega)) (zq ?_)
  refine Vint.u8 1 rfl ?_
  refine zy ?_
  refine zy ?_
  refine Vcall.mk' (z9f s [[],info,[1]] hs (by simp;omega)) (zk (cr) (zk (Cv.sl (zk (Cv.nil _) (zn _))) Cvs.nil)) ?_
  refine Vapp.mk' (j:=32) (zs:=(macB s (info++[1])).map U8) (by simp[maxLen,zgp]) (by simp[zgp]) (by simp[zgp]) (by simp) ?_
  exact⟨(),trivial,zac [(0,3)] rfl ⟨cr,cr,cr,rfl,trivial⟩ ⟨⟨rfl,rfl,rfl,rfl,zn _⟩,trivial⟩⟩
 ·intro _ _
  refine zw (decide_eq_false (by omega)) (zt ?_)
  refine⟨by omega,by omega,by omega,n,(exp1 s info n).map U8,by omega,?_,?_⟩
  ·unfold exp1;rw[List.map_take];simp
  ·refine⟨_,rfl,zf ?_⟩
   simp only[bs,zve s info hn.2]
   rfl
theorem z78(s:ByteArray):((⟨#[77,76,83,32,49,46,48,32]⟩:ByteArray)++s).data.toList=mlsB++s.data.toList:=by simp[mlsB]
theorem z90(s t:ByteArray):(s++t).size=s.size+t.size:=by simp
def zpr:Par:=⟨[],[],[]⟩
theorem zctb:zpr.fit:=⟨by decide,by decide,by decide,λy hy=>by cases hy⟩
end Go.Proofs.YtpcfoglfakeimaaGreat.Sx
