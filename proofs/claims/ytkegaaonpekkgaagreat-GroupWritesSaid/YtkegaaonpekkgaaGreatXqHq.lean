import Derived.Test.YtkegaaonpekkgaaGreatXqSxBr
import Derived.Test.YtkegaaonpekkgaaGreatXqTl
import Derived.Test.YtkegaaonpekkgaaGreatXqSxMg
import Derived.Test.YtkegaaonpekkgaaGreatXqEt
namespace Go.Proofs.YtkegaaonpekkgaaGreat.Sx
open Go.RowKit
set_option maxHeartbeats 1000000
def oz(P:Program)(T:TT)(ops:List Oper)(ws:List (List Nat))(n0:Nat):Nat->Nat->List Oper->St->List (Nat×Nat)->List (Nat×List Nat)->(St->Prop)->Prop
 |0,_,_,S,_,_,K=>K S
 |_+1,_,[],_,_,_,_=>False
 |c+1,i,o::r,S,cr,ia,K=>match wW o.op with
  |false=>False
  |true=>
   let go:Prop:=match yR S o n0 cr ((yp ws i).getD [])with
    |true=>wH P T S o λf ow=>match yZ (λid=>xu id (S.nx::yH S o)) (sF f ow)with
     |true=>yI S o.dst f ow λS'=>oz P T ops ws n0 c (i+1) r S' (u7 S.nx i ow cr) ((i,yH S o)::ia) K
     |false=>False
    |false=>False
   let skip:Prop:=yI S o.dst (.r (.tu [])) none λS'=>oz P T ops ws n0 c (i+1) r S' cr ((i,yH S o)::ia) K
   match o.guard with
   |none=>go
   |some (j,want)=>match yp ops j with
    |some oj=>match oj.dst with
     |some d=>match yl S.F d with
      |some (.r (.b β))=>match β with
       |true=>match want with
        |true=>go
        |false=>skip
       |false=>match want with
        |false=>go
        |true=>skip
      |some (.r (.tu _))=>skip
      |_=>False
     |none=>False
    |none=>False
section
variable {P:Program} {T:TT} {l:List Oper} {S0:St}
theorem eS{ws:List (List Nat)}{K:St->Prop}: ∀(c:Nat) (r:List Oper) (i:Nat) (res0:RS),l.drop i=r->oz P T l ws S0.nx c i r (Ls l S0 res0 i) (Cs l S0 res0 i) (Ia l S0 res0 i) K->
  ∃res:RS,(∀j,j<i->res j=res0 j)/\(∀j,i<=j->j<i+c->Stp P T l ws S0 res j)/\K (Ls l S0 res (i+c))
 |0,r,i,res0,hr,h=>⟨res0,λ_ _=>rfl,λj h1 h2=>by omega,by simpa only[oz,Nat.add_zero]using h⟩
 |c+1,[],i,res0,hr,h=>by simp only[oz]at h
 |c+1,o::r,i,res0,hr,h=>by
  have hoi:l[i]?=some o:=by
   have:=cR (·[0]?) hr
   simpa using this
  have hdr:l.drop (i+1)=r:=by
   rw[<-List.drop_drop,hr];rfl
  simp only[oz,yJ]at h
  cases hrd:wW o.op with
  |false=>
   simp only[hrd]at h
  |true=>
   simp only[hrd]at h
   have hlo:i+(c+1)=(i+1)+c:=by omega
   have go: ∀(f:TF) (ow:Option Ow),(∀res:RS,(∀j,j<i->res j=res0 j)->res i=(f,ow)->Stp P T l ws S0 res i)->
     oz P T l ws S0.nx c (i+1) r ((Ls l S0 res0 i).new o.dst f ow) (u7 (Ls l S0 res0 i).nx i ow (Cs l S0 res0 i)) ((i,yH (Ls l S0 res0 i) o)::Ia l S0 res0 i) K->
     ∃res:RS,(∀j,j<i->res j=res0 j)/\(∀j,i<=j->j<i+(c+1)->Stp P T l ws S0 res j)/\K (Ls l S0 res (i+(c+1))):=by
    intro f ow hstep h
    let res1:RS:=λj=>if j=i then(f,ow)else res0 j
    have h0: ∀j,j<i->res1 j=res0 j:=λj hj=>by simp[res1,Nat.ne_of_lt hj]
    have hi:res1 i=(f,ow):=by simp[res1]
    have e1:Ls l S0 res1 (i+1)=(Ls l S0 res0 i).new o.dst f ow:=by simp only[Ls,hoi,hi];rw[xF h0]
    have e2:Cs l S0 res1 (i+1)=(u7 (Ls l S0 res0 i).nx i ow (Cs l S0 res0 i)):=by
     simp only[Cs,hi];rw[xF h0,sj h0]
    have e3:Ia l S0 res1 (i+1)=(i,yH (Ls l S0 res0 i) o)::Ia l S0 res0 i:=by simp only[Ia,hoi];rw[xF h0,jl h0]
    obtain⟨res,hres,hst,hrun⟩:=eS c r (i+1) res1 hdr (by rw[e1,e2,e3];exact h)
    refine⟨res,λj hj=>(hres j (by omega)).trans (h0 j hj),λj h1 h2=>?_,by rw[hlo];exact hrun⟩
    by_cases hji:j=i
    ·subst hji
     exact hstep res (λx hx=>(hres x (by omega)).trans (h0 x hx)) ((hres j (by omega)).trans hi)
    ·exact hst j (by omega) (by rw[<-hlo];exact h2)
   have exec:sk l (Ls l S0 res0 i) o true->(match yR (Ls l S0 res0 i) o S0.nx (Cs l S0 res0 i) ((yp ws i).getD [])with
     |true=>wH P T (Ls l S0 res0 i) o λf ow=>match yZ (λid=>xu id ((Ls l S0 res0 i).nx::yH (Ls l S0 res0 i) o)) (sF f ow)with
      |true=>oz P T l ws S0.nx c (i+1) r ((Ls l S0 res0 i).new o.dst f ow) (u7 (Ls l S0 res0 i).nx i ow (Cs l S0 res0 i)) ((i,yH (Ls l S0 res0 i) o)::Ia l S0 res0 i) K
      |false=>False
     |false=>False)->∃res:RS,(∀j,j<i->res j=res0 j)/\(∀j,i<=j->j<i+(c+1)->Stp P T l ws S0 res j)/\K (Ls l S0 res (i+(c+1))):=by
    intro hg h
    split at h
    ·rename_i hneed
     obtain⟨f,ow,h,hp⟩:=lF hrd (Agree.refl _ _) h
     split at h
     ·rename_i hids
      refine go f ow (λres h0 hi=>⟨o,hoi,hrd,.inr ?_⟩) h
      rw[xF h0,sj h0,hi]
      exact⟨hg,hneed,hp,hids⟩
     ·exact h.elim
    ·exact h.elim
   have skip:sk l (Ls l S0 res0 i) o false->oz P T l ws S0.nx c (i+1) r ((Ls l S0 res0 i).new o.dst (.r (.tu [])) none) (Cs l S0 res0 i) ((i,yH (Ls l S0 res0 i) o)::Ia l S0 res0 i) K->∃res:RS,(∀j,j<i->res j=res0 j)/\(∀j,i<=j->j<i+(c+1)->Stp P T l ws S0 res j)/\K (Ls l S0 res (i+(c+1))):=by
    intro hg h
    refine go (.r (.tu [])) none (λres h0 hi=>⟨o,hoi,hrd,.inl ?_⟩) h
    rw[xF h0,hi]
    exact⟨hg,rfl⟩
   cases hgd:o.guard with
   |none=>
    simp only[hgd]at h
    exact exec (by simp[sk,hgd]) h
   |some jw=>
    obtain⟨j,want⟩:=jw
    simp only[hgd,yE]at h
    split at h
    ·rename_i oj hj
     split at h
     ·rename_i d hod
      split at h
      ·rename_i β hf
       have hG: ∀b,b=(β==want)->sk l (Ls l S0 res0 i) o b:=λb hb=>by
        simp only[sk,hgd]
        exact⟨oj,d,hj,hod,.inl ⟨β,hf,hb⟩⟩
       simp only[yE]at exec
       cases β<;>cases want<;>simp only at h
       ·exact exec (hG true rfl) h
       ·exact skip (hG false rfl) h
       ·exact skip (hG false rfl) h
       ·exact exec (hG true rfl) h
      ·rename_i us hf
       exact skip (by simp only[sk,hgd];exact⟨oj,d,hj,hod,.inr ⟨us,hf,by simp⟩⟩) h
      ·exact h.elim
     ·exact h.elim
    ·exact h.elim
end
section
variable {P:Program} {T:TT} {B:Bs} {N:Nat} {S0:St} {a:Act} {w:World} {k:Kp} {g:Env} {Q:Exit->Act->World->Prop} {res:RS}
theorem Lt(hm:P.follows .mixedOrders=true)(hT:TOk P T){big A:List Oper}{b:Oper}{n m:Nat}(hm1:m=n+1)(hAe:A=big.take m)(hn:m<big.length)(hbn:big[m]?=some b)(hN: ∀o∈big,∀d,o.dst=some d->d<N)
  (hA:Looks A (yq [] A) m) (hstp: ∀j,j<m->Stp P T A (yq [] A) S0 res j) (h0: ∀id o,ye S0.O id=some o->id<S0.nx) (hbg:b.guard=none)
  (hbw: ∀j,j<n->j∈yt b++(yt b).flatMap λe=>(yp (yq [] A) e).getD []) (hbe: ∀e∈yt b,e<m)
  (hC: ∀i o,m<i->big[i]?=some o->∃e∈yt o,m<=e) (hE: ∀i o,big[i]?=some o->∀e∈yt o,e<i)
  (hnext: ∀a w k,yK B N (Ls A S0 res m) a w k->b.wp P a w (λa' w'=>∀(listed:Array Bool) (fuel:Nat),listed.size=big.length->listed.toList.count false=fuel->(∀j,listed.getD j false=true↔j<m+1)->wpAny P .any big.toArray Q fuel listed a' w') Q)
  (hnext0: ∀a w k,yK B N ⟨(Ls A S0 res n).F,(Ls A S0 res n).O,yM A S0 res m⟩ a w k->b.wp P a w (λa' w'=>∀(listed:Array Bool) (fuel:Nat),listed.size=big.length->listed.toList.count false=fuel->(∀j,listed.getD j false=true↔(j<n\/j=m))->wpAny P .any big.toArray Q fuel listed a' w') Q):
  ∀(fuel:Nat) (listed:Array Bool) (a:Act) (w:World),listed.size=big.length->listed.toList.count false=fuel->
   (∀i o,listed.getD i false=true->A[i]?=some o->∀e∈yt o,listed.getD e false=true)->(∀j,m<=j->¬listed.getD j false=true)->
   (∃k g F O,Mid B N A S0 res m (λj=>listed.getD j false=true) none a w k g F O)->wpAny P .any big.toArray Q fuel listed a w:=by
 have hAl:A.length=m:=by rw[hAe,bL];omega
 have hget: ∀i,i<m->A[i]?=big[i]?:=λi hi=>by rw[hAe,bZ,cO hi]
 intro fuel
 induction fuel with
 |zero=>
  intro listed a w hsz hcnt hcl hab _
  exfalso
  have hne:=List.count_eq_zero.1 hcnt
  have hlt:m<listed.size:=by omega
  have hmem:listed[m]∈listed.toList:=by simp
  have:=hab m (bQ _)
  simp[hlt]at this
  rw[this]at hmem
  exact hne hmem
 |succ fuel ih=>
  intro listed a w hsz hcnt hcl hab ⟨k,g,F,O,h⟩
  refine⟨λhempty=>?_,λi hi=>?_⟩
  ·exfalso
   obtain⟨i,⟨hil,hin⟩,hleast⟩:=rB (p:=λi=>i<big.length/\¬listed.getD i false=true) ⟨m,hn,hab m (bQ _)⟩
   have hrd:i∈Region.ready .any big.toArray listed:=by
    refine mem_ready.2 ⟨(uX (by omega)).2 hin,big[i],by simp[hil],λe he hb=>?_⟩
    have hee:e.on∈yt big[i]:=List.mem_filterMap.2 ⟨e,by simpa using he,by simp[hb]⟩
    have hlt:=hE i _ (bA hil) _ hee
    exact Classical.byContradiction λhnn=>by
     have:=hleast e.on ⟨by omega,hnn⟩
     omega
   rw[hempty]at hrd
   cases hrd
  ·obtain⟨h1,o,ho,hedge⟩:=mem_ready.1 hi
   have hoi:big[i]?=some o:=by simpa using ho
   have hil:i<big.length:=(List.getElem?_eq_some_iff.1 hoi).1
   have hni: ¬listed.getD i false=true:=(uX (by omega)).1 h1
   have hed: ∀e∈yt o,listed.getD e false=true:=λe he=>by
    obtain⟨x,hx,hxe⟩:=List.mem_filterMap.1 he
    split at hxe
    ·rename_i hb
     cases hxe
     exact hedge x (by simpa using hx) hb
    ·cases hxe
   have hin:i<=m:=Nat.le_of_not_lt λhlt=>by
    obtain⟨e,he,hne⟩:=hC i o hlt hoi
    exact hab e hne (hed e he)
   have hset: ∀j,(listed.setIfInBounds i true).getD j false=true↔(listed.getD j false=true\/j=i):=λj=>pP (by omega)
   have hcnt':=MO (by omega) hni hcnt
   rcases Nat.lt_or_ge i m with hlt |hge
   ·have hAi:A[i]?=some o:=by rw[hget i hlt];exact hoi
    have hws:=TM (D:=λj=>listed.getD j false=true) hA hcl hAi hed
    have:=dQ (Q:=Q) hm hT (λo ho=>hN o (List.mem_of_mem_take (hAe▸ho))) hA hstp h0 h (λx o' o e=>by cases e) hlt hni hws (oR hA hcl) (K:=λa' w'=>wpAny P .any big.toArray Q fuel (listed.setIfInBounds i true) a' w') λa' w' k' g' F' O' h'=>by
     refine ih _ a' w' (by simpa using hsz) hcnt' (λx p hx hp e he=>?_) (λj hj hh=>?_) ⟨k',g',F',O',?_⟩
     ·rw[hset]
      rcases(hset x).1 hx with hx |rfl
      ·exact .inl (hcl x p hx hp e he)
      ·rw[hAi]at hp;cases hp
       exact .inl (hed e he)
     ·rcases(hset j).1 hh with hh |rfl
      ·exact hab j hj hh
      ·omega
     ·exact⟨h'.sat,h'.lk.congr λj _=>(hset j).symm,λt f hf id hid=>(h'.kF t f hf id hid).mono λj hj=>(hset j).2 hj,λx o' ho' id hid=>(h'.kO x o' ho' id hid).mono λj hj=>(hset j).2 hj,λx o e=>(by cases e),λx hx hh=>h'.below x hx ((hset x).1 hh)⟩
    unfold wpOp at this⊢
    have e1:A.toArray[i]?=some o:=by simpa using hAi
    rw[e1]at this
    rw[ho]
    simp only at this⊢
    have hwant:Region.wanted o (yielded A.toArray a.tmps)=Region.wanted o (yielded big.toArray a.tmps):=by
     unfold Region.wanted
     cases hgd:o.guard with
     |none=>rfl
     |some q=>
      obtain⟨j,want⟩:=q
      have hj:=(hA.grd i o j want hlt hAi hgd).2
      have:yielded A.toArray a.tmps j=yielded big.toArray a.tmps j:=by
       unfold yielded
       simp only[List.getElem?_toArray]
       rw[hget j (by omega)]
      show(yielded A.toArray a.tmps j==some want)=(yielded big.toArray a.tmps j==some want)
      rw[this]
    rw[hwant]at this
    exact this
   ·obtain rfl:i=m:=by omega
    rw[hbn]at hoi
    cases hoi
    have hall: ∀j,j<n->listed.getD j false=true:=λj hj=>by
     rcases List.mem_append.1 (hbw j hj)with hh |hh
     ·exact hed j hh
     ·obtain⟨e,he,hje⟩:=List.mem_flatMap.1 hh
      exact oR hA hcl e (hed e he) j hje
    unfold wpOp
    rw[ho]
    simp only
    rw[cO (by simp[Region.wanted,hbg])]
    by_cases hy:listed.getD n false=true
    ·have hall': ∀j,j<i->listed.getD j false=true:=λj hj=>by
      rcases Nat.lt_or_ge j n with h |h
      ·exact hall j h
      ·obtain rfl:j=n:=by omega
       exact hy
     have hsat:=RE hA h hall'
     refine .inl (Oper.wp_mono (λa' w' hh=>?_) (hnext a w k hsat))
     refine hh _ fuel (by simpa using hsz) hcnt' λj=>?_
     rw[hset]
     constructor
     ·rintro(hj |rfl)
      ·exact Nat.lt_succ_of_lt (Nat.lt_of_not_le λhle=>hab j hle hj)
      ·omega
     ·intro hj
      rcases Nat.lt_or_ge j i with h |h
      ·exact .inl (hall' j h)
      ·exact .inr (by omega)
    ·have hsat:yK B N ⟨(Ls A S0 res n).F,(Ls A S0 res n).O,yM A S0 res i⟩ a w k:=by
      obtain⟨e1,e2⟩:=(h.lk.congr (D':=λj=>j<n) λj hj=>⟨λhj'=>by
       rcases Nat.lt_or_ge j n with hh |hh
       ·exact hh
       ·obtain rfl:j=n:=by omega
        exact absurd hj' hy,λhj'=>hall j hj'⟩).unique (Lk.lex hA.le hA.dst n (by omega))
      have:=h.sat
      rw[e1,e2]at this
      exact⟨g,SatF.toE (S:=⟨(Ls A S0 res n).F,(Ls A S0 res n).O,yM A S0 res i⟩) this⟩
     refine .inl (Oper.wp_mono (λa' w' hh=>?_) (hnext0 a w k hsat))
     refine hh _ fuel (by simpa using hsz) hcnt' λj=>?_
     rw[hset]
     constructor
     ·rintro(hj |rfl)
      ·left
       rcases Nat.lt_or_ge j n with hh |hh
       ·exact hh
       ·have:j=n:=by
         have:=Nat.lt_of_not_le λhle=>hab j hle hj
         omega
        subst this
        exact absurd hj hy
      ·exact .inr rfl
     ·rintro(hj |rfl)
      ·exact .inl (hall j hj)
      ·exact .inr rfl
def iU(n:Nat)(ops:List Oper):List Oper:=(ops.drop (n+2)).map (ry (n+2))
def iT(n:Nat)(p:List Nat)(ops:List Oper):List Oper:=((wO p ops).drop (n+1)).map (ry (n+1))
def kg(T:TT)(y:Oper):Option (Nat×List TF):=
 match y.op,y.dst,y.guard with
 | .alloc t,some d,none=>match yL T t with
  |some ti=>some (d,ti.zero.map λv=> .r (xT v))
  |none=>none
 |_,_,_=>none
def JH(n:Nat)(p p1 p0:List Nat)(ops:List Oper):Bool:=
 Nat.blt (n+1) ops.length&&(pq (n+1) (ops.take (n+1))&&(WX p1 (iU n ops)&&(WX p0 (iT n p ops)&&(YY p ops&&(yZ (λj=>match yp p j with |some i=>Nat.beq i j |none=>false) (List.range n)&&((match yp p n with |some i=>Nat.beq i (n+1) |none=>false)&&
 ((match yp ops (n+1)with
  |none=>false
  |some b=>(match b.guard with |none=>true |some _=>false)&&(yZ (λe=>Nat.blt e (n+1)) (yt b)&&yZ (λj=>xu j (yt b++(yt b).flatMap λe=>(yp (yq [] (ops.take (n+1))) e).getD [])) (List.range n)))&&
 (yZ (λi=>match yp ops i with
  |none=>false
  |some o=>yZ (λe=>Nat.blt e i) (yt o)&&(Nat.ble i (n+1)||((yt o).any (λe=>Nat.ble (n+1) e)&&(match o.guard with |none=>true |some (j,_)=>Nat.blt (n+1) j)))) (List.range ops.length)&&
 yZ (λi=>match yp (wO p ops) i with
  |none=>false
  |some o=>Nat.ble i n||(match o.guard with |none=>true |some (j,_)=>Nat.blt n j)) (List.range ops.length)))))))))
def JI(P:Program)(T:TT)(n:Nat)(p p1 p0:List Nat)(ops:List Oper)(S:St)(K:St->Prop):Prop:=
 match yp ops n,yp ops (n+1)with
 |some y,some b=>match kg T y with
  |some (d,zs)=>oz P T (ops.take (n+1)) (yq [] (ops.take (n+1))) S.nx n 0 (ops.take (n+1)) S [] [] λS1=>
    (si P T ⟨(d,.own S1.nx)::S1.F,(S1.nx,some (.box zs))::S1.O,S1.nx+1⟩ b λS2=>PJ P T p1 (iU n ops) S2 K)/\
    (si P T ⟨S1.F,S1.O,S1.nx+1⟩ b λS2=>PJ P T p0 (iT n p ops) S2 K)
  |none=>False
 |_,_=>False
theorem bz{y:Oper}{d:Nat}{zs:List TF}(h:kg T y=some (d,zs)): ∃t ti,y.op= .alloc t/\y.dst=some d/\y.guard=none/\yL T t=some ti/\zs=ti.zero.map λv=> .r (xT v):=by
 unfold kg at h
 split at h
 ·rename_i t d' h1 h2 h3
  split at h
  ·rename_i ti hti
   simp only[bT,Prod.mk.injEq]at h
   obtain⟨rfl,rfl⟩:=h
   exact⟨t,ti,h1,h2,h3,hti,rfl⟩
  ·cases h
 ·cases h
theorem MU{l:List Oper}{ws:List (List Nat)}{i d:Nat}{y:Oper}{zs:List TF}(hy:l[i]?=some y)(ha:kg T y=some (d,zs))(hr:res i=(.own (Ls l S0 res i).nx,some (.box zs))):Stp P T l ws S0 res i:=by
 obtain⟨t,ti,h1,h2,h3,h4,rfl⟩:=bz ha
 refine⟨y,hy,by rw[h1];rfl,.inr ⟨by simp[sk,h3],?_,λK' hK=>?_,?_⟩⟩
 ·have:yH (Ls l S0 res i) y=[]:=by simp[yH,lO,YP,h1,Op.operands]
  simp only[yR,this,yZ]
 ·rw[hr]at hK
  simp only[wH,h1,Ya,h4]
  exact hK
 ·rw[hr]
  refine yC.2 λid hid=>?_
  have:id=(Ls l S0 res i).nx:=by
   simp only[sF,yn,List.mem_append,List.mem_singleton,List.mem_flatMap,List.mem_map]at hid
   rcases hid with h |⟨f,⟨v,_,rfl⟩,hh⟩
   ·exact h
   ·simp[yn]at hh
  subst this
  exact yW.2 (by simp)
theorem aq(listed:Array Bool)(n m:Nat)(c:Nat->Bool)(hs:listed.size=m)(h: ∀j,listed.getD j false=true↔(j<m/\c j=true)):listed.toList.count false=((List.range m).filter λj=> !c j).length:=by
 have e:listed.toList=(List.range m).map c:=by
  apply List.ext_getElem
  ·simp[hs]
  ·intro i h1 h2
   have hi:i<listed.size:=by simpa using h1
   have:=h i
   rw[cD]
   have h3:listed.getD i false=listed[i]:=by simp[hi]
   rw[h3]at this
   simp only[Array.getElem_toList,List.getElem_map,List.getElem_range]
   rw[this]
   exact⟨λh=>h.2,λh=>⟨by omega,h⟩⟩
 rw[e,List.count_eq_length_filter,List.filter_map,bC]
 congr 1
 apply List.filter_congr
 intro x _
 simp only[Function.comp]
 cases c x<;>rfl
theorem cj(m n:Nat)(hn:n<=m):((List.range m).filter λj=> !decide (j<n)).length=m-n:=by
 induction m with
 |zero=>simp
 |succ m ih=>
  rw[List.range_succ,List.filter_append,aL]
  rcases Nat.lt_or_ge m n with h |h
  ·obtain rfl:n=m+1:=by omega
   have:(List.range m).filter (λj=> !decide (j<m+1))=[]:=List.filter_eq_nil_iff.2 λx hx=>by have:=List.mem_range.1 hx;simp;omega
   rw[this];simp
  ·rw[ih (by omega)]
   have:decide (m<n)=false:=bD (by omega)
   simp[this];omega
theorem eB(m n:Nat)(hn:n+1<m):((List.range m).filter λj=> !(decide (j<n)||decide (j=n+1))).length=m-(n+1):=by
 induction m with
 |zero=>omega
 |succ m ih=>
  rw[List.range_succ,List.filter_append,aL]
  rcases Nat.lt_or_ge (n+1) m with h |h
  ·rw[ih h]
   have h1:decide (m<n)=false:=bD (by omega)
   have h2:decide (m=n+1)=false:=bD (by omega)
   simp[h1,h2];omega
  ·obtain rfl:m=n+1:=by omega
   rw[List.range_succ,List.filter_append,aL]
   have:(List.range n).filter (λj=> !(decide (j<n)||decide (j=n+1)))=[]:=List.filter_eq_nil_iff.2 λx hx=>by have:=List.mem_range.1 hx;simp;omega
   rw[this]
   simp
theorem Vcode.bar2(hm:P.follows .mixedOrders=true)(hT:TOk P T){id:Nat}{ops:Array Oper}{S:St}{Q:Exit->St->Prop}(n:Nat)(q p p1 p0:List Nat)(Sc:St)(hok:(YY q ops.toList&&JH n p p1 p0 (wO q ops.toList))=true)(h:JI P T n p p1 p0 (wO q ops.toList) S (λS'=>Sub S' Sc))(hSc:Q .normal Sc):Vcode P (.region id ops true) S Q:=by
 refine⟨λB N a w k Q' hs hd hQ=>?_⟩
 rw[bB]at hok
 obtain⟨hqB,hok⟩:=hok
 have hN0: ∀o∈ops.toList,∀d,o.dst=some d->d<N:=λo ho d hod=>by
  simp only[xf,List.all_eq_true]at hd
  have h1:=hd o ho
  simp only[hod]at h1
  exact cE h1
 obtain⟨q1',q2',q3',q4',q5',q6'⟩:=fW hqB
 have hN: ∀o∈wO q ops.toList,∀d,o.dst=some d->d<N:=gP hqB hN0
 have hbl:(wO q ops.toList).length=ops.toList.length:=by rw[wO,qq,q1']
 have back: ∀w',wpAny P .any (wO q ops.toList).toArray Q' (wO q ops.toList).length (Array.replicate (wO q ops.toList).length false) a w'->wpAny P .any ops Q' ops.size (Array.replicate ops.size false) a w':=λw' hh=>by
  rw[hbl]at hh
  have:=iD (Q:=Q') q1' q2' q3' q4' q5' q6' _ (Array.replicate ops.toList.length false) _ a w' (by simp) (by simp) (λx i hx=>by
   have h1:x<ops.size:=by have:=(List.getElem?_eq_some_iff.1 hx).1;rw[<-bG];omega
   have h2:i<ops.size:=by have:=q3' i (cH hx);rw[<-bG];exact this
   simp[h1,h2]) hh
  simpa using this
 obtain⟨big,hbig⟩: ∃big,big=wO q ops.toList:=⟨_,rfl⟩
 rw[<-hbig]at hok h hN back
 simp only[JH,bB]at hok
 obtain⟨k1,k2,k3,k4,k5,k6,k7,k8,k9,k10⟩:=hok
 have hn:n+1<big.length:=cE k1
 obtain⟨y,hyn⟩: ∃y,big[n]?=some y:=⟨_,bA (by omega)⟩
 obtain⟨b,hbn⟩: ∃b,big[n+1]?=some b:=⟨_,bA hn⟩
 rw[yE,hbn]at k8
 simp only[bB]at k8
 obtain⟨b1,b2,b3⟩:=k8
 have hbg:b.guard=none:=by
  cases hg:b.guard with
  |none=>rfl
  |some q=>rw[hg]at b1;cases b1
 have hall: ∀i o,big[i]?=some o->yZ (λe=>Nat.blt e i) (yt o)=true/\(i<=n+1\/((yt o).any (λe=>Nat.ble (n+1) e)=true/\∀j want,o.guard=some (j,want)->n+1<j)):=λi o ho=>by
  have hil:=(List.getElem?_eq_some_iff.1 ho).1
  have:=(yC.1 k9) i (List.mem_range.2 hil)
  rw[yE,ho]at this
  simp only[bB,Bool.or_eq_true,Nat.ble_eq]at this
  refine⟨this.1,this.2.imp (λx=>x) λ⟨x,y⟩=>⟨x,λj want hg=>?_⟩⟩
  rw[hg]at y
  exact cE y
 have hNsh: ∀(l:List Oper) (m:Nat),(∀o∈l,∀d,o.dst=some d->d<N)->∀o∈(l.drop m).map (ry m),∀d,o.dst=some d->d<N:=λl m hl o ho d hod=>by
  obtain⟨q,hq,rfl⟩:=List.mem_map.1 ho
  exact hl q (List.mem_of_mem_drop hq) d hod
 have hE: ∀i o,big[i]?=some o->∀e∈yt o,e<i:=λi o ho e he=>cE ((yC.1 (hall i o ho).1) e he)
 unfold JI at h
 rw[yE,yE,hyn,hbn]at h
 simp only at h
 cases hal:kg T y with
 |none=>rw[hal]at h;exact h.elim
 |some dz=>
 obtain⟨d,zs⟩:=dz
 rw[hal]at h
 simp only at h
 obtain⟨A,hA⟩: ∃A,A=big.take (n+1):=⟨_,rfl⟩
 rw[<-hA]at h k2 b3
 have hAl:A.length=n+1:=by rw[hA,bL];omega
 have hAy:A[n]?=some y:=by rw[hA,bZ,cO (by omega)];exact hyn
 have hyd:y.dst=some d:=by
  obtain⟨_,_,_,h2,_⟩:=bz hal
  exact h2
 obtain⟨res0,_,hstp0,h1,h0⟩:=eS (l:=A) (S0:=S) n A 0 (λ_=>(.r .any,none)) rfl h
 simp only[Nat.zero_add]at hstp0 h1 h0
 let res:RS:=λj=>if j=n then(.own (Ls A S res0 n).nx,some (.box zs))else res0 j
 have hcg: ∀j,j<n->res0 j=res j:=λj hj=>by simp[res,Nat.ne_of_lt hj]
 have eLs:Ls A S res0 n=Ls A S res n:=xF hcg
 have hresn:res n=(.own (Ls A S res n).nx,some (.box zs)):=by simp only[res,if_true];rw[<-eLs]
 have eLm:Ls A S res (n+1)=⟨(d,.own (Ls A S res n).nx)::(Ls A S res n).F,((Ls A S res n).nx,some (.box zs))::(Ls A S res n).O,(Ls A S res n).nx+1⟩:=by
  show(match A[n]? with |some o=>(Ls A S res n).new o.dst (res n).1 (res n).2 |none=>Ls A S res n)=_
  rw[hAy,hresn]
  simp only[hyd]
  rfl
 have hstp: ∀j,j<n+1->Stp P T A (yq [] A) S res j:=λj hj=>by
  rcases Nat.lt_or_ge j n with hlt |hge
  ·exact(hstp0 j (Nat.zero_le _) hlt).congr λx hx=>hcg x (by omega)
  ·obtain rfl:j=n:=by omega
   exact MU hAy hal hresn
 rw[eLs]at h1 h0
 have hL:Looks A (yq [] A) (n+1):=gF k2
 obtain⟨g,hs⟩:=hs
 have hz0: ∀i o,ye S.O i=some o->i<S.nx:=λi o ho=>(hs.owns i o ho).1
 have hs':SatE B N S a {w with drawn:=w.drawn+1} k g:=hs.ext (w':={w with drawn:=w.drawn+1}) ⟨rfl,rfl,rfl,bQ _,λ_ _=>rfl⟩ λ_ _=>rfl
 have hnx:S.nx<=yM A S res (n+1):=by
  have:=tJ (l:=A) (S0:=S) (res:=res) (Nat.zero_le (n+1)) hL.le
  simpa only[yM,Ls]using this
 have hf: ∀j,¬(Array.replicate big.length false).getD j false=true:=λj=>by by_cases hlt:j<big.length<;>simp[hlt]
 have fin: ∀S' a' w' k',Sub S' Sc->yK B N S' a' w' k'->Q' .normal a' w':=λS' a' w' k' hsub hh=>by
  obtain⟨k2,h2⟩:=hsub B N a' w' k' hh
  exact hQ _ Sc a' w' k2 hSc h2
 have step1: ∀a w k,yK B N (Ls A S res (n+1)) a w k->b.wp P a w (λa' w'=>∀(listed:Array Bool) (fuel:Nat),listed.size=big.length->listed.toList.count false=fuel->(∀j,listed.getD j false=true↔j<n+1+1)->wpAny P .any big.toArray Q' fuel listed a' w') Q':=λa1 w1 k1 hsat=>by
  rw[eLm]at hsat
  have hw:=tL (Q:=Q') hT hsat (hN _ (cH hbn)) h1
  refine Oper.wp_mono (λa' w' hh listed fuel hsz hcnt hlis=>?_) hw
  obtain⟨S',k',hK,hsat'⟩:=hh
  have hlenC:(iU n big).length=big.length-(n+2):=by simp[iU]
  have:=eQ (Q:=Q') hm hT (hNsh big (n+2) hN) hsat' k3 hK fin
  have hfu:fuel=big.length-(n+2):=by
   rw[<-hcnt,aq listed (n+2) big.length (λj=>decide (j<n+2)) hsz (λj=>by rw[hlis];simp;omega),cj _ _ (by omega)]
  rw[show(big.drop (n+2)).map (ry (n+2))=iU n big from rfl,hlenC]at this
  rw[hfu]
  refine db (n:=n+2) (λi o j want hi ho hg=>?_) _ listed _ a' w' hsz (by simp) (by omega) (λj hj=>(hlis j).2 hj) (λi=>?_) this
  ·rcases(hall i o ho).2 with h |⟨_,h⟩
   ·omega
   ·exact h j want hg
  ·rw[cD,hlis]
   constructor
   ·intro hh;omega
   ·intro hh
    exfalso
    by_cases hlt:i<big.length-(n+2)<;>simp[hlt]at hh
 have step0: ∀a w k,yK B N ⟨(Ls A S res n).F,(Ls A S res n).O,yM A S res (n+1)⟩ a w k->b.wp P a w (λa' w'=>∀(listed:Array Bool) (fuel:Nat),listed.size=big.length->listed.toList.count false=fuel->(∀j,listed.getD j false=true↔(j<n\/j=n+1))->wpAny P .any big.toArray Q' fuel listed a' w') Q':=λa1 w1 k1 hsat=>by
  have eid:yM A S res (n+1)=(Ls A S res n).nx+1:=by unfold yM;rw[eLm]
  rw[eid]at hsat
  have hw:=tL (Q:=Q') hT hsat (hN _ (cH hbn)) h0
  refine Oper.wp_mono (λa' w' hh listed fuel hsz hcnt hlis=>?_) hw
  obtain⟨S',k',hK,hsat'⟩:=hh
  obtain⟨q1,q2,q3,q4,q5,q6⟩:=fW k5
  have hpl:(wO p big).length=big.length:=by rw[wO,qq,q1]
  have hlenC:(iT n p big).length=big.length-(n+1):=by simp[iT,hpl]
  have:=eQ (Q:=Q') hm hT (hNsh (wO p big) (n+1) (gP k5 hN)) hsat' k4 hK fin
  have hfu:fuel=big.length-(n+1):=by
   rw[<-hcnt,aq listed (n+2) big.length (λj=>decide (j<n)||decide (j=n+1)) hsz (λj=>by rw[hlis];simp;omega),eB _ _ hn]
  rw[show((wO p big).drop (n+1)).map (ry (n+1))=iT n p big from rfl,hlenC]at this
  rw[hfu]
  let listed':Array Bool:=(p.map λi=>listed.getD i false).toArray
  have hl': ∀x i,p[x]?=some i->listed'.getD x false=listed.getD i false:=λx i hx=>by
   have h1:x<p.length:=(List.getElem?_eq_some_iff.1 hx).1
   have h2:p[x]=i:=(List.getElem?_eq_some_iff.1 hx).2
   simp[listed',h1,h2]
  have hp6: ∀j,j<n->p[j]?=some j:=λj hj=>by
   have:=(yC.1 k6) j (List.mem_range.2 hj)
   rw[yE]at this
   cases hx:p[j]? with
   |none=>rw[hx]at this;cases this
   |some i=>rw[hx]at this;rw[bI this]
  have hp7:p[n]?=some (n+1):=by
   rw[yE]at k7
   cases hx:p[n]? with
   |none=>rw[hx]at k7;cases k7
   |some i=>rw[hx]at k7;rw[bI k7]
  refine iD q1 q2 q3 q4 q5 q6 _ listed listed' a' w' hsz (by simp[listed',q1]) hl' ?_
  refine db (big:=wO p big) (n:=n+1) (λi o j want hi ho hg=>?_) _ listed' (Array.replicate (big.length-(n+1)) false) a' w' (by simp[listed',q1,hpl]) (by simp[hpl]) (by omega) (λj hj=>?_) (λi=>?_) this
  ·have:=(yC.1 k10) i (List.mem_range.2 (by have:=(List.getElem?_eq_some_iff.1 ho).1;omega))
   rw[yE,ho]at this
   simp only[Bool.or_eq_true,Nat.ble_eq]at this
   rcases this with h |h
   ·omega
   ·rw[hg]at h
    exact cE h
  ·rcases Nat.lt_or_ge j n with hlt |hge
   ·rw[hl' j j (hp6 j hlt),hlis]
    exact .inl hlt
   ·obtain rfl:j=n:=by omega
    rw[hl' j (j+1) hp7,hlis]
    exact .inr rfl
  ·have hr:(Array.replicate (big.length-(n+1)) false).getD i false=false:=by by_cases hlt:i<big.length-(n+1)<;>simp[hlt]
   rw[hr]
   cases hx:p[n+1+i]? with
   |none=>
    have:p.length<=n+1+i:=by simpa using hx
    simp[listed',this]
   |some z=>
    rw[hl' _ z hx]
    cases hlz:listed.getD z false with
    |false=>rfl
    |true=>
     exfalso
     have hz1:=kI q2 hx
     rcases(hlis z).1 hlz with hz |hz
     ·have:=kI q2 (hp6 z hz);omega
     ·rw[hz]at hz1
      have:=kI q2 hp7;omega
 refine wp_region_any hm (back _ ?_)
 have key:=Lt (Q:=Q') (B:=B) (N:=N) (res:=res) hm hT (n:=n) (m:=n+1) rfl hA hn hbn hN hL hstp hz0 hbg (λj hj=>yW.1 ((yC.1 b3) j (List.mem_range.2 hj))) (λe he=>cE ((yC.1 b2) e he))
  (λi o hi ho=>by
   rcases(hall i o ho).2 with h |⟨h,_⟩
   ·omega
   ·obtain⟨e,he,hne⟩:=List.any_eq_true.1 h
    exact⟨e,he,cE hne⟩) hE
  step1 step0
  big.length (Array.replicate big.length false) a {w with drawn:=w.drawn+1} (by simp) (by simp) (λi o hi=>absurd hi (hf i)) (λj _=>hf j) ⟨k,g,yl S.F,ye S.O,?_⟩
 ·simpa using key
 ·refine⟨hs'.toF hnx,⟨λj t hj=>absurd hj (hf j),λt _=>rfl,λj o hj=>absurd hj (hf j),λi _=>rfl⟩,λt f hf' i hi=> .inl ?_,λi o ho j hj=> .inl ?_,λx o e=>(by cases e),λi _ hh=>absurd hh (hf i)⟩
  ·have:=(hs.facts t f hf').1
   cases f<;>simp[yn]at hi<;>subst hi<;>exact this
  ·have:=(hs.owns i o ho).2.1
   cases o with
   |ch=>simp[xY]at hj
   |gen=>simp[xY]at hj
   |box cells=>
    obtain⟨f,hf,hid⟩:=List.mem_flatMap.1 hj
    have:=this f hf
    cases f<;>simp[yn]at hid<;>subst hid<;>exact this
end
theorem Sr(l m:List cT)(hl:l.length<=1000000)(hm:m.length<=1000000):aG 168 [tk l,tk m] (.r (.b (decide (l=m)))):=by
 refine aT Tryz.func168 rfl ?_
 by_cases hlen:l.length=m.length
 ·refine cX ?_ (by simp only[zb];omega)
  refine zy (λi:Nat=>⟨[(0,.r (tk l)),(1,.r (tk m)),(5,.r (I i))],[],0⟩) (λi=>i<=l.length/\l.take i=m.take i) (λi=>l.length-i) 0 ⟨by omega,by simp⟩ (zM []) ?_
  rintro i ⟨hi,he⟩
  refine cZ (λh=>?_) λh=>?_
  ·simp only[zb]at h
   have h1:i<l.length:=by omega
   have h2:i<m.length:=by omega
   refine aV ?_
   refine cV (xn rfl h1) (zg rfl ?_)
   refine cV (xn rfl h2) (zg rfl ?_)
   refine z6 (pA l[i] m[i]) (λh3=>cX ?_) (λh3=>cY ?_)
   ·simp only[decide_eq_true_eq]at h3
    refine zd (m:=((i+1:Nat):Int)) (by omega) (by omega) ?_
    refine⟨i+1,⟨h1,?_⟩,by omega,zM []⟩
    rw[bX h1,bX h2,he,h3]
   ·simp only[decide_eq_false_iff_not]at h3
    refine zf (cR RV.b (Eq.symm ?_))
    rw[decide_eq_false_iff_not]
    intro e
    subst e
    exact h3 rfl
  ·simp only[zb]at h
   refine zf (cR RV.b (Eq.symm ?_))
   rw[decide_eq_true_eq,<-bF (show l.length<=i by omega),he,bF (by omega)]
 ·refine cY ?_ (by simp only[zb];omega)
  refine zf (cR RV.b (Eq.symm ?_))
  rw[decide_eq_false_iff_not]
  exactλe=>hlen (by rw[e])
theorem RO:Tryz.prog.underlying 224=some (.map 3 29):=by kernel_rfl
theorem Bh:(Tryz.prog.info? 29).bind (·.zero)=some (.agg #[.slice none 0 0,.slice none 0 0,.slice none 0 0,.int .u8 0,.slice none 0 0,.slice none 0 0]):=by kernel_rfl
abbrev BW:List RV:=[nl,nl,nl,.i .u8 0,nl,nl]
theorem Bi(w:World)(k:Kp):(RV.ag BW).at_ w k (.agg #[.slice none 0 0,.slice none 0 0,.slice none 0 0,.int .u8 0,.slice none 0 0,.slice none 0 0]):=by
 simp only[RV.at_,RV.listAt]
 exact⟨_,rfl,_,_,rfl,rfl,rfl,_,_,rfl,rfl,rfl,_,_,rfl,rfl,rfl,_,_,rfl,rfl,rfl,_,_,rfl,rfl,rfl,_,_,rfl,rfl,rfl,rfl⟩
section
variable (lf:Leaf) (hlf:lf.fit) (hlr:lf.right=true)
include hlf hlr in
theorem Sq:aG 176 [yS [L1 lf]] (.r (.s (wD [(0,.ag lf.c)]))):=by
 refine yT (T:=Tab) mixed Tab_ok Tryz.func176 rfl (by kernel_rfl) ?_
 refine Vcode.run Tab_ok ?_
 refine Vstep.mapMk 1000001 rfl λb=>?_
 refine ze (QQ lf hlf hlr) ?_
 refine zE 2 ?_
 refine zC mixed Tab_ok ?_
 refine cY ?_
 refine zm qN qO rfl (zg rfl ?_)
 refine zd (m:=0) rfl (by decide) ?_
 refine zm qN qO (oY lf) ?_
 refine cU ?_
 refine Vstep.mapPut 0 1000001 rfl rfl rfl rfl rfl rfl rfl RO nJ rfl ?_
 refine zd (m:=1) rfl (by decide) ?_
 refine zC mixed Tab_ok ?_
 refine cX ?_
 exact⟨_,SB (t:=2) (im:=0) (gh:=1000001) rfl rfl rfl,cr⟩
theorem EE(all g:RV):aG 177 [all,I 0,nl,g] (.r (.b true)):=by
 refine aT Tryz.func177 rfl ?_
 refine Vcode.scope mixed Tab_ok 0 (λ_:Unit=>⟨[],[],0⟩) (λ_=>False) (λ_=>0) rfl ?_ (λ_ h=>h.elim)
 refine Vcode.run Tab_ok ?_
 refine Vstep.mapGMk qI rfl ?_
 refine Vstep.mapGMk qI rfl ?_
 refine zE 1 ?_
 refine zC mixed Tab_ok ?_
 refine cX ?_
 refine zE 1 ?_
 refine zC mixed Tab_ok ?_
 refine cX ?_
 exact cr
theorem Kg:aG 178 [nl] (.r (.b true)):=by
 refine aT Tryz.func178 rfl ?_
 refine zt rfl ?_
 exact cr
include hlf hlr in
theorem Nd(g:cT):aG 107 [yS [L1 lf],I 0,nl,bs g] (.r (.tu [.ag [yS [L1 lf],nl,nl,.b true],Er 0])):=by
 refine aT Tryz.func107 rfl ?_
 have ha:=LQ lf
 refine ze (mo lf hlf hlr) ?_
 refine cX ?_
 refine ze (Sq lf hlf hlr) ?_
 refine Vstep.look2 (.ag BW) rfl rfl rfl RO nJ Bh Bi (λr hr=>?_) (λhr=>by simp[wV]at hr)
 have hr':r= .ag lf.c:=by simpa[wV]using hr.symm
 subst hr'
 refine cX ?_
 refine zu rfl ?_
 refine ze (EE _ _) ?_
 refine cX ?_
 refine ze (Ra lf hlf) ?_
 refine ze Kg ?_
 refine zw ?_
 refine zE 4 ?_
 refine zC mixed Tab_ok ?_
 refine cY ?_
 refine zm (by decide) (by decide) rfl (zg rfl ?_)
 refine zE 1 ?_
 refine zC mixed Tab_ok ?_
 refine cX ?_
 refine zd (m:=1) rfl (by decide) ?_
 refine zC mixed Tab_ok ?_
 refine cY ?_
 refine zm (by decide) (by decide) rfl (zg rfl ?_)
 refine zE 1 ?_
 refine zC mixed Tab_ok ?_
 refine cX ?_
 refine zd (m:=2) rfl (by decide) ?_
 refine zC mixed Tab_ok ?_
 refine cY ?_
 refine zm (by decide) (by decide) rfl (zg rfl ?_)
 refine zE 1 ?_
 refine zC mixed Tab_ok ?_
 refine cX ?_
 refine zd (m:=3) rfl (by decide) ?_
 refine zC mixed Tab_ok ?_
 refine cX ?_
 refine ze ha ?_
 refine cX ?_
 refine cU ?_
 refine cU ?_
 exact⟨_,rfl,cr⟩
end
theorem LL{P:Program}{f:FuncId}{ps qs:List RV}{res:Res}(c:Cvs ps qs)(h:zW P f qs res):zW P f ps res:=⟨h.1,λw k vs hp=>h.2 w k vs (c.at_ hp)⟩
def oP(l:Leaf):Bool:=decide (l.box.length<=200/\l.sign.length<=200/\l.ident.length<=200/\l.parent.length<=200/\l.sig.length<=200)
theorem mp(l:Leaf):aG 148 [.ag [.i .u8 0,bs l.box,bs l.sign,bs l.ident,U8 l.src,bs l.parent,bs l.sig,nl,nl,nl]] (.r (.b (oP l))):=by
 have h:=OZ ⟨0,l,zpr⟩
 have e:(⟨0,l,zpr⟩:Node).small=oP l:=by
  unfold Node.small oP
  rw[cD]
  simp only[decide_eq_true_eq]
  constructor
  ·rintro⟨a,b,c,d,e,_⟩;exact⟨a,b,c,d,e⟩
  ·rintro⟨a,b,c,d,e⟩;exact⟨a,b,c,d,e,Nat.zero_le _,Nat.zero_le _,Nat.zero_le _⟩
 rw[e]at h
 exact LL (zk (Cv.ag (zk (cr) (zk (cr) (zk (cr) (zk (cr) (zk (cr) (zk (cr) (zk (cr) (zk (z8 1) (zk (z8 1) (zk (z8 1) zA))))))))))) zA) h
end Go.Proofs.YtkegaaonpekkgaaGreat.Sx
