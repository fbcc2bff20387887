import Derived.Test.YtfjkblpnbgfkeaaGreatZSxBr
import Derived.Test.YtfjkblpnbgfkeaaGreatZGn
import Derived.Test.YtfjkblpnbgfkeaaGreatZGj
namespace Go.Proofs.YtfjkblpnbgfkeaaGreat.Sx
open Go.RowKit
set_option linter.unusedVariables false
section
def zhn(P:Program)(T:TT)(ops:List Oper)(ws:List (List Nat))(n0:Nat):Nat->Nat->List Oper->St->List (Nat×Nat)->List (Nat×List Nat)->(St->Prop)->Prop
 |0,_,_,S,_,_,K=>K S
 |_+1,_,[],_,_,_,_=>False
 |c+1,i,o::r,S,cr,ia,K=>match zcl o.op with
  |false=>False
  |true=>
   let go:Prop:=match zbq S o n0 cr ((lget ws i).getD [])with
    |true=>valv P T S o λf ow=>match allB (λid=>memB id (S.nx::zap S o)) (ze2 f ow)with
     |true=>newK S o.dst f ow λS'=>zhn P T ops ws n0 c (i+1) r S' (zdx S.nx i ow cr) ((i,zap S o)::ia) K
     |false=>False
    |false=>False
   let skip:Prop:=newK S o.dst (.r (.tu [])) none λS'=>zhn P T ops ws n0 c (i+1) r S' cr ((i,zap S o)::ia) K
   match o.guard with
   |none=>go
   |some (j,want)=>match lget ops j with
    |some oj=>match oj.dst with
     |some d=>match fget S.F d with
      |some (.r (.b β))=>match β with
       |true=>match want with
        |true=>go
        |false=>skip
       |false=>match want with
        |false=>go
        |true=>skip
      |some (.r (.tu _))=>skip
      |_=>False
     |none=>False
    |none=>False
section
variable {P:Program} {T:TT} {l:List Oper} {S0:St}
theorem zoh{ws:List (List Nat)}{K:St->Prop}: ∀(c:Nat) (r:List Oper) (i:Nat) (res0:RS),l.drop i=r->zhn P T l ws S0.nx c i r (Ls l S0 res0 i) (Cs l S0 res0 i) (Ia l S0 res0 i) K->
  ∃res:RS,(∀j,j<i->res j=res0 j)/\(∀j,i<=j->j<i+c->Stp P T l ws S0 res j)/\K (Ls l S0 res (i+c))
 |0,r,i,res0,hr,h=>⟨res0,λ_ _=>rfl,λj h1 h2=>by omega,by simpa only[zhn,Nat.add_zero]using h⟩
 |c+1,[],i,res0,hr,h=>by simp only[zhn]at h
 |c+1,o::r,i,res0,hr,h=>by
  have hoi:l[i]?=some o:=by
   have:=congrArg (·[0]?) hr
   simpa using this
  have hdr:l.drop (i+1)=r:=by
   rw[<-List.drop_drop,hr];rfl
  simp only[zhn,zau]at h
  cases hrd:zcl o.op with
  |false=>
   simp only[hrd]at h
  |true=>
   simp only[hrd]at h
   have hlo:i+(c+1)=(i+1)+c:=by omega
   have go: ∀(f:TF) (ow:Option Ow),(∀res:RS,(∀j,j<i->res j=res0 j)->res i=(f,ow)->Stp P T l ws S0 res i)->
     zhn P T l ws S0.nx c (i+1) r ((Ls l S0 res0 i).new o.dst f ow) (zdx (Ls l S0 res0 i).nx i ow (Cs l S0 res0 i)) ((i,zap (Ls l S0 res0 i) o)::Ia l S0 res0 i) K->
     ∃res:RS,(∀j,j<i->res j=res0 j)/\(∀j,i<=j->j<i+(c+1)->Stp P T l ws S0 res j)/\K (Ls l S0 res (i+(c+1))):=by
    intro f ow hstep h
    let res1:RS:=λj=>if j=i then(f,ow)else res0 j
    have h0: ∀j,j<i->res1 j=res0 j:=λj hj=>by simp[res1,Nat.ne_of_lt hj]
    have hi:res1 i=(f,ow):=by simp[res1]
    have e1:Ls l S0 res1 (i+1)=(Ls l S0 res0 i).new o.dst f ow:=by simp only[Ls,hoi,hi];rw[za8 h0]
    have e2:Cs l S0 res1 (i+1)=(zdx (Ls l S0 res0 i).nx i ow (Cs l S0 res0 i)):=by
     simp only[Cs,hi];rw[za8 h0,zex h0]
    have e3:Ia l S0 res1 (i+1)=(i,zap (Ls l S0 res0 i) o)::Ia l S0 res0 i:=by simp only[Ia,hoi];rw[za8 h0,zko h0]
    obtain⟨res,hres,hst,hrun⟩:=zoh c r (i+1) res1 hdr (by rw[e1,e2,e3];exact h)
    refine⟨res,λj hj=>(hres j (by omega)).trans (h0 j hj),λj h1 h2=>?_,by rw[hlo];exact hrun⟩
    by_cases hji:j=i
    ·subst hji
     exact hstep res (λx hx=>(hres x (by omega)).trans (h0 x hx)) ((hres j (by omega)).trans hi)
    ·exact hst j (by omega) (by rw[<-hlo];exact h2)
   have exec:Grd l (Ls l S0 res0 i) o true->(match zbq (Ls l S0 res0 i) o S0.nx (Cs l S0 res0 i) ((lget ws i).getD [])with
     |true=>valv P T (Ls l S0 res0 i) o λf ow=>match allB (λid=>memB id ((Ls l S0 res0 i).nx::zap (Ls l S0 res0 i) o)) (ze2 f ow)with
      |true=>zhn P T l ws S0.nx c (i+1) r ((Ls l S0 res0 i).new o.dst f ow) (zdx (Ls l S0 res0 i).nx i ow (Cs l S0 res0 i)) ((i,zap (Ls l S0 res0 i) o)::Ia l S0 res0 i) K
      |false=>False
     |false=>False)->∃res:RS,(∀j,j<i->res j=res0 j)/\(∀j,i<=j->j<i+(c+1)->Stp P T l ws S0 res j)/\K (Ls l S0 res (i+(c+1))):=by
    intro hg h
    split at h
    ·rename_i hneed
     obtain⟨f,ow,h,hp⟩:=zjo hrd (Agree.refl _ _) h
     split at h
     ·rename_i hids
      refine go f ow (λres h0 hi=>⟨o,hoi,hrd, .inr ?_⟩) h
      rw[za8 h0,zex h0,hi]
      exact⟨hg,hneed,hp,hids⟩
     ·exact h.elim
    ·exact h.elim
   have skip:Grd l (Ls l S0 res0 i) o false->zhn P T l ws S0.nx c (i+1) r ((Ls l S0 res0 i).new o.dst (.r (.tu [])) none) (Cs l S0 res0 i) ((i,zap (Ls l S0 res0 i) o)::Ia l S0 res0 i) K->∃res:RS,(∀j,j<i->res j=res0 j)/\(∀j,i<=j->j<i+(c+1)->Stp P T l ws S0 res j)/\K (Ls l S0 res (i+(c+1))):=by
    intro hg h
    refine go (.r (.tu [])) none (λres h0 hi=>⟨o,hoi,hrd, .inl ?_⟩) h
    rw[za8 h0,hi]
    exact⟨hg,rfl⟩
   cases hgd:o.guard with
   |none=>
    simp only[hgd]at h
    exact exec (by simp[Grd,hgd]) h
   |some jw=>
    obtain⟨j,want⟩:=jw
    simp only[hgd,zan]at h
    split at h
    ·rename_i oj hj
     split at h
     ·rename_i d hod
      split at h
      ·rename_i β hf
       have hG: ∀b,b=(β==want)->Grd l (Ls l S0 res0 i) o b:=λb hb=>by
        simp only[Grd,hgd]
        exact⟨oj,d,hj,hod, .inl ⟨β,hf,hb⟩⟩
       simp only[zan]at exec
       cases β<;>cases want<;>simp only at h
       ·exact exec (hG true rfl) h
       ·exact skip (hG false rfl) h
       ·exact skip (hG false rfl) h
       ·exact exec (hG true rfl) h
      ·rename_i us hf
       exact skip (by simp only[Grd,hgd];exact⟨oj,d,hj,hod, .inr ⟨us,hf,by simp⟩⟩) h
      ·exact h.elim
     ·exact h.elim
    ·exact h.elim
end
section
variable {P:Program} {T:TT} {B:Bs} {N:Nat} {S0:St} {a:Act} {w:World} {k:Kp} {g:Env} {Q:Exit->Act->World->Prop} {res:RS}
theorem z6l(hm:P.follows .mixedOrders=true)(hT:TOk P T){big A:List Oper}{b:Oper}{n m:Nat}(hm1:m=n+1)(hAe:A=big.take m)(hn:m<big.length)(hbn:big[m]?=some b)(hN: ∀o∈big,∀d,o.dst=some d->d<N)
  (hA:Looks A (zai [] A) m) (hstp: ∀j,j<m->Stp P T A (zai [] A) S0 res j) (h0: ∀id o,oget S0.O id=some o->id<S0.nx) (hbg:b.guard=none)
  (hbw: ∀j,j<n->j∈zaj b++(zaj b).flatMap λe=>(lget (zai [] A) e).getD []) (hbe: ∀e∈zaj b,e<m)
  (hC: ∀i o,m<i->big[i]?=some o->∃e∈zaj o,m<=e) (hE: ∀i o,big[i]?=some o->∀e∈zaj o,e<i)
  (hnext: ∀a w k,Sat B N (Ls A S0 res m) a w k->b.wp P a w (λa' w'=>∀(listed:Array Bool) (fuel:Nat),listed.size=big.length->listed.toList.count false=fuel->(∀j,listed.getD j false=true↔j<m+1)->wpAny P .any big.toArray Q fuel listed a' w') Q)
  (hnext0: ∀a w k,Sat B N ⟨(Ls A S0 res n).F,(Ls A S0 res n).O,idAt A S0 res m⟩ a w k->b.wp P a w (λa' w'=>∀(listed:Array Bool) (fuel:Nat),listed.size=big.length->listed.toList.count false=fuel->(∀j,listed.getD j false=true↔(j<n\/j=m))->wpAny P .any big.toArray Q fuel listed a' w') Q):
  ∀(fuel:Nat) (listed:Array Bool) (a:Act) (w:World),listed.size=big.length->listed.toList.count false=fuel->
   (∀i o,listed.getD i false=true->A[i]?=some o->∀e∈zaj o,listed.getD e false=true)->(∀j,m<=j->¬listed.getD j false=true)->
   (∃k g F O,Mid B N A S0 res m (λj=>listed.getD j false=true) none a w k g F O)->wpAny P .any big.toArray Q fuel listed a w:=by
 have hAl:A.length=m:=by rw[hAe,List.length_take];omega
 have hget: ∀i,i<m->A[i]?=big[i]?:=λi hi=>by rw[hAe,List.getElem?_take,if_pos hi]
 intro fuel
 induction fuel with
 |zero=>
  intro listed a w hsz hcnt hcl hab _
  exfalso
  have hne:=List.count_eq_zero.1 hcnt
  have hlt:m<listed.size:=by omega
  have hmem:listed[m]∈listed.toList:=by simp
  have:=hab m (Nat.le_refl _)
  simp[hlt]at this
  rw[this]at hmem
  exact hne hmem
 |succ fuel ih=>
  intro listed a w hsz hcnt hcl hab ⟨k,g,F,O,h⟩
  refine⟨λhempty=>?_,λi hi=>?_⟩
  ·exfalso
   obtain⟨i,⟨hil,hin⟩,hleast⟩:=zfs (p:=λi=>i<big.length/\¬listed.getD i false=true) ⟨m,hn,hab m (Nat.le_refl _)⟩
   have hrd:i∈Region.ready .any big.toArray listed:=by
    refine mem_ready.2 ⟨(zeb (by omega)).2 hin,big[i],by simp[hil],λe he hb=>?_⟩
    have hee:e.on∈zaj big[i]:=List.mem_filterMap.2 ⟨e,by simpa using he,by simp[hb]⟩
    have hlt:=hE i _ (List.getElem?_eq_getElem hil) _ hee
    exact Classical.byContradiction λhnn=>by
     have:=hleast e.on ⟨by omega,hnn⟩
     omega
   rw[hempty]at hrd
   cases hrd
  ·obtain⟨h1,o,ho,hedge⟩:=mem_ready.1 hi
   have hoi:big[i]?=some o:=by simpa using ho
   have hil:i<big.length:=(List.getElem?_eq_some_iff.1 hoi).1
   have hni: ¬listed.getD i false=true:=(zeb (by omega)).1 h1
   have hed: ∀e∈zaj o,listed.getD e false=true:=λe he=>by
    obtain⟨x,hx,hxe⟩:=List.mem_filterMap.1 he
    split at hxe
    ·rename_i hb
     cases hxe
     exact hedge x (by simpa using hx) hb
    ·cases hxe
   have hin:i<=m:=Nat.le_of_not_lt λhlt=>by
    obtain⟨e,he,hne⟩:=hC i o hlt hoi
    exact hab e hne (hed e he)
   have hset: ∀j,(listed.setIfInBounds i true).getD j false=true↔(listed.getD j false=true\/j=i):=λj=>zha (by omega)
   have hcnt':=z5r (by omega) hni hcnt
   rcases Nat.lt_or_ge i m with hlt |hge
   ·have hAi:A[i]?=some o:=by rw[hget i hlt];exact hoi
    have hws:=zxr (D:=λj=>listed.getD j false=true) hA hcl hAi hed
    have:=zo2 (Q:=Q) hm hT (λo ho=>hN o (List.mem_of_mem_take (hAe▸ho))) hA hstp h0 h (λx o' o e=>by cases e) hlt hni hws (zhy hA hcl) (K:=λa' w'=>wpAny P .any big.toArray Q fuel (listed.setIfInBounds i true) a' w') λa' w' k' g' F' O' h'=>by
     refine ih _ a' w' (by simpa using hsz) hcnt' (λx p hx hp e he=>?_) (λj hj hh=>?_) ⟨k',g',F',O',?_⟩
     ·rw[hset]
      rcases(hset x).1 hx with hx |rfl
      ·exact .inl (hcl x p hx hp e he)
      ·rw[hAi]at hp;cases hp
       exact .inl (hed e he)
     ·rcases(hset j).1 hh with hh |rfl
      ·exact hab j hj hh
      ·omega
     ·exact⟨h'.sat,h'.lk.congr λj _=>(hset j).symm,λt f hf id hid=>(h'.kF t f hf id hid).mono λj hj=>(hset j).2 hj,λx o' ho' id hid=>(h'.kO x o' ho' id hid).mono λj hj=>(hset j).2 hj,λx o e=>(by cases e),λx hx hh=>h'.below x hx ((hset x).1 hh)⟩
    unfold wpOp at this⊢
    have e1:A.toArray[i]?=some o:=by simpa using hAi
    rw[e1]at this
    rw[ho]
    simp only at this⊢
    have hwant:Region.wanted o (yielded A.toArray a.tmps)=Region.wanted o (yielded big.toArray a.tmps):=by
     unfold Region.wanted
     cases hgd:o.guard with
     |none=>rfl
     |some q=>
      obtain⟨j,want⟩:=q
      have hj:=(hA.grd i o j want hlt hAi hgd).2
      have:yielded A.toArray a.tmps j=yielded big.toArray a.tmps j:=by
       unfold yielded
       simp only[List.getElem?_toArray]
       rw[hget j (by omega)]
      show(yielded A.toArray a.tmps j==some want)=(yielded big.toArray a.tmps j==some want)
      rw[this]
    rw[hwant]at this
    exact this
   ·obtain rfl:i=m:=by omega
    rw[hbn]at hoi
    cases hoi
    have hall: ∀j,j<n->listed.getD j false=true:=λj hj=>by
     rcases List.mem_append.1 (hbw j hj)with hh |hh
     ·exact hed j hh
     ·obtain⟨e,he,hje⟩:=List.mem_flatMap.1 hh
      exact zhy hA hcl e (hed e he) j hje
    unfold wpOp
    rw[ho]
    simp only
    rw[if_pos (by simp[Region.wanted,hbg])]
    by_cases hy:listed.getD n false=true
    ·have hall': ∀j,j<i->listed.getD j false=true:=λj hj=>by
      rcases Nat.lt_or_ge j n with h |h
      ·exact hall j h
      ·obtain rfl:j=n:=by omega
       exact hy
     have hsat:=zzu hA h hall'
     refine .inl (Oper.wp_mono (λa' w' hh=>?_) (hnext a w k hsat))
     refine hh _ fuel (by simpa using hsz) hcnt' λj=>?_
     rw[hset]
     constructor
     ·rintro(hj |rfl)
      ·exact Nat.lt_succ_of_lt (Nat.lt_of_not_le λhle=>hab j hle hj)
      ·omega
     ·intro hj
      rcases Nat.lt_or_ge j i with h |h
      ·exact .inl (hall' j h)
      ·exact .inr (by omega)
    ·have hsat:Sat B N ⟨(Ls A S0 res n).F,(Ls A S0 res n).O,idAt A S0 res i⟩ a w k:=by
      obtain⟨e1,e2⟩:=(h.lk.congr (D':=λj=>j<n) λj hj=>⟨λhj'=>by
       rcases Nat.lt_or_ge j n with hh |hh
       ·exact hh
       ·obtain rfl:j=n:=by omega
        exact absurd hj' hy,λhj'=>hall j hj'⟩).unique (Lk.lex hA.le hA.dst n (by omega))
      have:=h.sat
      rw[e1,e2]at this
      exact⟨g,SatF.toE (S:=⟨(Ls A S0 res n).F,(Ls A S0 res n).O,idAt A S0 res i⟩) this⟩
     refine .inl (Oper.wp_mono (λa' w' hh=>?_) (hnext0 a w k hsat))
     refine hh _ fuel (by simpa using hsz) hcnt' λj=>?_
     rw[hset]
     constructor
     ·rintro(hj |rfl)
      ·left
       rcases Nat.lt_or_ge j n with hh |hh
       ·exact hh
       ·have:j=n:=by
         have:=Nat.lt_of_not_le λhle=>hab j hle hj
         omega
        subst this
        exact absurd hj hy
      ·exact .inr rfl
     ·rintro(hj |rfl)
      ·exact .inl (hall j hj)
      ·exact .inr rfl
def zl6(n:Nat)(ops:List Oper):List Oper:=(ops.drop (n+2)).map (shO (n+2))
def zl5(n:Nat)(p:List Nat)(ops:List Oper):List Oper:=((zcg p ops).drop (n+1)).map (shO (n+1))
def zj0(T:TT)(y:Oper):Option (Nat×List TF):=
 match y.op,y.dst,y.guard with
 | .alloc t,some d,none=>match tget T t with
  |some ti=>some (d,ti.zero.map λv=> .r (ofC v))
  |none=>none
 |_,_,_=>none
def z9c(n:Nat)(p p1 p0:List Nat)(ops:List Oper):Bool:=
 Nat.blt (n+1) ops.length&&(zg2 (n+1) (ops.take (n+1))&&(zur p1 (zl6 n ops)&&(zur p0 (zl5 n p ops)&&(perB p ops&&(allB (λj=>match lget p j with |some i=>Nat.beq i j |none=>false) (List.range n)&&((match lget p n with |some i=>Nat.beq i (n+1) |none=>false)&&
 ((match lget ops (n+1)with
  |none=>false
  |some b=>(match b.guard with |none=>true |some _=>false)&&(allB (λe=>Nat.blt e (n+1)) (zaj b)&&allB (λj=>memB j (zaj b++(zaj b).flatMap λe=>(lget (zai [] (ops.take (n+1))) e).getD [])) (List.range n)))&&
 (allB (λi=>match lget ops i with
  |none=>false
  |some o=>allB (λe=>Nat.blt e i) (zaj o)&&(Nat.ble i (n+1)||((zaj o).any (λe=>Nat.ble (n+1) e)&&(match o.guard with |none=>true |some (j,_)=>Nat.blt (n+1) j)))) (List.range ops.length)&&
 allB (λi=>match lget (zcg p ops) i with
  |none=>false
  |some o=>Nat.ble i n||(match o.guard with |none=>true |some (j,_)=>Nat.blt n j)) (List.range ops.length)))))))))
def z9d(P:Program)(T:TT)(n:Nat)(p p1 p0:List Nat)(ops:List Oper)(S:St)(K:St->Prop):Prop:=
 match lget ops n,lget ops (n+1)with
 |some y,some b=>match zj0 T y with
  |some (d,zs)=>zhn P T (ops.take (n+1)) (zai [] (ops.take (n+1))) S.nx n 0 (ops.take (n+1)) S [] [] λS1=>
    (zfw P T ⟨(d, .own S1.nx)::S1.F,(S1.nx,some (.box zs))::S1.O,S1.nx+1⟩ b λS2=>z1r P T p1 (zl6 n ops) S2 K)/\
    (zfw P T ⟨S1.F,S1.O,S1.nx+1⟩ b λS2=>z1r P T p0 (zl5 n p ops) S2 K)
  |none=>False
 |_,_=>False
theorem zpl{y:Oper}{d:Nat}{zs:List TF}(h:zj0 T y=some (d,zs)): ∃t ti,y.op= .alloc t/\y.dst=some d/\y.guard=none/\tget T t=some ti/\zs=ti.zero.map λv=> .r (ofC v):=by
 unfold zj0 at h
 split at h
 ·rename_i t d' h1 h2 h3
  split at h
  ·rename_i ti hti
   simp only[Option.some.injEq,Prod.mk.injEq]at h
   obtain⟨rfl,rfl⟩:=h
   exact⟨t,ti,h1,h2,h3,hti,rfl⟩
  ·cases h
 ·cases h
theorem z5x{l:List Oper}{ws:List (List Nat)}{i d:Nat}{y:Oper}{zs:List TF}(hy:l[i]?=some y)(ha:zj0 T y=some (d,zs))(hr:res i=(.own (Ls l S0 res i).nx,some (.box zs))):Stp P T l ws S0 res i:=by
 obtain⟨t,ti,h1,h2,h3,h4,rfl⟩:=zpl ha
 refine⟨y,hy,by rw[h1];rfl, .inr ⟨by simp[Grd,h3],?_,λK' hK=>?_,?_⟩⟩
 ·have:zap (Ls l S0 res i) y=[]:=by simp[zap,ids1,ids2,h1,Op.operands]
  simp only[zbq,this,allB]
 ·rw[hr]at hK
  simp only[valv,h1,zrh,h4]
  exact hK
 ·rw[hr]
  refine zam.2 λid hid=>?_
  have:id=(Ls l S0 res i).nx:=by
   simp only[ze2,zah,List.mem_append,List.mem_singleton,List.mem_flatMap,List.mem_map]at hid
   rcases hid with h |⟨f,⟨v,_,rfl⟩,hh⟩
   ·exact h
   ·simp[zah]at hh
  subst this
  exact zaz.2 (by simp)
theorem zpw(listed:Array Bool)(n m:Nat)(c:Nat->Bool)(hs:listed.size=m)(h: ∀j,listed.getD j false=true↔(j<m/\c j=true)):listed.toList.count false=((List.range m).filter λj=> !c j).length:=by
 have e:listed.toList=(List.range m).map c:=by
  apply List.ext_getElem
  ·simp[hs]
  ·intro i h1 h2
   have hi:i<listed.size:=by simpa using h1
   have:=h i
   rw[Bool.eq_iff_iff]
   have h3:listed.getD i false=listed[i]:=by simp[hi]
   rw[h3]at this
   simp only[Array.getElem_toList,List.getElem_map,List.getElem_range]
   rw[this]
   exact⟨λh=>h.2,λh=>⟨by omega,h⟩⟩
 rw[e,List.count_eq_length_filter,List.filter_map,List.length_map]
 congr 1
 apply List.filter_congr
 intro x _
 simp only[Function.comp]
 cases c x<;>rfl
theorem zo8(m n:Nat)(hn:n<=m):((List.range m).filter λj=> !decide (j<n)).length=m-n:=by
 induction m with
 |zero=>simp
 |succ m ih=>
  rw[List.range_succ,List.filter_append,List.length_append]
  rcases Nat.lt_or_ge m n with h |h
  ·obtain rfl:n=m+1:=by omega
   have:(List.range m).filter (λj=> !decide (j<m+1))=[]:=List.filter_eq_nil_iff.2 λx hx=>by have:=List.mem_range.1 hx;simp;omega
   rw[this];simp
  ·rw[ih (by omega)]
   have:decide (m<n)=false:=decide_eq_false (by omega)
   simp[this];omega
theorem zn2(m n:Nat)(hn:n+1<m):((List.range m).filter λj=> !(decide (j<n)||decide (j=n+1))).length=m-(n+1):=by
 induction m with
 |zero=>omega
 |succ m ih=>
  rw[List.range_succ,List.filter_append,List.length_append]
  rcases Nat.lt_or_ge (n+1) m with h |h
  ·rw[ih h]
   have h1:decide (m<n)=false:=decide_eq_false (by omega)
   have h2:decide (m=n+1)=false:=decide_eq_false (by omega)
   simp[h1,h2];omega
  ·obtain rfl:m=n+1:=by omega
   rw[List.range_succ,List.filter_append,List.length_append]
   have:(List.range n).filter (λj=> !(decide (j<n)||decide (j=n+1)))=[]:=List.filter_eq_nil_iff.2 λx hx=>by have:=List.mem_range.1 hx;simp;omega
   rw[this]
   simp
set_option maxHeartbeats 1000000 in
theorem Vcode.bar2(hm:P.follows .mixedOrders=true)(hT:TOk P T){id:Nat}{ops:Array Oper}{S:St}{Q:Exit->St->Prop}(n:Nat)(q p p1 p0:List Nat)(Sc:St)(hok:(perB q ops.toList&&z9c n p p1 p0 (zcg q ops.toList))=true)(h:z9d P T n p p1 p0 (zcg q ops.toList) S (λS'=>Sub S' Sc))(hSc:Q .normal Sc):Vcode P (.region id ops true) S Q:=by
 refine⟨λB N a w k Q' hs hd hQ=>?_⟩
 rw[Bool.and_eq_true]at hok
 obtain⟨hqB,hok⟩:=hok
 have hN0: ∀o∈ops.toList,∀d,o.dst=some d->d<N:=λo ho d hod=>by
  simp only[za2,List.all_eq_true]at hd
  have h1:=hd o ho
  simp only[hod]at h1
  exact Nat.le_of_ble_eq_true h1
 obtain⟨q1',q2',q3',q4',q5',q6'⟩:=zno hqB
 have hN: ∀o∈zcg q ops.toList,∀d,o.dst=some d->d<N:=zmt hqB hN0
 have hbl:(zcg q ops.toList).length=ops.toList.length:=by rw[zcg,zgb,q1']
 have back: ∀w',wpAny P .any (zcg q ops.toList).toArray Q' (zcg q ops.toList).length (Array.replicate (zcg q ops.toList).length false) a w'->wpAny P .any ops Q' ops.size (Array.replicate ops.size false) a w':=λw' hh=>by
  rw[hbl]at hh
  have:=zlw (Q:=Q') q1' q2' q3' q4' q5' q6' _ (Array.replicate ops.toList.length false) _ a w' (by simp) (by simp) (λx i hx=>by
   have h1:x<ops.size:=by have:=(List.getElem?_eq_some_iff.1 hx).1;rw[<-Array.length_toList];omega
   have h2:i<ops.size:=by have:=q3' i (List.mem_of_getElem? hx);rw[<-Array.length_toList];exact this
   simp[h1,h2]) hh
  simpa using this
 obtain⟨big,hbig⟩: ∃big,big=zcg q ops.toList:=⟨_,rfl⟩
 rw[<-hbig]at hok h hN back
 simp only[z9c,Bool.and_eq_true]at hok
 obtain⟨k1,k2,k3,k4,k5,k6,k7,k8,k9,k10⟩:=hok
 have hn:n+1<big.length:=Nat.le_of_ble_eq_true k1
 obtain⟨y,hyn⟩: ∃y,big[n]?=some y:=⟨_,List.getElem?_eq_getElem (by omega)⟩
 obtain⟨b,hbn⟩: ∃b,big[n+1]?=some b:=⟨_,List.getElem?_eq_getElem hn⟩
 rw[zan,hbn]at k8
 simp only[Bool.and_eq_true]at k8
 obtain⟨b1,b2,b3⟩:=k8
 have hbg:b.guard=none:=by
  cases hg:b.guard with
  |none=>rfl
  |some q=>rw[hg]at b1;cases b1
 have hall: ∀i o,big[i]?=some o->allB (λe=>Nat.blt e i) (zaj o)=true/\(i<=n+1\/((zaj o).any (λe=>Nat.ble (n+1) e)=true/\∀j want,o.guard=some (j,want)->n+1<j)):=λi o ho=>by
  have hil:=(List.getElem?_eq_some_iff.1 ho).1
  have:=(zam.1 k9) i (List.mem_range.2 hil)
  rw[zan,ho]at this
  simp only[Bool.and_eq_true,Bool.or_eq_true,Nat.ble_eq]at this
  refine⟨this.1,this.2.imp (λx=>x) λ⟨x,y⟩=>⟨x,λj want hg=>?_⟩⟩
  rw[hg]at y
  exact Nat.le_of_ble_eq_true y
 have hNsh: ∀(l:List Oper) (m:Nat),(∀o∈l,∀d,o.dst=some d->d<N)->∀o∈(l.drop m).map (shO m),∀d,o.dst=some d->d<N:=λl m hl o ho d hod=>by
  obtain⟨q,hq,rfl⟩:=List.mem_map.1 ho
  exact hl q (List.mem_of_mem_drop hq) d hod
 have hE: ∀i o,big[i]?=some o->∀e∈zaj o,e<i:=λi o ho e he=>Nat.le_of_ble_eq_true ((zam.1 (hall i o ho).1) e he)
 unfold z9d at h
 rw[zan,zan,hyn,hbn]at h
 simp only at h
 cases hal:zj0 T y with
 |none=>rw[hal]at h;exact h.elim
 |some dz=>
 obtain⟨d,zs⟩:=dz
 rw[hal]at h
 simp only at h
 obtain⟨A,hA⟩: ∃A,A=big.take (n+1):=⟨_,rfl⟩
 rw[<-hA]at h k2 b3
 have hAl:A.length=n+1:=by rw[hA,List.length_take];omega
 have hAy:A[n]?=some y:=by rw[hA,List.getElem?_take,if_pos (by omega)];exact hyn
 have hyd:y.dst=some d:=by
  obtain⟨_,_,_,h2,_⟩:=zpl hal
  exact h2
 obtain⟨res0,_,hstp0,h1,h0⟩:=zoh (l:=A) (S0:=S) n A 0 (λ_=>(.r .any,none)) rfl h
 simp only[Nat.zero_add]at hstp0 h1 h0
 let res:RS:=λj=>if j=n then(.own (Ls A S res0 n).nx,some (.box zs))else res0 j
 have hcg: ∀j,j<n->res0 j=res j:=λj hj=>by simp[res,Nat.ne_of_lt hj]
 have eLs:Ls A S res0 n=Ls A S res n:=za8 hcg
 have hresn:res n=(.own (Ls A S res n).nx,some (.box zs)):=by simp only[res,if_true];rw[<-eLs]
 have eLm:Ls A S res (n+1)=⟨(d, .own (Ls A S res n).nx)::(Ls A S res n).F,((Ls A S res n).nx,some (.box zs))::(Ls A S res n).O,(Ls A S res n).nx+1⟩:=by
  show(match A[n]? with |some o=>(Ls A S res n).new o.dst (res n).1 (res n).2 |none=>Ls A S res n)=_
  rw[hAy,hresn]
  simp only[hyd]
  rfl
 have hstp: ∀j,j<n+1->Stp P T A (zai [] A) S res j:=λj hj=>by
  rcases Nat.lt_or_ge j n with hlt |hge
  ·exact(hstp0 j (Nat.zero_le _) hlt).congr λx hx=>hcg x (by omega)
  ·obtain rfl:j=n:=by omega
   exact z5x hAy hal hresn
 rw[eLs]at h1 h0
 have hL:Looks A (zai [] A) (n+1):=zmn k2
 obtain⟨g,hs⟩:=hs
 have hz0: ∀i o,oget S.O i=some o->i<S.nx:=λi o ho=>(hs.owns i o ho).1
 have hs':SatE B N S a {w with drawn:=w.drawn+1} k g:=hs.ext (w':={w with drawn:=w.drawn+1}) ⟨rfl,rfl,rfl,Nat.le_refl _,λ_ _=>rfl⟩ λ_ _=>rfl
 have hnx:S.nx<=idAt A S res (n+1):=by
  have:=zeo (l:=A) (S0:=S) (res:=res) (Nat.zero_le (n+1)) hL.le
  simpa only[idAt,Ls]using this
 have hf: ∀j,¬(Array.replicate big.length false).getD j false=true:=λj=>by by_cases hlt:j<big.length<;>simp[hlt]
 have fin: ∀S' a' w' k',Sub S' Sc->Sat B N S' a' w' k'->Q' .normal a' w':=λS' a' w' k' hsub hh=>by
  obtain⟨k2,h2⟩:=hsub B N a' w' k' hh
  exact hQ _ Sc a' w' k2 hSc h2
 have step1: ∀a w k,Sat B N (Ls A S res (n+1)) a w k->b.wp P a w (λa' w'=>∀(listed:Array Bool) (fuel:Nat),listed.size=big.length->listed.toList.count false=fuel->(∀j,listed.getD j false=true↔j<n+1+1)->wpAny P .any big.toArray Q' fuel listed a' w') Q':=λa1 w1 k1 hsat=>by
  rw[eLm]at hsat
  have hw:=zfp (Q:=Q') hT hsat (hN _ (List.mem_of_getElem? hbn)) h1
  refine Oper.wp_mono (λa' w' hh listed fuel hsz hcnt hlis=>?_) hw
  obtain⟨S',k',hK,hsat'⟩:=hh
  have hlenC:(zl6 n big).length=big.length-(n+2):=by simp[zl6]
  have:=zoe (Q:=Q') hm hT (hNsh big (n+2) hN) hsat' k3 hK fin
  have hfu:fuel=big.length-(n+2):=by
   rw[<-hcnt,zpw listed (n+2) big.length (λj=>decide (j<n+2)) hsz (λj=>by rw[hlis];simp;omega),zo8 _ _ (by omega)]
  rw[show(big.drop (n+2)).map (shO (n+2))=zl6 n big from rfl,hlenC]at this
  rw[hfu]
  refine zoo (n:=n+2) (λi o j want hi ho hg=>?_) _ listed _ a' w' hsz (by simp) (by omega) (λj hj=>(hlis j).2 hj) (λi=>?_) this
  ·rcases(hall i o ho).2 with h |⟨_,h⟩
   ·omega
   ·exact h j want hg
  ·rw[Bool.eq_iff_iff,hlis]
   constructor
   ·intro hh;omega
   ·intro hh
    exfalso
    by_cases hlt:i<big.length-(n+2)<;>simp[hlt]at hh
 have step0: ∀a w k,Sat B N ⟨(Ls A S res n).F,(Ls A S res n).O,idAt A S res (n+1)⟩ a w k->b.wp P a w (λa' w'=>∀(listed:Array Bool) (fuel:Nat),listed.size=big.length->listed.toList.count false=fuel->(∀j,listed.getD j false=true↔(j<n\/j=n+1))->wpAny P .any big.toArray Q' fuel listed a' w') Q':=λa1 w1 k1 hsat=>by
  have eid:idAt A S res (n+1)=(Ls A S res n).nx+1:=by unfold idAt;rw[eLm]
  rw[eid]at hsat
  have hw:=zfp (Q:=Q') hT hsat (hN _ (List.mem_of_getElem? hbn)) h0
  refine Oper.wp_mono (λa' w' hh listed fuel hsz hcnt hlis=>?_) hw
  obtain⟨S',k',hK,hsat'⟩:=hh
  obtain⟨q1,q2,q3,q4,q5,q6⟩:=zno k5
  have hpl:(zcg p big).length=big.length:=by rw[zcg,zgb,q1]
  have hlenC:(zl5 n p big).length=big.length-(n+1):=by simp[zl5,hpl]
  have:=zoe (Q:=Q') hm hT (hNsh (zcg p big) (n+1) (zmt k5 hN)) hsat' k4 hK fin
  have hfu:fuel=big.length-(n+1):=by
   rw[<-hcnt,zpw listed (n+2) big.length (λj=>decide (j<n)||decide (j=n+1)) hsz (λj=>by rw[hlis];simp;omega),zn2 _ _ hn]
  rw[show((zcg p big).drop (n+1)).map (shO (n+1))=zl5 n p big from rfl,hlenC]at this
  rw[hfu]
  let listed':Array Bool:=(p.map λi=>listed.getD i false).toArray
  have hl': ∀x i,p[x]?=some i->listed'.getD x false=listed.getD i false:=λx i hx=>by
   have h1:x<p.length:=(List.getElem?_eq_some_iff.1 hx).1
   have h2:p[x]=i:=(List.getElem?_eq_some_iff.1 hx).2
   simp[listed',h1,h2]
  have hp6: ∀j,j<n->p[j]?=some j:=λj hj=>by
   have:=(zam.1 k6) j (List.mem_range.2 hj)
   rw[zan]at this
   cases hx:p[j]? with
   |none=>rw[hx]at this;cases this
   |some i=>rw[hx]at this;rw[Nat.eq_of_beq_eq_true this]
  have hp7:p[n]?=some (n+1):=by
   rw[zan]at k7
   cases hx:p[n]? with
   |none=>rw[hx]at k7;cases k7
   |some i=>rw[hx]at k7;rw[Nat.eq_of_beq_eq_true k7]
  refine zlw q1 q2 q3 q4 q5 q6 _ listed listed' a' w' hsz (by simp[listed',q1]) hl' ?_
  refine zoo (big:=zcg p big) (n:=n+1) (λi o j want hi ho hg=>?_) _ listed' (Array.replicate (big.length-(n+1)) false) a' w' (by simp[listed',q1,hpl]) (by simp[hpl]) (by omega) (λj hj=>?_) (λi=>?_) this
  ·have:=(zam.1 k10) i (List.mem_range.2 (by have:=(List.getElem?_eq_some_iff.1 ho).1;omega))
   rw[zan,ho]at this
   simp only[Bool.or_eq_true,Nat.ble_eq]at this
   rcases this with h |h
   ·omega
   ·rw[hg]at h
    exact Nat.le_of_ble_eq_true h
  ·rcases Nat.lt_or_ge j n with hlt |hge
   ·rw[hl' j j (hp6 j hlt),hlis]
    exact .inl hlt
   ·obtain rfl:j=n:=by omega
    rw[hl' j (j+1) hp7,hlis]
    exact .inr rfl
  ·have hr:(Array.replicate (big.length-(n+1)) false).getD i false=false:=by by_cases hlt:i<big.length-(n+1)<;>simp[hlt]
   rw[hr]
   cases hx:p[n+1+i]? with
   |none=>
    have:p.length<=n+1+i:=by simpa using hx
    simp[listed',this]
   |some z=>
    rw[hl' _ z hx]
    cases hlz:listed.getD z false with
    |false=>rfl
    |true=>
     exfalso
     have hz1:=zkd q2 hx
     rcases(hlis z).1 hlz with hz |hz
     ·have:=zkd q2 (hp6 z hz);omega
     ·rw[hz]at hz1
      have:=zkd q2 hp7;omega
 refine wp_region_any hm (back _ ?_)
 have key:=z6l (Q:=Q') (B:=B) (N:=N) (res:=res) hm hT (n:=n) (m:=n+1) rfl hA hn hbn hN hL hstp hz0 hbg (λj hj=>zaz.1 ((zam.1 b3) j (List.mem_range.2 hj))) (λe he=>Nat.le_of_ble_eq_true ((zam.1 b2) e he))
  (λi o hi ho=>by
   rcases(hall i o ho).2 with h |⟨h,_⟩
   ·omega
   ·obtain⟨e,he,hne⟩:=List.any_eq_true.1 h
    exact⟨e,he,Nat.le_of_ble_eq_true hne⟩) hE
  step1 step0
  big.length (Array.replicate big.length false) a {w with drawn:=w.drawn+1} (by simp) (by simp) (λi o hi=>absurd hi (hf i)) (λj _=>hf j) ⟨k,g,fget S.F,oget S.O,?_⟩
 ·simpa using key
 ·refine⟨hs'.toF hnx,⟨λj t hj=>absurd hj (hf j),λt _=>rfl,λj o hj=>absurd hj (hf j),λi _=>rfl⟩,λt f hf' i hi=> .inl ?_,λi o ho j hj=> .inl ?_,λx o e=>(by cases e),λi _ hh=>absurd hh (hf i)⟩
  ·have:=(hs.facts t f hf').1
   cases f<;>simp[zah]at hi<;>subst hi<;>exact this
  ·have:=(hs.owns i o ho).2.1
   cases o with
   |ch=>simp[zbu]at hj
   |gen=>simp[zbu]at hj
   |box cells=>
    obtain⟨f,hf,hid⟩:=List.mem_flatMap.1 hj
    have:=this f hf
    cases f<;>simp[zah]at hid<;>subst hid<;>exact this
end
end
section
theorem z68(s:Lean_)(hn:s.leaves=1)(ho:s.own=0):zab Tryz.prog 24 [.ag s.c] (.r (ze3 [])):=by
 obtain⟨n,o,A,H⟩:=s
 simp only at hn ho
 subst hn;subst ho
 refine zaa (T:=Tab) mixed Tab_ok Tryz.func24 rfl (by kernel_rfl) ?_
 have e1:zb2 0 1=[]:=by decide
 have e2:zbz 0 1=[]:=by decide
 refine zd (m:=0) rfl (by show-9223372036854775808<=(2*0:Int)/\(2*0:Int)<=9223372036854775807;decide) ?_
 refine ze (z6x 0 1) ?_
 refine zd (m:=0) rfl (by show-9223372036854775808<=(2*0:Int)/\(2*0:Int)<=9223372036854775807;decide) ?_
 refine ze (zdkb 0 1) ?_
 rw[e1,e2]
 refine zx (λ_:Unit=>{F:=[(3, .r nl),(23, .r (I 0)),(24, .r (I 0))],O:=[],nx:=0}) (λ_=>True) (λ_=>0) () trivial (zac [] rfl ⟨cr,cr,cr,trivial⟩ trivial) ?_
 intro _ _
 refine zu rfl (zq ?_)
 exact Cv.nil 3
def oneS(n:Node):Lean_:=⟨1,0,[⟨0,n⟩],[]⟩
theorem z1n{n:Node}(hr:n.right=true)(hk:n.kind.toNat=1):sR (oneS n)=true:=by
 have hpar:n.par.late=[]:=by
  unfold Node.right at hr
  rw[if_neg (by omega),if_pos hk]at hr
  simp only[Bool.and_eq_true,Par.none,decide_eq_true_eq]at hr
  exact List.eq_nil_of_length_eq_zero (by omega)
 have hf:zes 0 n=true:=by
  unfold zes
  rw[hr,hpar]
  have:zgq 0=2:=rfl
  rw[this]
  simp
  omega
 have hl:ziv [⟨0,n⟩] 0=true:=by simp[ziv,zay,hk]
 have hv:visV [⟨0,n⟩] 0 false 0 0 0 []=([0],[],true):=by
  unfold visV
  have:zay [⟨0,n⟩] ((nd 0 0:Nat):Int)=some n:=by simp[zay,nd]
  rw[this]
  rfl
 unfold sR ascS atsO atsH zee oneS
 simp only[List.map_cons,List.map_nil,List.all_cons,List.all_nil]
 have hlog:(1:Int).toNat.log2=0:=rfl
 have hz:(0:Int).toNat=0:=rfl
 rw[show(2*(0:Int))=0 from rfl,hl,hf,hlog]
 simp only[hv]
 have hs1:zcw [0]=[0]:=by simp[zcw]
 have hs2:zcw []=[]:=by simp[zcw]
 have hf1:zbj 1=true:=by decide
 simp[ascL,hf1,hs1,hs2]
theorem zbxb{n:Node}(hf:n.fit):(oneS n).bd:=by
 refine⟨(by show i64 1;unfold i64;decide),(by show i64 0;unfold i64;decide),(by show 1<=1000000;omega),(by show 0<=1000000;omega),λx hx=>?_,λx hx=>(by cases hx),λx hx=>?_,λx hx=>(by cases hx)⟩
 ·rw[List.mem_singleton.1 hx];show i64 0;unfold i64;decide
 ·rw[List.mem_singleton.1 hx];exact hf
theorem zaib(n:Node):cutS [n] 1 0=⟨1,0,[⟨0,n⟩],[]⟩:=by
 have e0: ∀O,zcy O 1 0=[0]:=λO=>by
  unfold zcy
  rw[show zb2 (2*0) 1=[]by decide,show zbz (2*0) 1=[]by decide]
  rfl
 have e1: ∀O,ze5 O 1 0=[]:=λO=>by
  unfold ze5
  rw[e0]
  decide
 unfold cutS cutA cutB
 rw[e0,e1]
 simp[zcq,insD,zho,nT]
theorem z3y(n:Node)(hf:n.fit)(hr:n.right=true)(hl:n.par.late=[]):zab Tryz.prog 13 [nods [n],I 0, .b false] (.r (.ag (oneS n).c)):=by
 have e0: ∀O,zcy O ((2^0:Nat):Int) 0=[0]:=λO=>by
  unfold zcy
  rw[show zb2 (2*0) ((2^0:Nat):Int)=[]by decide,show zbz (2*0) ((2^0:Nat):Int)=[]by decide]
  rfl
 have e1: ∀O,ze5 O ((2^0:Nat):Int) 0=[]:=λO=>by
  unfold ze5
  rw[e0]
  decide
 have h:=zfeb [n] (λx hx=>by rw[List.mem_singleton.1 hx];exact hf) (λx hx=>by rw[List.mem_singleton.1 hx];exact hr) (λx hx=>by rw[List.mem_singleton.1 hx,hl];decide) (d:=0) (by decide) rfl (own:=0) (by decide) (by decide)
  (λx hx=>by rw[e0]at hx;rw[List.mem_singleton.1 hx];decide) (λx hx=>by rw[e1]at hx;cases hx) (by rw[e0];decide) (by rw[e1];decide)
 have e:cutS [n] ((2^0:Nat):Int) 0=oneS n:=zaib n
 rw[e]at h
 exact h
theorem z0w(n:Node)(seed sig group com ls pl ql:List UInt8)(ol:Leaf)(hf:n.fit)(hr:n.right=true)(hk:n.kind.toNat=1)(hseed:seed.length=32)(hsig:sig.length=32)(hol:ol.fit)
  (c1:zab Tryz.prog 5 [bs seed,I 0] (.r (bss [com])))
  (c5:zab Tryz.prog 15 [bs seed,Str ⟨#[108,101,97,102]⟩] (.r (bs ls)))
  (c6:zab Tryz.prog 17 [bs ls] (.r (.tu [bs pl,bs ql])))
  (c7:zab Tryz.prog 28 [.ag (zfm n.leaf ql []).c,bs sig,bs group,I 0] (.r (.tu [.ag ol.c,Er 0]))):
  ∃m:MadeP,m.steps=[]/\m.commit=com/\zab Tryz.prog 12 [.ag (oneS n).c,bs seed,bs sig,bs group] (.r (.tu [.ag m.c,Er 0])):=by
 have hR:=z1n hr hk
 have hb:=zbxb hf
 have c4:=zatb (oneS n) 0 hb
 have e1:zlg (oneS n) 0=n:=by unfold zlg;rw[hR];simp[zcx,zay,oneS]
 have e2:ziz (oneS n) 0=true:=by unfold ziz;rw[hR];simp[zb0,zay,oneS]
 rw[e1,e2]at c4
 have c3:=zaob [] [] rfl (by decide) (λr hr=>by cases hr) (λr hr=>by cases hr)
 refine⟨_,?_,?_,z31 (oneS n) seed sig group com ls pl ql [] [] [com] (λ_=>[]) (λ_=>List.replicate 32 0) [] n ol hb hR ⟨by show(0:Int)<=0;omega,by show(0:Int)<65536;omega⟩ hseed hsig (by decide) rfl rfl (λp hp=>by cases hp) rfl hol (λ_=>by simp) (by simp[ze0]) (z68 (oneS n) rfl rfl) c1 (λi h hi=>by simp at hi) c3 c4 c5 c6 c7⟩
 ·rfl
 ·rfl
end
section
abbrev wptr(t:List Node)(k g:RV)(n:Int):RV:= .ptr [nods t,k,g,I n]
set_option maxHeartbeats 1000000 in
theorem zvk(n:Node)(sd q0 com:List UInt8)(kR:RV)(nn:Int)(sp:Lean_)(lf:Leaf)(ks:List KeyP)(ss:List (List UInt8))(hcom:com.length=32)
  (hplay:zab Tryz.prog 11 [nl] (.r (.tu [wptr [n] kR (bss [sd]) nn, .b true])))
  (hcut:zab Tryz.prog 13 [nods [n],I 0, .b false] (.r (.ag (oneS n).c)))
  (cS:zab Tryz.prog 5 [bs [],I 0] (.r (bss [q0])))
  (cM:zab Tryz.prog 12 [.ag (oneS n).c,bs (zbd 9),bs sd,bs []] (.r (.tu [.ag (MadeP.c ⟨sp,lf,[],ks,ss,com⟩),Er 0]))):
  zab Tryz.prog 4 [] (.r (.b true)):=by
 refine zaa (T:=Tab) mixed Tab_ok Tryz.func4 rfl (by kernel_rfl) ?_
 refine ze hplay ?_
 refine zu rfl ?_
 refine Vcall.mk' cS (zk (Cv.nil 1) (zn _)) ?_
 refine zu rfl ?_
 refine zq ?_
 refine Vdraw.mk' (by kernel_rfl) ?_
 refine zg rfl ?_
 refine ze hcut ?_
 refine ze (z4g 9 (by decide)) ?_
 have h9:=ze4 9
 generalize zbd 9=s9 at cM h9⊢
 refine zg rfl ?_
 refine zm (by decide) (by show(0:Int)< ((1:Nat):Int);decide) rfl ?_
 refine zg rfl ?_
 refine Vcall.mk' cM (zk (cr) (zk (cr) (zk (cr) (zk (Cv.nil 1) Cvs.nil)))) ?_
 refine zd (m:=0) rfl (by decide) ?_
 refine zt rfl ?_
 refine zt rfl ?_
 refine Vcmp.mk' (m:=true) (by rw[hcom];rfl) ?_
 exact cr
theorem zx3(l m:List (List UInt8))(hl:l.length<=1000000)(hm:m.length<=1000000):zab Tryz.prog 8 [bss l,bss m] (.r (.b (decide (l=m)))):=by
 refine zaa (T:=Tab) mixed Tab_ok Tryz.func8 rfl (by kernel_rfl) ?_
 by_cases hlen:l.length=m.length
 ·refine zu (by simp only[zb];omega) (zq ?_)
  refine zx (λi:Nat=>⟨[(0, .r (bss l)),(1, .r (bss m)),(5, .r (I i))],[],0⟩) (λi=>i<=l.length/\l.take i=m.take i) (λi=>l.length-i) 0 ⟨by omega,by simp⟩ (zac [] rfl ⟨cr,cr,cr,trivial⟩ trivial) ?_
  rintro i ⟨hi,he⟩
  refine zh (λh=>zp ?_) (λh=>zq ?_)
  ·simp only[zb]at h
   have h1:i<l.length:=by omega
   have h2:i<m.length:=by omega
   refine Vdraw.mk' (by kernel_rfl) ?_
   refine zm (by omega) (by omega) (zak rfl h1) (zg rfl ?_)
   refine zm (by omega) (by omega) (zak rfl h2) (zg rfl ?_)
   refine zy (zox l[i] m[i]) (λh3=>zu rfl (zq ?_)) (λh3=>zt rfl (zp ?_))
   ·simp only[decide_eq_true_eq]at h3
    refine zd (m:=((i+1:Nat):Int)) (by omega) (by omega) ?_
    refine⟨i+1,⟨h1,?_⟩,by omega,zac [] rfl ⟨cr,cr,cr,trivial⟩ trivial⟩
    rw[List.take_succ_eq_append_getElem h1,List.take_succ_eq_append_getElem h2,he,h3]
   ·simp only[decide_eq_false_iff_not]at h3
    refine zf (congrArg RV.b (Eq.symm ?_))
    rw[decide_eq_false_iff_not]
    intro e
    subst e
    exact h3 rfl
  ·simp only[zb]at h
   refine zf (congrArg RV.b (Eq.symm ?_))
   rw[decide_eq_true_eq,<-List.take_of_length_le (show l.length<=i by omega),he,List.take_of_length_le (by omega)]
 ·refine zt (by simp only[zb];omega) (zp ?_)
  refine zf (congrArg RV.b (Eq.symm ?_))
  rw[decide_eq_false_iff_not]
  exactλe=>hlen (by rw[e])
theorem zoy(seed a b:List UInt8)(n:Int)(Q:List (List UInt8))(hn:0<=n/\n<=16)(hQ:Q.length<=1000)
  (hal:zab Tryz.prog 4 [] (.r (.b true)))
  (c1:seed.length<=100->zab Tryz.prog 5 [bs seed,I n] (.r (bss Q)))
  (c2:seed.length<=100->zab Tryz.prog 6 [bs seed] (.r (.tu [bs a,bs b])))
  (c3:seed.length<=100->zab Tryz.prog 7 [bs seed,Str ⟨#[110,111,100,101]⟩] (.r (.tu [bs a,bs b])))
  (c4:seed.length<=100->zab Tryz.prog 9 [bs seed,I n] (.r (bss Q))):
  zab Tryz.prog 3 [bs seed,I n] (.r (.b true)):=by
 refine zaa (T:=Tab) mixed Tab_ok Tryz.func3 rfl (by kernel_rfl) ?_
 refine ze hal ?_
 refine zu rfl (zq ?_)
 refine zh (λh=>zp ?_) (λh=>zq ?_)
 ·exact cr
 ·simp only[zb]at h
  have hs:seed.length<=100:=by omega
  refine ze (c1 hs) ?_
  refine zu (decide_eq_false (by omega)) ?_
  refine zu (decide_eq_false (by omega)) (zq ?_)
  refine ze (c2 hs) ?_
  refine ze (c3 hs) ?_
  refine ze (c4 hs) ?_
  refine zy (zx3 Q Q (by omega) (by omega)) (λ_=>?_) (λh=>absurd h (by simp))
  refine zy (zox a a) (λ_=>?_) (λh=>absurd h (by simp))
  refine zy (zox b b) (λ_=>?_) (λh=>absurd h (by simp))
  exact cr
theorem zn1(seed:List UInt8)(n:Int)(hn:n<0\/16<n)
  (hal:zab Tryz.prog 4 [] (.r (.b true))):
  zab Tryz.prog 3 [bs seed,I n] (.r (.b true)):=by
 refine zaa (T:=Tab) mixed Tab_ok Tryz.func3 rfl (by kernel_rfl) ?_
 refine ze hal ?_
 refine zu rfl (zq ?_)
 refine zh (λh=>zp ?_) (λh=>zq ?_)
 ·exact cr
 ·refine ze (zr3 seed n hn) ?_
  by_cases h0:n<0
  ·refine zt (decide_eq_true h0) (zp ?_)
   refine zt rfl ?_
   exact cr
  ·refine zu (decide_eq_false h0) ?_
   refine zt (decide_eq_true (by omega)) (zp ?_)
   refine zt rfl ?_
   exact cr
theorem zt9(seed:List UInt8)(n:Int)(hal:zab Tryz.prog 4 [] (.r (.b true))):zab Tryz.prog 3 [bs seed,I n] (.r (.b true)):=by
 by_cases hn:0<=n/\n<=16
 ·exact zoy seed _ _ n (zch seed (n.toNat+1)) hn (by rw[zjk];omega) hal (λhs=>zmh seed n (by omega) hn) (λhs=>za9b seed (by omega)) (λhs=>za6b seed ⟨#[110,111,100,101]⟩ (by omega) (by decide)) (λhs=>z0v seed n (by omega) hn)
 ·exact zn1 seed n (by omega) hal
end
end Go.Proofs.YtfjkblpnbgfkeaaGreat.Sx
