import Derived.Test.YtpcfoglfakeimaaGreatZSxBr
import Derived.Test.YtpcfoglfakeimaaGreatZHc
namespace Go.Proofs.YtpcfoglfakeimaaGreat.Sx
open Go.RowKit
def zhc(P:Program)(T:TT)(ops:List Oper)(ws:List (List Nat))(n0:Nat):Nat->Nat->List Oper->St->List (Nat×Nat)->List (Nat×List Nat)->(St->Prop)->Prop
 |0,_,_,S,_,_,K=>K S
 |_+1,_,[],_,_,_,_=>False
 |c+1,i,o::r,S,cr,ia,K=>match zb5 o.op with
  |false=>False
  |true=>
   let go:Prop:=match zaz S o n0 cr ((lget ws i).getD [])with
    |true=>valv P T S o λf ow=>match allB (λid=>memB id (S.nx::zaq S o)) (zew f ow)with
     |true=>newK S o.dst f ow λS'=>zhc P T ops ws n0 c (i+1) r S' (zdf S.nx i ow cr) ((i,zaq S o)::ia) K
     |false=>False
    |false=>False
   let skip:Prop:=newK S o.dst (.r (.tu [])) none λS'=>zhc P T ops ws n0 c (i+1) r S' cr ((i,zaq S o)::ia) K
   match o.guard with
   |none=>go
   |some (j,want)=>match lget ops j with
    |some oj=>match oj.dst with
     |some d=>match fget S.F d with
      |some (.r (.b β))=>match β with
       |true=>match want with
        |true=>go
        |false=>skip
       |false=>match want with
        |false=>go
        |true=>skip
      |some (.r (.tu _))=>skip
      |_=>False
     |none=>False
    |none=>False
section
variable {P:Program} {T:TT} {l:List Oper} {S0:St}
theorem zow{ws:List (List Nat)}{K:St->Prop}: ∀(c:Nat) (r:List Oper) (i:Nat) (res0:RS),l.drop i=r->zhc P T l ws S0.nx c i r (Ls l S0 res0 i) (Cs l S0 res0 i) (Ia l S0 res0 i) K->
  ∃res:RS,(∀j,j<i->res j=res0 j)/\(∀j,i<=j->j<i+c->Stp P T l ws S0 res j)/\K (Ls l S0 res (i+c))
 |0,r,i,res0,hr,h=>⟨res0,λ_ _=>rfl,λj h1 h2=>by omega,by simpa only[zhc,Nat.add_zero]using h⟩
 |c+1,[],i,res0,hr,h=>by simp only[zhc]at h
 |c+1,o::r,i,res0,hr,h=>by
  have hoi:l[i]?=some o:=by
   have:=congrArg (·[0]?) hr
   simpa using this
  have hdr:l.drop (i+1)=r:=by
   rw[<-List.drop_drop,hr];rfl
  simp only[zhc,zat]at h
  cases hrd:zb5 o.op with
  |false=>
   simp only[hrd]at h
  |true=>
   simp only[hrd]at h
   have hlo:i+(c+1)=(i+1)+c:=by omega
   have go: ∀(f:TF) (ow:Option Ow),(∀res:RS,(∀j,j<i->res j=res0 j)->res i=(f,ow)->Stp P T l ws S0 res i)->
     zhc P T l ws S0.nx c (i+1) r ((Ls l S0 res0 i).new o.dst f ow) (zdf (Ls l S0 res0 i).nx i ow (Cs l S0 res0 i)) ((i,zaq (Ls l S0 res0 i) o)::Ia l S0 res0 i) K->
     ∃res:RS,(∀j,j<i->res j=res0 j)/\(∀j,i<=j->j<i+(c+1)->Stp P T l ws S0 res j)/\K (Ls l S0 res (i+(c+1))):=by
    intro f ow hstep h
    let res1:RS:=λj=>if j=i then(f,ow)else res0 j
    have h0: ∀j,j<i->res1 j=res0 j:=λj hj=>by simp[res1,Nat.ne_of_lt hj]
    have hi:res1 i=(f,ow):=by simp[res1]
    have e1:Ls l S0 res1 (i+1)=(Ls l S0 res0 i).new o.dst f ow:=by simp only[Ls,hoi,hi];rw[zbb h0]
    have e2:Cs l S0 res1 (i+1)=(zdf (Ls l S0 res0 i).nx i ow (Cs l S0 res0 i)):=by
     simp only[Cs,hi];rw[zbb h0,zem h0]
    have e3:Ia l S0 res1 (i+1)=(i,zaq (Ls l S0 res0 i) o)::Ia l S0 res0 i:=by simp only[Ia,hoi];rw[zbb h0,zkm h0]
    obtain⟨res,hres,hst,hrun⟩:=zow c r (i+1) res1 hdr (by rw[e1,e2,e3];exact h)
    refine⟨res,λj hj=>(hres j (by omega)).trans (h0 j hj),λj h1 h2=>?_,by rw[hlo];exact hrun⟩
    by_cases hji:j=i
    ·subst hji
     exact hstep res (λx hx=>(hres x (by omega)).trans (h0 x hx)) ((hres j (by omega)).trans hi)
    ·exact hst j (by omega) (by rw[<-hlo];exact h2)
   have exec:Grd l (Ls l S0 res0 i) o true->(match zaz (Ls l S0 res0 i) o S0.nx (Cs l S0 res0 i) ((lget ws i).getD [])with
     |true=>valv P T (Ls l S0 res0 i) o λf ow=>match allB (λid=>memB id ((Ls l S0 res0 i).nx::zaq (Ls l S0 res0 i) o)) (zew f ow)with
      |true=>zhc P T l ws S0.nx c (i+1) r ((Ls l S0 res0 i).new o.dst f ow) (zdf (Ls l S0 res0 i).nx i ow (Cs l S0 res0 i)) ((i,zaq (Ls l S0 res0 i) o)::Ia l S0 res0 i) K
      |false=>False
     |false=>False)->∃res:RS,(∀j,j<i->res j=res0 j)/\(∀j,i<=j->j<i+(c+1)->Stp P T l ws S0 res j)/\K (Ls l S0 res (i+(c+1))):=by
    intro hg h
    split at h
    ·rename_i hneed
     obtain⟨f,ow,h,hp⟩:=zjk hrd (Agree.refl _ _) h
     split at h
     ·rename_i hids
      refine go f ow (λres h0 hi=>⟨o,hoi,hrd, .inr ?_⟩) h
      rw[zbb h0,zem h0,hi]
      exact⟨hg,hneed,hp,hids⟩
     ·exact h.elim
    ·exact h.elim
   have skip:Grd l (Ls l S0 res0 i) o false->zhc P T l ws S0.nx c (i+1) r ((Ls l S0 res0 i).new o.dst (.r (.tu [])) none) (Cs l S0 res0 i) ((i,zaq (Ls l S0 res0 i) o)::Ia l S0 res0 i) K->∃res:RS,(∀j,j<i->res j=res0 j)/\(∀j,i<=j->j<i+(c+1)->Stp P T l ws S0 res j)/\K (Ls l S0 res (i+(c+1))):=by
    intro hg h
    refine go (.r (.tu [])) none (λres h0 hi=>⟨o,hoi,hrd, .inl ?_⟩) h
    rw[zbb h0,hi]
    exact⟨hg,rfl⟩
   cases hgd:o.guard with
   |none=>
    simp only[hgd]at h
    exact exec (by simp[Grd,hgd]) h
   |some jw=>
    obtain⟨j,want⟩:=jw
    simp only[hgd,zao]at h
    split at h
    ·rename_i oj hj
     split at h
     ·rename_i d hod
      split at h
      ·rename_i β hf
       have hG: ∀b,b=(β==want)->Grd l (Ls l S0 res0 i) o b:=λb hb=>by
        simp only[Grd,hgd]
        exact⟨oj,d,hj,hod, .inl ⟨β,hf,hb⟩⟩
       simp only[zao]at exec
       cases β<;>cases want<;>simp only at h
       ·exact exec (hG true rfl) h
       ·exact skip (hG false rfl) h
       ·exact skip (hG false rfl) h
       ·exact exec (hG true rfl) h
      ·rename_i us hf
       exact skip (by simp only[Grd,hgd];exact⟨oj,d,hj,hod, .inr ⟨us,hf,by simp⟩⟩) h
      ·exact h.elim
     ·exact h.elim
    ·exact h.elim
end
section
variable {P:Program} {T:TT} {B:Bs} {N:Nat} {S0:St} {a:Act} {w:World} {k:Kp} {g:Env} {Q:Exit->Act->World->Prop} {res:RS}
theorem z6a(hm:P.follows .mixedOrders=true)(hT:TOk P T){big A:List Oper}{b:Oper}{n m:Nat}(hm1:m=n+1)(hAe:A=big.take m)(hn:m<big.length)(hbn:big[m]?=some b)(hN: ∀o∈big,∀d,o.dst=some d->d<N)
  (hA:Looks A (zaj [] A) m) (hstp: ∀j,j<m->Stp P T A (zaj [] A) S0 res j) (h0: ∀id o,oget S0.O id=some o->id<S0.nx) (hbg:b.guard=none)
  (hbw: ∀j,j<n->j∈zak b++(zak b).flatMap λe=>(lget (zaj [] A) e).getD []) (hbe: ∀e∈zak b,e<m)
  (hC: ∀i o,m<i->big[i]?=some o->∃e∈zak o,m<=e) (hE: ∀i o,big[i]?=some o->∀e∈zak o,e<i)
  (hnext: ∀a w k,Sat B N (Ls A S0 res m) a w k->b.wp P a w (λa' w'=>∀(listed:Array Bool) (fuel:Nat),listed.size=big.length->listed.toList.count false=fuel->(∀j,listed.getD j false=true↔j<m+1)->wpAny P .any big.toArray Q fuel listed a' w') Q)
  (hnext0: ∀a w k,Sat B N ⟨(Ls A S0 res n).F,(Ls A S0 res n).O,idAt A S0 res m⟩ a w k->b.wp P a w (λa' w'=>∀(listed:Array Bool) (fuel:Nat),listed.size=big.length->listed.toList.count false=fuel->(∀j,listed.getD j false=true↔(j<n\/j=m))->wpAny P .any big.toArray Q fuel listed a' w') Q):
  ∀(fuel:Nat) (listed:Array Bool) (a:Act) (w:World),listed.size=big.length->listed.toList.count false=fuel->
   (∀i o,listed.getD i false=true->A[i]?=some o->∀e∈zak o,listed.getD e false=true)->(∀j,m<=j->¬listed.getD j false=true)->
   (∃k g F O,Mid B N A S0 res m (λj=>listed.getD j false=true) none a w k g F O)->wpAny P .any big.toArray Q fuel listed a w:=by
 have hAl:A.length=m:=by rw[hAe,List.length_take];omega
 have hget: ∀i,i<m->A[i]?=big[i]?:=λi hi=>by rw[hAe,List.getElem?_take,if_pos hi]
 intro fuel
 induction fuel with
 |zero=>
  intro listed a w hsz hcnt hcl hab _
  exfalso
  have hne:=List.count_eq_zero.1 hcnt
  have hlt:m<listed.size:=by omega
  have hmem:listed[m]∈listed.toList:=by simp
  have:=hab m (Nat.le_refl _)
  simp[hlt]at this
  rw[this]at hmem
  exact hne hmem
 |succ fuel ih=>
  intro listed a w hsz hcnt hcl hab ⟨k,g,F,O,h⟩
  refine⟨λhempty=>?_,λi hi=>?_⟩
  ·exfalso
   obtain⟨i,⟨hil,hin⟩,hleast⟩:=zfg (p:=λi=>i<big.length/\¬listed.getD i false=true) ⟨m,hn,hab m (Nat.le_refl _)⟩
   have hrd:i∈Region.ready .any big.toArray listed:=by
    refine mem_ready.2 ⟨(zdz (by omega)).2 hin,big[i],by simp[hil],λe he hb=>?_⟩
    have hee:e.on∈zak big[i]:=List.mem_filterMap.2 ⟨e,by simpa using he,by simp[hb]⟩
    have hlt:=hE i _ (List.getElem?_eq_getElem hil) _ hee
    exact Classical.byContradiction λhnn=>by
     have:=hleast e.on ⟨by omega,hnn⟩
     omega
   rw[hempty]at hrd
   cases hrd
  ·obtain⟨h1,o,ho,hedge⟩:=mem_ready.1 hi
   have hoi:big[i]?=some o:=by simpa using ho
   have hil:i<big.length:=(List.getElem?_eq_some_iff.1 hoi).1
   have hni: ¬listed.getD i false=true:=(zdz (by omega)).1 h1
   have hed: ∀e∈zak o,listed.getD e false=true:=λe he=>by
    obtain⟨x,hx,hxe⟩:=List.mem_filterMap.1 he
    split at hxe
    ·rename_i hb
     cases hxe
     exact hedge x (by simpa using hx) hb
    ·cases hxe
   have hin:i<=m:=Nat.le_of_not_lt λhlt=>by
    obtain⟨e,he,hne⟩:=hC i o hlt hoi
    exact hab e hne (hed e he)
   have hset: ∀j,(listed.setIfInBounds i true).getD j false=true↔(listed.getD j false=true\/j=i):=λj=>zgx (by omega)
   have hcnt':=z5o (by omega) hni hcnt
   rcases Nat.lt_or_ge i m with hlt |hge
   ·have hAi:A[i]?=some o:=by rw[hget i hlt];exact hoi
    have hws:=zyg (D:=λj=>listed.getD j false=true) hA hcl hAi hed
    have:=zph (Q:=Q) hm hT (λo ho=>hN o (List.mem_of_mem_take (hAe▸ho))) hA hstp h0 h (λx o' o e=>by cases e) hlt hni hws (zhr hA hcl) (K:=λa' w'=>wpAny P .any big.toArray Q fuel (listed.setIfInBounds i true) a' w') λa' w' k' g' F' O' h'=>by
     refine ih _ a' w' (by simpa using hsz) hcnt' (λx p hx hp e he=>?_) (λj hj hh=>?_) ⟨k',g',F',O',?_⟩
     ·rw[hset]
      rcases(hset x).1 hx with hx |rfl
      ·exact .inl (hcl x p hx hp e he)
      ·rw[hAi]at hp;cases hp
       exact .inl (hed e he)
     ·rcases(hset j).1 hh with hh |rfl
      ·exact hab j hj hh
      ·omega
     ·exact⟨h'.sat,h'.lk.congr λj _=>(hset j).symm,λt f hf id hid=>(h'.kF t f hf id hid).mono λj hj=>(hset j).2 hj,λx o' ho' id hid=>(h'.kO x o' ho' id hid).mono λj hj=>(hset j).2 hj,λx o e=>(by cases e),λx hx hh=>h'.below x hx ((hset x).1 hh)⟩
    unfold wpOp at this⊢
    have e1:A.toArray[i]?=some o:=by simpa using hAi
    rw[e1]at this
    rw[ho]
    simp only at this⊢
    have hwant:Region.wanted o (yielded A.toArray a.tmps)=Region.wanted o (yielded big.toArray a.tmps):=by
     unfold Region.wanted
     cases hgd:o.guard with
     |none=>rfl
     |some q=>
      obtain⟨j,want⟩:=q
      have hj:=(hA.grd i o j want hlt hAi hgd).2
      have:yielded A.toArray a.tmps j=yielded big.toArray a.tmps j:=by
       unfold yielded
       simp only[List.getElem?_toArray]
       rw[hget j (by omega)]
      show(yielded A.toArray a.tmps j==some want)=(yielded big.toArray a.tmps j==some want)
      rw[this]
    rw[hwant]at this
    exact this
   ·obtain rfl:i=m:=by omega
    rw[hbn]at hoi
    cases hoi
    have hall: ∀j,j<n->listed.getD j false=true:=λj hj=>by
     rcases List.mem_append.1 (hbw j hj)with hh |hh
     ·exact hed j hh
     ·obtain⟨e,he,hje⟩:=List.mem_flatMap.1 hh
      exact zhr hA hcl e (hed e he) j hje
    unfold wpOp
    rw[ho]
    simp only
    rw[if_pos (by simp[Region.wanted,hbg])]
    by_cases hy:listed.getD n false=true
    ·have hall': ∀j,j<i->listed.getD j false=true:=λj hj=>by
      rcases Nat.lt_or_ge j n with h |h
      ·exact hall j h
      ·obtain rfl:j=n:=by omega
       exact hy
     have hsat:=zz9 hA h hall'
     refine .inl (Oper.wp_mono (λa' w' hh=>?_) (hnext a w k hsat))
     refine hh _ fuel (by simpa using hsz) hcnt' λj=>?_
     rw[hset]
     constructor
     ·rintro(hj |rfl)
      ·exact Nat.lt_succ_of_lt (Nat.lt_of_not_le λhle=>hab j hle hj)
      ·omega
     ·intro hj
      rcases Nat.lt_or_ge j i with h |h
      ·exact .inl (hall' j h)
      ·exact .inr (by omega)
    ·have hsat:Sat B N ⟨(Ls A S0 res n).F,(Ls A S0 res n).O,idAt A S0 res i⟩ a w k:=by
      obtain⟨e1,e2⟩:=(h.lk.congr (D':=λj=>j<n) λj hj=>⟨λhj'=>by
       rcases Nat.lt_or_ge j n with hh |hh
       ·exact hh
       ·obtain rfl:j=n:=by omega
        exact absurd hj' hy,λhj'=>hall j hj'⟩).unique (Lk.lex hA.le hA.dst n (by omega))
      have:=h.sat
      rw[e1,e2]at this
      exact⟨g,SatF.toE (S:=⟨(Ls A S0 res n).F,(Ls A S0 res n).O,idAt A S0 res i⟩) this⟩
     refine .inl (Oper.wp_mono (λa' w' hh=>?_) (hnext0 a w k hsat))
     refine hh _ fuel (by simpa using hsz) hcnt' λj=>?_
     rw[hset]
     constructor
     ·rintro(hj |rfl)
      ·left
       rcases Nat.lt_or_ge j n with hh |hh
       ·exact hh
       ·have:j=n:=by
         have:=Nat.lt_of_not_le λhle=>hab j hle hj
         omega
        subst this
        exact absurd hj hy
      ·exact .inr rfl
     ·rintro(hj |rfl)
      ·exact .inl (hall j hj)
      ·exact .inr rfl
def zl8(n:Nat)(ops:List Oper):List Oper:=(ops.drop (n+2)).map (shO (n+2))
def zl7(n:Nat)(p:List Nat)(ops:List Oper):List Oper:=((zbz p ops).drop (n+1)).map (shO (n+1))
def zjw(T:TT)(y:Oper):Option (Nat×List TF):=
 match y.op,y.dst,y.guard with
 | .alloc t,some d,none=>match tget T t with
  |some ti=>some (d,ti.zero.map λv=> .r (ofC v))
  |none=>none
 |_,_,_=>none
def z9b(n:Nat)(p p1 p0:List Nat)(ops:List Oper):Bool:=
 Nat.blt (n+1) ops.length&&(zgk (n+1) (ops.take (n+1))&&(zq3 p1 (zl8 n ops)&&(zq3 p0 (zl7 n p ops)&&(perB p ops&&(allB (λj=>match lget p j with |some i=>Nat.beq i j |none=>false) (List.range n)&&((match lget p n with |some i=>Nat.beq i (n+1) |none=>false)&&
 ((match lget ops (n+1)with
  |none=>false
  |some b=>(match b.guard with |none=>true |some _=>false)&&(allB (λe=>Nat.blt e (n+1)) (zak b)&&allB (λj=>memB j (zak b++(zak b).flatMap λe=>(lget (zaj [] (ops.take (n+1))) e).getD [])) (List.range n)))&&
 (allB (λi=>match lget ops i with
  |none=>false
  |some o=>allB (λe=>Nat.blt e i) (zak o)&&(Nat.ble i (n+1)||((zak o).any (λe=>Nat.ble (n+1) e)&&(match o.guard with |none=>true |some (j,_)=>Nat.blt (n+1) j)))) (List.range ops.length)&&
 allB (λi=>match lget (zbz p ops) i with
  |none=>false
  |some o=>Nat.ble i n||(match o.guard with |none=>true |some (j,_)=>Nat.blt n j)) (List.range ops.length)))))))))
def z9c(P:Program)(T:TT)(n:Nat)(p p1 p0:List Nat)(ops:List Oper)(S:St)(K:St->Prop):Prop:=
 match lget ops n,lget ops (n+1)with
 |some y,some b=>match zjw T y with
  |some (d,zs)=>zhc P T (ops.take (n+1)) (zaj [] (ops.take (n+1))) S.nx n 0 (ops.take (n+1)) S [] [] λS1=>
    (zea P T ⟨(d, .own S1.nx)::S1.F,(S1.nx,some (.box zs))::S1.O,S1.nx+1⟩ b λS2=>zuw P T p1 (zl8 n ops) S2 K)/\
    (zea P T ⟨S1.F,S1.O,S1.nx+1⟩ b λS2=>zuw P T p0 (zl7 n p ops) S2 K)
  |none=>False
 |_,_=>False
theorem zp1{y:Oper}{d:Nat}{zs:List TF}(h:zjw T y=some (d,zs)): ∃t ti,y.op= .alloc t/\y.dst=some d/\y.guard=none/\tget T t=some ti/\zs=ti.zero.map λv=> .r (ofC v):=by
 unfold zjw at h
 split at h
 ·rename_i t d' h1 h2 h3
  split at h
  ·rename_i ti hti
   simp only[Option.some.injEq,Prod.mk.injEq]at h
   obtain⟨rfl,rfl⟩:=h
   exact⟨t,ti,h1,h2,h3,hti,rfl⟩
  ·cases h
 ·cases h
theorem z5s{l:List Oper}{ws:List (List Nat)}{i d:Nat}{y:Oper}{zs:List TF}(hy:l[i]?=some y)(ha:zjw T y=some (d,zs))(hr:res i=(.own (Ls l S0 res i).nx,some (.box zs))):Stp P T l ws S0 res i:=by
 obtain⟨t,ti,h1,h2,h3,h4,rfl⟩:=zp1 ha
 refine⟨y,hy,by rw[h1];rfl, .inr ⟨by simp[Grd,h3],?_,λK' hK=>?_,?_⟩⟩
 ·have:zaq (Ls l S0 res i) y=[]:=by simp[zaq,ids1,ids2,h1,Op.operands]
  simp only[zaz,this,allB]
 ·rw[hr]at hK
  simp only[valv,h1,zrm,h4]
  exact hK
 ·rw[hr]
  refine zam.2 λid hid=>?_
  have:id=(Ls l S0 res i).nx:=by
   simp only[zew,zah,List.mem_append,List.mem_singleton,List.mem_flatMap,List.mem_map]at hid
   rcases hid with h |⟨f,⟨v,_,rfl⟩,hh⟩
   ·exact h
   ·simp[zah]at hh
  subst this
  exact za2.2 (by simp)
theorem zqb(listed:Array Bool)(n m:Nat)(c:Nat->Bool)(hs:listed.size=m)(h: ∀j,listed.getD j false=true↔(j<m/\c j=true)):listed.toList.count false=((List.range m).filter λj=> !c j).length:=by
 have e:listed.toList=(List.range m).map c:=by
  apply List.ext_getElem
  ·simp[hs]
  ·intro i h1 h2
   have hi:i<listed.size:=by simpa using h1
   have:=h i
   rw[Bool.eq_iff_iff]
   have h3:listed.getD i false=listed[i]:=by simp[hi]
   rw[h3]at this
   simp only[Array.getElem_toList,List.getElem_map,List.getElem_range]
   rw[this]
   exact⟨λh=>h.2,λh=>⟨by omega,h⟩⟩
 rw[e,List.count_eq_length_filter,List.filter_map,List.length_map]
 congr 1
 apply List.filter_congr
 intro x _
 simp only[Function.comp]
 cases c x<;>rfl
theorem zpq(m n:Nat)(hn:n<=m):((List.range m).filter λj=> !decide (j<n)).length=m-n:=by
 induction m with
 |zero=>simp
 |succ m ih=>
  rw[List.range_succ,List.filter_append,aL]
  rcases Nat.lt_or_ge m n with h |h
  ·obtain rfl:n=m+1:=by omega
   have:(List.range m).filter (λj=> !decide (j<m+1))=[]:=List.filter_eq_nil_iff.2 λx hx=>by have:=List.mem_range.1 hx;simp;omega
   rw[this];simp
  ·rw[ih (by omega)]
   have:decide (m<n)=false:=decide_eq_false (by omega)
   simp[this];omega
theorem zoh(m n:Nat)(hn:n+1<m):((List.range m).filter λj=> !(decide (j<n)||decide (j=n+1))).length=m-(n+1):=by
 induction m with
 |zero=>omega
 |succ m ih=>
  rw[List.range_succ,List.filter_append,aL]
  rcases Nat.lt_or_ge (n+1) m with h |h
  ·rw[ih h]
   have h1:decide (m<n)=false:=decide_eq_false (by omega)
   have h2:decide (m=n+1)=false:=decide_eq_false (by omega)
   simp[h1,h2];omega
  ·obtain rfl:m=n+1:=by omega
   rw[List.range_succ,List.filter_append,aL]
   have:(List.range n).filter (λj=> !(decide (j<n)||decide (j=n+1)))=[]:=List.filter_eq_nil_iff.2 λx hx=>by have:=List.mem_range.1 hx;simp;omega
   rw[this]
   simp
set_option maxHeartbeats 1000000 in
theorem Vcode.bar2(hm:P.follows .mixedOrders=true)(hT:TOk P T){id:Nat}{ops:Array Oper}{S:St}{Q:Exit->St->Prop}(n:Nat)(q p p1 p0:List Nat)(Sc:St)(hok:(perB q ops.toList&&z9b n p p1 p0 (zbz q ops.toList))=true)(h:z9c P T n p p1 p0 (zbz q ops.toList) S (λS'=>Sub S' Sc))(hSc:Q .normal Sc):Vcode P (.region id ops true) S Q:=by
 refine⟨λB N a w k Q' hs hd hQ=>?_⟩
 rw[Bool.and_eq_true]at hok
 obtain⟨hqB,hok⟩:=hok
 have hN0: ∀o∈ops.toList,∀d,o.dst=some d->d<N:=λo ho d hod=>by
  simp only[zau,List.all_eq_true]at hd
  have h1:=hd o ho
  simp only[hod]at h1
  exact Nat.le_of_ble_eq_true h1
 obtain⟨q1',q2',q3',q4',q5',q6'⟩:=zn7 hqB
 have hN: ∀o∈zbz q ops.toList,∀d,o.dst=some d->d<N:=zm7 hqB hN0
 have hbl:(zbz q ops.toList).length=ops.toList.length:=by rw[zbz,zfu,q1']
 have back: ∀w',wpAny P .any (zbz q ops.toList).toArray Q' (zbz q ops.toList).length (Array.replicate (zbz q ops.toList).length false) a w'->wpAny P .any ops Q' ops.size (Array.replicate ops.size false) a w':=λw' hh=>by
  rw[hbl]at hh
  have:=zlw (Q:=Q') q1' q2' q3' q4' q5' q6' _ (Array.replicate ops.toList.length false) _ a w' (by simp) (by simp) (λx i hx=>by
   have h1:x<ops.size:=by have:=(List.getElem?_eq_some_iff.1 hx).1;rw[<-Array.length_toList];omega
   have h2:i<ops.size:=by have:=q3' i (List.mem_of_getElem? hx);rw[<-Array.length_toList];exact this
   simp[h1,h2]) hh
  simpa using this
 obtain⟨big,hbig⟩: ∃big,big=zbz q ops.toList:=⟨_,rfl⟩
 rw[<-hbig]at hok h hN back
 simp only[z9b,Bool.and_eq_true]at hok
 obtain⟨k1,k2,k3,k4,k5,k6,k7,k8,k9,k10⟩:=hok
 have hn:n+1<big.length:=Nat.le_of_ble_eq_true k1
 obtain⟨y,hyn⟩: ∃y,big[n]?=some y:=⟨_,List.getElem?_eq_getElem (by omega)⟩
 obtain⟨b,hbn⟩: ∃b,big[n+1]?=some b:=⟨_,List.getElem?_eq_getElem hn⟩
 rw[zao,hbn]at k8
 simp only[Bool.and_eq_true]at k8
 obtain⟨b1,b2,b3⟩:=k8
 have hbg:b.guard=none:=by
  cases hg:b.guard with
  |none=>rfl
  |some q=>rw[hg]at b1;cases b1
 have hall: ∀i o,big[i]?=some o->allB (λe=>Nat.blt e i) (zak o)=true/\(i<=n+1\/((zak o).any (λe=>Nat.ble (n+1) e)=true/\∀j want,o.guard=some (j,want)->n+1<j)):=λi o ho=>by
  have hil:=(List.getElem?_eq_some_iff.1 ho).1
  have:=(zam.1 k9) i (List.mem_range.2 hil)
  rw[zao,ho]at this
  simp only[Bool.and_eq_true,Bool.or_eq_true,Nat.ble_eq]at this
  refine⟨this.1,this.2.imp (λx=>x) λ⟨x,y⟩=>⟨x,λj want hg=>?_⟩⟩
  rw[hg]at y
  exact Nat.le_of_ble_eq_true y
 have hNsh: ∀(l:List Oper) (m:Nat),(∀o∈l,∀d,o.dst=some d->d<N)->∀o∈(l.drop m).map (shO m),∀d,o.dst=some d->d<N:=λl m hl o ho d hod=>by
  obtain⟨q,hq,rfl⟩:=List.mem_map.1 ho
  exact hl q (List.mem_of_mem_drop hq) d hod
 have hE: ∀i o,big[i]?=some o->∀e∈zak o,e<i:=λi o ho e he=>Nat.le_of_ble_eq_true ((zam.1 (hall i o ho).1) e he)
 unfold z9c at h
 rw[zao,zao,hyn,hbn]at h
 simp only at h
 cases hal:zjw T y with
 |none=>rw[hal]at h;exact h.elim
 |some dz=>
 obtain⟨d,zs⟩:=dz
 rw[hal]at h
 simp only at h
 obtain⟨A,hA⟩: ∃A,A=big.take (n+1):=⟨_,rfl⟩
 rw[<-hA]at h k2 b3
 have hAl:A.length=n+1:=by rw[hA,List.length_take];omega
 have hAy:A[n]?=some y:=by rw[hA,List.getElem?_take,if_pos (by omega)];exact hyn
 have hyd:y.dst=some d:=by
  obtain⟨_,_,_,h2,_⟩:=zp1 hal
  exact h2
 obtain⟨res0,_,hstp0,h1,h0⟩:=zow (l:=A) (S0:=S) n A 0 (λ_=>(.r .any,none)) rfl h
 simp only[Nat.zero_add]at hstp0 h1 h0
 let res:RS:=λj=>if j=n then(.own (Ls A S res0 n).nx,some (.box zs))else res0 j
 have hcg: ∀j,j<n->res0 j=res j:=λj hj=>by simp[res,Nat.ne_of_lt hj]
 have eLs:Ls A S res0 n=Ls A S res n:=zbb hcg
 have hresn:res n=(.own (Ls A S res n).nx,some (.box zs)):=by simp only[res,if_true];rw[<-eLs]
 have eLm:Ls A S res (n+1)=⟨(d, .own (Ls A S res n).nx)::(Ls A S res n).F,((Ls A S res n).nx,some (.box zs))::(Ls A S res n).O,(Ls A S res n).nx+1⟩:=by
  show(match A[n]? with |some o=>(Ls A S res n).new o.dst (res n).1 (res n).2 |none=>Ls A S res n)=_
  rw[hAy,hresn]
  simp only[hyd]
  rfl
 have hstp: ∀j,j<n+1->Stp P T A (zaj [] A) S res j:=λj hj=>by
  rcases Nat.lt_or_ge j n with hlt |hge
  ·exact(hstp0 j (Nat.zero_le _) hlt).congr λx hx=>hcg x (by omega)
  ·obtain rfl:j=n:=by omega
   exact z5s hAy hal hresn
 rw[eLs]at h1 h0
 have hL:Looks A (zaj [] A) (n+1):=zm0 k2
 obtain⟨g,hs⟩:=hs
 have hz0: ∀i o,oget S.O i=some o->i<S.nx:=λi o ho=>(hs.owns i o ho).1
 have hs':SatE B N S a {w with drawn:=w.drawn+1} k g:=hs.ext (w':={w with drawn:=w.drawn+1}) ⟨rfl,rfl,rfl,Nat.le_refl _,λ_ _=>rfl⟩ λ_ _=>rfl
 have hnx:S.nx<=idAt A S res (n+1):=by
  have:=zee (l:=A) (S0:=S) (res:=res) (Nat.zero_le (n+1)) hL.le
  simpa only[idAt,Ls]using this
 have hf: ∀j,¬(Array.replicate big.length false).getD j false=true:=λj=>by by_cases hlt:j<big.length<;>simp[hlt]
 have fin: ∀S' a' w' k',Sub S' Sc->Sat B N S' a' w' k'->Q' .normal a' w':=λS' a' w' k' hsub hh=>by
  obtain⟨k2,h2⟩:=hsub B N a' w' k' hh
  exact hQ _ Sc a' w' k2 hSc h2
 have step1: ∀a w k,Sat B N (Ls A S res (n+1)) a w k->b.wp P a w (λa' w'=>∀(listed:Array Bool) (fuel:Nat),listed.size=big.length->listed.toList.count false=fuel->(∀j,listed.getD j false=true↔j<n+1+1)->wpAny P .any big.toArray Q' fuel listed a' w') Q':=λa1 w1 k1 hsat=>by
  rw[eLm]at hsat
  have hw:=zdr (Q:=Q') hT hsat (hN _ (List.mem_of_getElem? hbn)) h1
  refine Oper.wp_mono (λa' w' hh listed fuel hsz hcnt hlis=>?_) hw
  obtain⟨S',k',hK,hsat'⟩:=hh
  have hlenC:(zl8 n big).length=big.length-(n+2):=by simp[zl8]
  have:=zjr (Q:=Q') hm hT (hNsh big (n+2) hN) hsat' k3 hK fin
  have hfu:fuel=big.length-(n+2):=by
   rw[<-hcnt,zqb listed (n+2) big.length (λj=>decide (j<n+2)) hsz (λj=>by rw[hlis];simp;omega),zpq _ _ (by omega)]
  rw[show(big.drop (n+2)).map (shO (n+2))=zl8 n big from rfl,hlenC]at this
  rw[hfu]
  refine zoz (n:=n+2) (λi o j want hi ho hg=>?_) _ listed _ a' w' hsz (by simp) (by omega) (λj hj=>(hlis j).2 hj) (λi=>?_) this
  ·rcases(hall i o ho).2 with h |⟨_,h⟩
   ·omega
   ·exact h j want hg
  ·rw[Bool.eq_iff_iff,hlis]
   constructor
   ·intro hh;omega
   ·intro hh
    exfalso
    by_cases hlt:i<big.length-(n+2)<;>simp[hlt]at hh
 have step0: ∀a w k,Sat B N ⟨(Ls A S res n).F,(Ls A S res n).O,idAt A S res (n+1)⟩ a w k->b.wp P a w (λa' w'=>∀(listed:Array Bool) (fuel:Nat),listed.size=big.length->listed.toList.count false=fuel->(∀j,listed.getD j false=true↔(j<n\/j=n+1))->wpAny P .any big.toArray Q' fuel listed a' w') Q':=λa1 w1 k1 hsat=>by
  have eid:idAt A S res (n+1)=(Ls A S res n).nx+1:=by unfold idAt;rw[eLm]
  rw[eid]at hsat
  have hw:=zdr (Q:=Q') hT hsat (hN _ (List.mem_of_getElem? hbn)) h0
  refine Oper.wp_mono (λa' w' hh listed fuel hsz hcnt hlis=>?_) hw
  obtain⟨S',k',hK,hsat'⟩:=hh
  obtain⟨q1,q2,q3,q4,q5,q6⟩:=zn7 k5
  have hpl:(zbz p big).length=big.length:=by rw[zbz,zfu,q1]
  have hlenC:(zl7 n p big).length=big.length-(n+1):=by simp[zl7,hpl]
  have:=zjr (Q:=Q') hm hT (hNsh (zbz p big) (n+1) (zm7 k5 hN)) hsat' k4 hK fin
  have hfu:fuel=big.length-(n+1):=by
   rw[<-hcnt,zqb listed (n+2) big.length (λj=>decide (j<n)||decide (j=n+1)) hsz (λj=>by rw[hlis];simp;omega),zoh _ _ hn]
  rw[show((zbz p big).drop (n+1)).map (shO (n+1))=zl7 n p big from rfl,hlenC]at this
  rw[hfu]
  let listed':Array Bool:=(p.map λi=>listed.getD i false).toArray
  have hl': ∀x i,p[x]?=some i->listed'.getD x false=listed.getD i false:=λx i hx=>by
   have h1:x<p.length:=(List.getElem?_eq_some_iff.1 hx).1
   have h2:p[x]=i:=(List.getElem?_eq_some_iff.1 hx).2
   simp[listed',h1,h2]
  have hp6: ∀j,j<n->p[j]?=some j:=λj hj=>by
   have:=(zam.1 k6) j (List.mem_range.2 hj)
   rw[zao]at this
   cases hx:p[j]? with
   |none=>rw[hx]at this;cases this
   |some i=>rw[hx]at this;rw[Nat.eq_of_beq_eq_true this]
  have hp7:p[n]?=some (n+1):=by
   rw[zao]at k7
   cases hx:p[n]? with
   |none=>rw[hx]at k7;cases k7
   |some i=>rw[hx]at k7;rw[Nat.eq_of_beq_eq_true k7]
  refine zlw q1 q2 q3 q4 q5 q6 _ listed listed' a' w' hsz (by simp[listed',q1]) hl' ?_
  refine zoz (big:=zbz p big) (n:=n+1) (λi o j want hi ho hg=>?_) _ listed' (Array.replicate (big.length-(n+1)) false) a' w' (by simp[listed',q1,hpl]) (by simp[hpl]) (by omega) (λj hj=>?_) (λi=>?_) this
  ·have:=(zam.1 k10) i (List.mem_range.2 (by have:=(List.getElem?_eq_some_iff.1 ho).1;omega))
   rw[zao,ho]at this
   simp only[Bool.or_eq_true,Nat.ble_eq]at this
   rcases this with h |h
   ·omega
   ·rw[hg]at h
    exact Nat.le_of_ble_eq_true h
  ·rcases Nat.lt_or_ge j n with hlt |hge
   ·rw[hl' j j (hp6 j hlt),hlis]
    exact .inl hlt
   ·obtain rfl:j=n:=by omega
    rw[hl' j (j+1) hp7,hlis]
    exact .inr rfl
  ·have hr:(Array.replicate (big.length-(n+1)) false).getD i false=false:=by by_cases hlt:i<big.length-(n+1)<;>simp[hlt]
   rw[hr]
   cases hx:p[n+1+i]? with
   |none=>
    have:p.length<=n+1+i:=by simpa using hx
    simp[listed',this]
   |some z=>
    rw[hl' _ z hx]
    cases hlz:listed.getD z false with
    |false=>rfl
    |true=>
     exfalso
     have hz1:=zj6 q2 hx
     rcases(hlis z).1 hlz with hz |hz
     ·have:=zj6 q2 (hp6 z hz);omega
     ·rw[hz]at hz1
      have:=zj6 q2 hp7;omega
 refine wp_region_any hm (back _ ?_)
 have key:=z6a (Q:=Q') (B:=B) (N:=N) (res:=res) hm hT (n:=n) (m:=n+1) rfl hA hn hbn hN hL hstp hz0 hbg (λj hj=>za2.1 ((zam.1 b3) j (List.mem_range.2 hj))) (λe he=>Nat.le_of_ble_eq_true ((zam.1 b2) e he))
  (λi o hi ho=>by
   rcases(hall i o ho).2 with h |⟨h,_⟩
   ·omega
   ·obtain⟨e,he,hne⟩:=List.any_eq_true.1 h
    exact⟨e,he,Nat.le_of_ble_eq_true hne⟩) hE
  step1 step0
  big.length (Array.replicate big.length false) a {w with drawn:=w.drawn+1} (by simp) (by simp) (λi o hi=>absurd hi (hf i)) (λj _=>hf j) ⟨k,g,fget S.F,oget S.O,?_⟩
 ·simpa using key
 ·refine⟨hs'.toF hnx,⟨λj t hj=>absurd hj (hf j),λt _=>rfl,λj o hj=>absurd hj (hf j),λi _=>rfl⟩,λt f hf' i hi=> .inl ?_,λi o ho j hj=> .inl ?_,λx o e=>(by cases e),λi _ hh=>absurd hh (hf i)⟩
  ·have:=(hs.facts t f hf').1
   cases f<;>simp[zah]at hi<;>subst hi<;>exact this
  ·have:=(hs.owns i o ho).2.1
   cases o with
   |ch=>simp[zbl]at hj
   |gen=>simp[zbl]at hj
   |box cells=>
    obtain⟨f,hf,hid⟩:=List.mem_flatMap.1 hj
    have:=this f hf
    cases f<;>simp[zah]at hid<;>subst hid<;>exact this
end
theorem zaub:aG 60 [] (bch [103]):=by
 refine aT Tryz.func60 rfl ?_
 refine zy ?_
 exact rfl
def zdg(n:Nat):Leaf:=slOk (zcr (zcf (n+1)) 1 (UInt8.ofNat (n+1)) (n+1)) (zcf (n+1)) [103] 0
def z6m(n:Nat):KeyP:=⟨0,zgc (zcf (n+2))⟩
def zqg(n:Nat):Wld:=⟨[⟨1,zdg n,zpr⟩],[[z6m n]],[zcf (n+1)],n+2⟩
theorem z2y{ρ:List (Nat×Nat)}{S:St}{f:TF}{v:RV}{t:List Node}{n:Int}{i j:Nat}(h0:S.rv f=some v)(hc:Cv v (nods t))(h1:zax ρ 1=some i)(h2:zax ρ 2=some j):cvOw ρ S (.box [f, .own i, .own j, .r (I n)]) (wBx t n):=
 ⟨_,_,rfl,by show(match S.rv f with |some v'=>Cv v' (nods t) |none=>False);rw[h0];exact hc,_,_,rfl,by show(match zax ρ 1,TF.own i with |some j, .own i=>i=j |_,_=>False);rw[h1],_,_,rfl,by show(match zax ρ 2,TF.own j with |some j, .own i=>i=j |_,_=>False);rw[h2],_,_,rfl,cr,rfl⟩
theorem z3l(v:Value)(n:Nat)(lf:Leaf)(pr:List UInt8)(hn:n<=1000)
  (c: ∀u:Value,Acts aP 59 3 (wO ⟨[],[],[],n+1⟩) [.own 0, .r (bs (zcf (n+1))), .r (bs [103]), .r (U8 1), .r (U8 (UInt8.ofNat (n+1))), .r (I 0)] [(0,u)] 4 (wO ⟨[],[],[],n+2⟩) (.r (.tu [.ag lf.c,bs pr, .b true]))):
  Acts aP 30 3 (wO ⟨[],[],[],n⟩) [.own 0] [(0,v)] 3 (wO ⟨[⟨1,lf,zpr⟩],[[⟨0,pr⟩]],[zcf (n+1)],n+2⟩) (.r (.tu [I 0, .b true])):=by
 refine zb6 (T:=Tab) mixed Tab_ok Tryz.func30 rfl (by kernel_rfl) rfl ⟨⟨_,_,rfl,rfl,zbw,zbw⟩,trivial⟩ ?_
 refine zj [(0,0),(1,1),(2,2)] [0] (λvs _=>zzq (vs 0) ⟨[],[],[],n⟩ (by show n<=_;omega)) (zi rfl ⟨_,_,rfl,rfl,rfl⟩) rfl ⟨zdy rfl rfl,⟨rfl,rfl,rfl,rfl,zn _⟩,⟨rfl,rfl,rfl,rfl,zn _⟩,trivial⟩ (zg0 _) ?_
 have hsl:=zjf (n+1)
 generalize zcf (n+1)=sd at hsl c⊢
 refine Vdraw.code (Vcode.bar2 mixed Tab_ok 8 [0,1,2,3,4,5,6,7,13,8,9,10,11,12,14,15,16] [0,1,2,3,4,5,6,7,9,8,10,11,12,13,14,15,16] [0,1,2,3,5,6,4] [0,1,2,3,4,6,7,5]
  ⟨[(0, .own 0),(4, .r (bs sd)),(5, .own 3),(6, .r (bs pr)),(7, .r (.b true)),(1000000, .nm 0 v)],lift (wO ⟨[],[],[],n+2⟩)++[(3,some (.box (lf.c.map .r)))],4⟩ (by kernel_rfl) ?_ ?_)
 ·refine ze zaub ?_
  refine Vint.u8 (n+1) rfl ?_
  refine⟨?_,?_⟩
  ·refine zj [(0,0),(1,4),(2,5)] [0] (λvs _=>c (vs 0)) (zi rfl ⟨_,_,rfl,rfl,_,_,rfl,cr,_,_,rfl,cr,_,_,rfl,cr,_,_,rfl,cr,_,_,rfl,cr,rfl⟩) rfl ⟨zdy rfl rfl,⟨rfl,rfl,rfl,rfl,zn _⟩,⟨rfl,rfl,rfl,rfl,zn _⟩,trivial⟩ (zg0 _) ?_
   exact zac [(0,0),(1,9),(2,10),(3,7)] rfl ⟨rfl,cr,rfl,cr,cr,⟨rfl,rfl⟩,trivial⟩ ⟨zdy rfl rfl,⟨rfl,rfl,rfl,rfl,zn _⟩,⟨rfl,rfl,rfl,rfl,zn _⟩,(aC (aB aZ)),trivial⟩
  ·refine zj [(0,0),(1,4),(2,5)] [0] (λvs _=>c (vs 0)) (zi rfl ⟨_,_,rfl,rfl,_,_,rfl,cr,_,_,rfl,cr,_,_,rfl,cr,_,_,rfl,cr,_,_,rfl,cr,rfl⟩) rfl ⟨zdy rfl rfl,⟨rfl,rfl,rfl,rfl,zn _⟩,⟨rfl,rfl,rfl,rfl,zn _⟩,trivial⟩ (zg0 _) ?_
   exact zac [(0,0),(1,9),(2,10),(3,12)] rfl ⟨rfl,cr,rfl,cr,cr,⟨rfl,rfl⟩,trivial⟩ ⟨zdy rfl rfl,⟨rfl,rfl,rfl,rfl,zn _⟩,⟨rfl,rfl,rfl,rfl,zn _⟩,(aC (aB aZ)),trivial⟩
 refine zw rfl (zt ?_)
 refine zu rfl (zq ?_)
 refine za rfl rfl ?_
 refine zy ?_
 refine zy ?_
 refine zj [(0,0),(1,1),(2,2)] [0] (λvs _=>zfjb (vs 0) ⟨[⟨1,lf,zpr⟩],[],[],n+2⟩ 0 [⟨0,pr⟩] sd rfl (by show 0<=1000000;omega) (by decide)) (zi rfl ⟨_,_,rfl,rfl,_,_,rfl,cr,_,_,rfl,cr,_,_,rfl,cr,rfl⟩) rfl ⟨z2y rfl (Cv.sl (zk (cr) (zk (cr) (zk (cr) (zk (cr) (zk (cr) (zk (cr) (zk (cr) (zk (Cv.nil 1) (zk (Cv.nil 1) (zk (Cv.nil 1) Cvs.nil))))))))))) rfl rfl,⟨rfl,rfl,rfl,rfl,zn _⟩,⟨rfl,rfl,rfl,rfl,zn _⟩,trivial⟩ (zg0 _) ?_
 exact zfc (.inl rfl) [(0,0),(1,7),(2,8)] [(2, .r (I 0)),(3, .r (.b true))] [] rfl ⟨cr,cr,⟨rfl,rfl⟩,trivial⟩ ⟨zdy rfl rfl,⟨rfl,rfl,rfl,rfl,zn _⟩,⟨rfl,rfl,rfl,rfl,zn _⟩,trivial⟩ ⟨⟨1000000,rfl⟩,trivial⟩ ⟨_,rfl,cr⟩
theorem zdfb(v:Value)(n:Nat)(hn:n<=1000):Acts aP 30 3 (wO ⟨[],[],[],n⟩) [.own 0] [(0,v)] 3 (wO (zqg n)) (.r (.tu [I 0, .b true])):=
 z3l v n (zdg n) (zgc (zcf (n+2))) hn λu=>z66 u ⟨[],[],[],n+1⟩ (zcf (n+1)) [103] 1 (UInt8.ofNat (n+1)) 0 (by show n+1<=_;omega) (zjf _) (by decide) (.inl rfl) (by omega)
abbrev Wld.ptr(w:Wld):RV:= .ptr [nods w.t, .sl 1 w.keys.length (w.keys.map keyR),bss w.sign,I w.n]
theorem z1f(w:Wld)(c: ∀u:Value,Acts aP 30 3 (wO ⟨[],[],[],0⟩) [.own 0] [(0,u)] 3 (wO w) (.r (.tu [I 0, .b true]))):aG 10 [nl] (.r (.tu [w.ptr, .b true])):=by
 refine za1 (T:=Tab) mixed Tab_ok Tryz.func10 rfl (by kernel_rfl) ?_
 refine Vstep.sub ((zcu false 0 1 110 1 (cells:=[.r nl, .r nl, .r nl, .r (I 0)]) rfl rfl).trans (zcu false 0 2 25 1 (cells:=[.r nl, .own 1, .r nl, .r (I 0)]) rfl rfl)) (zj [(0,0),(1,1),(2,2)] [0] (λvs _=>c (vs 0)) (zi rfl ⟨_,_,rfl,rfl,rfl⟩) rfl ⟨z2y rfl (Cv.nil 10) rfl rfl,⟨rfl,rfl,rfl,rfl,zn _⟩,⟨rfl,rfl,rfl,rfl,zn _⟩,trivial⟩ (zg0 _) ?_)
 refine Vloop.mkx (λ_:Unit=>⟨[(0, .r nl),(4, .own 0),(6, .r (.b true)),(7, .r (I 0))],lift (wO w),3⟩) (λ_=>True) (λ_=>0) () trivial (zac [(0,0),(1,4),(2,5)] rfl ⟨cr,rfl,cr,cr,trivial⟩ ⟨zdy rfl rfl,⟨rfl,rfl,rfl,rfl,zn _⟩,⟨rfl,rfl,rfl,rfl,zn _⟩,trivial⟩) ?_
 intro _ _
 refine zw rfl ?_
 refine zt ?_
 refine⟨_,zo _,?_⟩
 refine⟨_,Sub.trans (za7 (id:=1) rfl) (Sub.trans (za7 (id:=2) rfl) (Sub.trans (zac [(0,0)] (S':=⟨[(2, .own 0),(3, .r (.b true))],[(0,some (.box ([nods w.t, .sl 1 w.keys.length (w.keys.map keyR),bss w.sign,I w.n].map .r)))],1⟩) rfl ⟨rfl,cr,trivial⟩ ⟨⟨_,_,rfl,cr,_,_,rfl,cr,_,_,rfl,cr,_,_,rfl,cr,rfl⟩,trivial⟩) (zie (t:=2) [nods w.t, .sl 1 w.keys.length (w.keys.map keyR),bss w.sign,I w.n] rfl rfl))),?_⟩
 exact⟨_,rfl,cr⟩
theorem za0b:aG 10 [nl] (.r (.tu [(zqg 0).ptr, .b true])):=z1f (zqg 0) λu=>zdfb u 0 (by decide)
theorem zqf(n:Nat):(zdg n).box.length=32/\(zdg n).sign.length=32/\(zdg n).ident.length=1/\(zdg n).src.toNat=1/\(zdg n).parent.length=0/\(zdg n).sig.length=64:=
 ⟨zky _,zll _,rfl,rfl,rfl,z4v _ _ _⟩
end Go.Proofs.YtpcfoglfakeimaaGreat.Sx
