import Derived.Test.YtoegdgbghdnnfaaGreatZSxJ
namespace Go.Proofs.YtoegdgbghdnnfaaGreat.Sx
open Go.RowKit
theorem zbg: ∀{l:List Nat} {n:Nat},memB n l=true↔n∈l
 |[],n=>by simp[memB]
 |x::r,n=>by
  simp only[memB]
  split
  ·rename_i h;have:=Nat.eq_of_beq_eq_true h;subst this;simp
  ·rename_i h;have:=Nat.ne_of_beq_eq_false h;rw[zbg];simp[Ne.symm this]
theorem za5{α:Type}{p:α->Bool}: ∀{l:List α},allB p l=true↔∀x∈l,p x=true
 |[]=>by simp[allB]
 |x::r=>by
  simp only[allB]
  split
  ·rename_i h;rw[za5];simp[h]
  ·rename_i h;simp[h]
theorem ztp{α β:Type}{l:List α}{f g:α->List β}(h: ∀x∈l,f x=g x):l.flatMap f=l.flatMap g:=by
 rw[List.flatMap_def,List.flatMap_def,List.map_congr_left h]
theorem zou: ∀{r:List Oper} {acc:List (List Nat)} {i:Nat},i<acc.length->(zap acc r)[i]?=acc[i]?
 |[],acc,i,h=>rfl
 |o::r,acc,i,h=>by
  simp only[zap]
  rw[zou (by simp;omega),List.getElem?_append_left h]
theorem zmx: ∀{r:List Oper} {acc:List (List Nat)} {j:Nat} {o:Oper},(∀(k:Nat) (p:Oper),r[k]?=some p->∀e∈za1 p,e<acc.length+k)->r[j]?=some o->
  (zap acc r)[acc.length+j]?=some (za1 o++(za1 o).flatMap λe=>((zap acc r)[e]?).getD [])
 |[],acc,j,o,_,h=>by simp at h
 |p::r,acc,j,o,he,h=>by
  simp only[zap]
  cases j with
  |zero=>
   simp at h
   subst h
   have hlen:acc.length< (acc++[za1 p++(za1 p).flatMap λj=>(lget acc j).getD []]).length:=by simp
   rw[Nat.add_zero,zou hlen]
   simp only[List.getElem?_append_right (Nat.le_refl _),Nat.sub_self,List.getElem?_cons_zero,Option.some.injEq]
   congr 1
   have: ∀e∈za1 p,(lget acc e).getD []=((zap (acc++[za1 p++(za1 p).flatMap λj=>(lget acc j).getD []]) r)[e]?).getD []:=λe hm=>by
    have:=he 0 p (by simp) e hm
    rw[zba,zou (by simp;omega),List.getElem?_append_left (by omega)]
   exact ztp this
  |succ j=>
   have:=zmx (r:=r) (acc:=acc++[za1 p++(za1 p).flatMap λj=>(lget acc j).getD []]) (j:=j) (o:=o) (λk q hk e hm=>by
    have:=he (k+1) q (by simpa using hk) e hm
    simp;omega) (by simpa using h)
   rw[show acc.length+(j+1)=(acc++[za1 p++(za1 p).flatMap λj=>(lget acc j).getD []]).length+j by simp;omega]
   exact this
section
variable {P:Program} {T:TT} {l:List Oper} {S0:St}
abbrev RS:=Nat->TF×Option Ow
def Ls(l:List Oper)(S0:St)(res:RS):Nat->St
 |0=>S0
 |i+1=>match l[i]? with
  |some o=>(Ls l S0 res i).new o.dst (res i).1 (res i).2
  |none=>Ls l S0 res i
def Cs(l:List Oper)(S0:St)(res:RS):Nat->List (Nat×Nat)
 |0=>[]
 |i+1=>zgc (Ls l S0 res i).nx i (res i).2 (Cs l S0 res i)
def Ia(l:List Oper)(S0:St)(res:RS):Nat->List (Nat×List Nat)
 |0=>[]
 |i+1=>match l[i]? with
  |some o=>(i,zbb (Ls l S0 res i) o)::Ia l S0 res i
  |none=>Ia l S0 res i
theorem zdb{res res':RS}: ∀{i:Nat},(∀j,j<i->res j=res' j)->Ls l S0 res i=Ls l S0 res' i
 |0,_=>rfl
 |i+1,h=>by simp only[Ls];rw[zdb λj hj=>h j (by omega),h i (by omega)]
theorem zjq{res res':RS}: ∀{i:Nat},(∀j,j<i->res j=res' j)->Cs l S0 res i=Cs l S0 res' i
 |0,_=>rfl
 |i+1,h=>by simp only[Cs];rw[zjq λj hj=>h j (by omega),h i (by omega),zdb λj hj=>h j (by omega)]
theorem zqf{res res':RS}: ∀{i:Nat},(∀j,j<i->res j=res' j)->Ia l S0 res i=Ia l S0 res' i
 |0,_=>rfl
 |i+1,h=>by simp only[Ia];rw[zqf λj hj=>h j (by omega),zdb λj hj=>h j (by omega)]
theorem z5j{res:RS}: ∀{i j:Nat} {o:Oper},j<i->l[j]?=some o->(j,zbb (Ls l S0 res j) o)∈Ia l S0 res i
 |0,j,o,h,_=>by omega
 |i+1,j,o,h,ho=>by
  simp only[Ia]
  rcases Nat.lt_or_ge j i with hlt |hge
  ·have:=z5j (res:=res) hlt ho
   split
   ·exact List.mem_cons_of_mem _ this
   ·exact this
  ·obtain rfl:j=i:=by omega
   rw[ho];simp
def zh1(l:List Oper)(ws:List (List Nat))(S0:St)(res:RS)(m:Nat):Prop:=
 ∀o,l[m]?=some o->(allB (λj=>memB j ((lget ws m).getD [])) (List.range m)||zt0 (Ls l S0 res m) o S0.nx (Cs l S0 res m) ((lget ws m).getD []) (Ia l S0 res m))=true
def Grd(l:List Oper)(S:St)(o:Oper)(b:Bool):Prop:=
 match o.guard with
 |none=>b=true
 |some (j,want)=>∃oj d,l[j]?=some oj/\oj.dst=some d/\((∃β,fget S.F d=some (.r (.b β))/\b=(β==want))\/(∃us,fget S.F d=some (.r (.tu us))/\b=false))
def Stp(P:Program)(T:TT)(l:List Oper)(ws:List (List Nat))(S0:St)(res:RS)(i:Nat):Prop:=
 ∃o,l[i]?=some o/\zc7 o.op=true/\
  ((Grd l (Ls l S0 res i) o false/\res i=(.r (.tu []),none))\/
  (Grd l (Ls l S0 res i) o true/\zbc (Ls l S0 res i) o S0.nx (Cs l S0 res i) ((lget ws i).getD [])=true/\
   (∀K':TF->Option Ow->Prop,K' (res i).1 (res i).2->valv P T (Ls l S0 res i) o K')/\
   allB (λid=>memB id ((Ls l S0 res i).nx::zbb (Ls l S0 res i) o)) (ziq (res i).1 (res i).2)=true))
theorem Agree.refl(S:St)(o:Oper):Agree S S o:=⟨rfl,λ_ _=>rfl,λ_ _=>rfl,λ_ _ _ _ _ _=>Iff.rfl⟩
theorem zsx{ws:List (List Nat)}{K:St->Prop}: ∀(r:List Oper) (i:Nat) (res0:RS),l.drop i=r->rund P T l ws S0.nx i r (Ls l S0 res0 i) (Cs l S0 res0 i) (Ia l S0 res0 i) K->
  ∃res:RS,(∀j,j<i->res j=res0 j)/\(∀j,i<=j->j<i+zca r->Stp P T l ws S0 res j)/\zh1 l ws S0 res (i+zca r)/\runv P T l (l.drop (i+zca r)) (Ls l S0 res (i+zca r)) K
 |[],i,res0,hr,h=>by
  refine⟨res0,λ_ _=>rfl,λj h1 h2=>by simp only[zca]at h2;omega,λo ho=>?_,?_⟩
  ·simp only[zca,Nat.add_zero]at ho
   have:=congrArg (·[0]?) hr
   simp[ho]at this
  simp only[zca,Nat.add_zero]
  rw[hr]
  simpa[rund,runv]using h
 |o::r,i,res0,hr,h=>by
  have hoi:l[i]?=some o:=by
   have:=congrArg (·[0]?) hr
   simpa using this
  have hdr:l.drop (i+1)=r:=by
   rw[<-List.drop_drop,hr];rfl
  simp only[rund,za4]at h
  cases hrd:zc7 o.op with
  |false=>
   simp only[hrd]at h
   split at h
   ·rename_i hend
    refine⟨res0,λ_ _=>rfl,λj h1 h2=>by simp only[zca,hrd]at h2;omega,λo' ho'=>?_,?_⟩
    ·simp only[zca,hrd,Nat.add_zero]at ho'⊢
     rw[hoi]at ho'
     cases ho'
     exact hend
    simp only[zca,hrd,Nat.add_zero]
    rw[hr];exact h
   ·exact h.elim
  |true=>
   simp only[hrd]at h
   have hlo:i+zca (o::r)=(i+1)+zca r:=by simp only[zca,hrd];omega
   have go: ∀(f:TF) (ow:Option Ow),(∀res:RS,(∀j,j<i->res j=res0 j)->res i=(f,ow)->Stp P T l ws S0 res i)->
     rund P T l ws S0.nx (i+1) r ((Ls l S0 res0 i).new o.dst f ow) (zgc (Ls l S0 res0 i).nx i ow (Cs l S0 res0 i)) ((i,zbb (Ls l S0 res0 i) o)::Ia l S0 res0 i) K->
     ∃res:RS,(∀j,j<i->res j=res0 j)/\(∀j,i<=j->j<i+zca (o::r)->Stp P T l ws S0 res j)/\zh1 l ws S0 res (i+zca (o::r))/\runv P T l (l.drop (i+zca (o::r))) (Ls l S0 res (i+zca (o::r))) K:=by
    intro f ow hstep h
    let res1:RS:=λj=>if j=i then(f,ow)else res0 j
    have h0: ∀j,j<i->res1 j=res0 j:=λj hj=>by simp[res1,Nat.ne_of_lt hj]
    have hi:res1 i=(f,ow):=by simp[res1]
    have e1:Ls l S0 res1 (i+1)=(Ls l S0 res0 i).new o.dst f ow:=by simp only[Ls,hoi,hi];rw[zdb h0]
    have e2:Cs l S0 res1 (i+1)=(zgc (Ls l S0 res0 i).nx i ow (Cs l S0 res0 i)):=by
     simp only[Cs,hi];rw[zdb h0,zjq h0]
    have e3:Ia l S0 res1 (i+1)=(i,zbb (Ls l S0 res0 i) o)::Ia l S0 res0 i:=by simp only[Ia,hoi];rw[zdb h0,zqf h0]
    obtain⟨res,hres,hst,hend,hrun⟩:=zsx r (i+1) res1 hdr (by rw[e1,e2,e3];exact h)
    refine⟨res,λj hj=>(hres j (by omega)).trans (h0 j hj),λj h1 h2=>?_,by rw[hlo];exact hend,by rw[hlo];exact hrun⟩
    by_cases hji:j=i
    ·subst hji
     exact hstep res (λx hx=>(hres x (by omega)).trans (h0 x hx)) ((hres j (by omega)).trans hi)
    ·exact hst j (by omega) (by rw[<-hlo];exact h2)
   have exec:Grd l (Ls l S0 res0 i) o true->(match zbc (Ls l S0 res0 i) o S0.nx (Cs l S0 res0 i) ((lget ws i).getD [])with
     |true=>valv P T (Ls l S0 res0 i) o λf ow=>match allB (λid=>memB id ((Ls l S0 res0 i).nx::zbb (Ls l S0 res0 i) o)) (ziq f ow)with
      |true=>rund P T l ws S0.nx (i+1) r ((Ls l S0 res0 i).new o.dst f ow) (zgc (Ls l S0 res0 i).nx i ow (Cs l S0 res0 i)) ((i,zbb (Ls l S0 res0 i) o)::Ia l S0 res0 i) K
      |false=>False
     |false=>False)->∃res:RS,(∀j,j<i->res j=res0 j)/\(∀j,i<=j->j<i+zca (o::r)->Stp P T l ws S0 res j)/\zh1 l ws S0 res (i+zca (o::r))/\runv P T l (l.drop (i+zca (o::r))) (Ls l S0 res (i+zca (o::r))) K:=by
    intro hg h
    split at h
    ·rename_i hneed
     obtain⟨f,ow,h,hp⟩:=zot hrd (Agree.refl _ _) h
     split at h
     ·rename_i hids
      refine go f ow (λres h0 hi=>⟨o,hoi,hrd, .inr ?_⟩) h
      rw[zdb h0,zjq h0,hi]
      exact⟨hg,hneed,hp,hids⟩
     ·exact h.elim
    ·exact h.elim
   have skip:Grd l (Ls l S0 res0 i) o false->rund P T l ws S0.nx (i+1) r ((Ls l S0 res0 i).new o.dst (.r (.tu [])) none) (Cs l S0 res0 i) ((i,zbb (Ls l S0 res0 i) o)::Ia l S0 res0 i) K->∃res:RS,(∀j,j<i->res j=res0 j)/\(∀j,i<=j->j<i+zca (o::r)->Stp P T l ws S0 res j)/\zh1 l ws S0 res (i+zca (o::r))/\runv P T l (l.drop (i+zca (o::r))) (Ls l S0 res (i+zca (o::r))) K:=by
    intro hg h
    refine go (.r (.tu [])) none (λres h0 hi=>⟨o,hoi,hrd, .inl ?_⟩) h
    rw[zdb h0,hi]
    exact⟨hg,rfl⟩
   cases hgd:o.guard with
   |none=>
    simp only[hgd]at h
    exact exec (by simp[Grd,hgd]) h
   |some jw=>
    obtain⟨j,want⟩:=jw
    simp only[hgd,zba]at h
    split at h
    ·rename_i oj hj
     split at h
     ·rename_i d hod
      split at h
      ·rename_i β hf
       have hG: ∀b,b=(β==want)->Grd l (Ls l S0 res0 i) o b:=λb hb=>by
        simp only[Grd,hgd]
        exact⟨oj,d,hj,hod, .inl ⟨β,hf,hb⟩⟩
       simp only[zba]at exec
       cases β<;>cases want<;>simp only at h
       ·exact exec (hG true rfl) h
       ·exact skip (hG false rfl) h
       ·exact skip (hG false rfl) h
       ·exact exec (hG true rfl) h
      ·rename_i us hf
       exact skip (by simp only[Grd,hgd];exact⟨oj,d,hj,hod, .inr ⟨us,hf,by simp⟩⟩) h
      ·exact h.elim
     ·exact h.elim
    ·exact h.elim
theorem zqb{ws:List (List Nat)}{K:St->Prop}: ∀(c:Nat) (r:List Oper) (i:Nat) (res0:RS),l.drop i=r->zhh P T l ws S0.nx c i r (Ls l S0 res0 i) (Cs l S0 res0 i) (Ia l S0 res0 i) K->
  ∃res:RS,(∀j,j<i->res j=res0 j)/\(∀j,i<=j->j<i+c->Stp P T l ws S0 res j)/\zh1 l ws S0 res (i+c)/\runv P T l (l.drop (i+c)) (Ls l S0 res (i+c)) K
 |0,r,i,res0,hr,h=>by
  simp only[zhh]at h
  split at h
  ·rename_i hend
   refine⟨res0,λ_ _=>rfl,λj h1 h2=>by omega,λo ho=>?_,?_⟩
   ·simp only[Nat.add_zero]at ho⊢
    rw[hend];rfl
   ·simp only[Nat.add_zero]
    rw[hr];exact h
  ·exact h.elim
 |c+1,[],i,res0,hr,h=>by simp only[zhh]at h
 |c+1,o::r,i,res0,hr,h=>by
  have hoi:l[i]?=some o:=by
   have:=congrArg (·[0]?) hr
   simpa using this
  have hdr:l.drop (i+1)=r:=by
   rw[<-List.drop_drop,hr];rfl
  simp only[zhh,za4]at h
  cases hrd:zc7 o.op with
  |false=>
   simp only[hrd]at h
  |true=>
   simp only[hrd]at h
   have hlo:i+(c+1)=(i+1)+c:=by omega
   have go: ∀(f:TF) (ow:Option Ow),(∀res:RS,(∀j,j<i->res j=res0 j)->res i=(f,ow)->Stp P T l ws S0 res i)->
     zhh P T l ws S0.nx c (i+1) r ((Ls l S0 res0 i).new o.dst f ow) (zgc (Ls l S0 res0 i).nx i ow (Cs l S0 res0 i)) ((i,zbb (Ls l S0 res0 i) o)::Ia l S0 res0 i) K->
     ∃res:RS,(∀j,j<i->res j=res0 j)/\(∀j,i<=j->j<i+(c+1)->Stp P T l ws S0 res j)/\zh1 l ws S0 res (i+(c+1))/\runv P T l (l.drop (i+(c+1))) (Ls l S0 res (i+(c+1))) K:=by
    intro f ow hstep h
    let res1:RS:=λj=>if j=i then(f,ow)else res0 j
    have h0: ∀j,j<i->res1 j=res0 j:=λj hj=>by simp[res1,Nat.ne_of_lt hj]
    have hi:res1 i=(f,ow):=by simp[res1]
    have e1:Ls l S0 res1 (i+1)=(Ls l S0 res0 i).new o.dst f ow:=by simp only[Ls,hoi,hi];rw[zdb h0]
    have e2:Cs l S0 res1 (i+1)=(zgc (Ls l S0 res0 i).nx i ow (Cs l S0 res0 i)):=by
     simp only[Cs,hi];rw[zdb h0,zjq h0]
    have e3:Ia l S0 res1 (i+1)=(i,zbb (Ls l S0 res0 i) o)::Ia l S0 res0 i:=by simp only[Ia,hoi];rw[zdb h0,zqf h0]
    obtain⟨res,hres,hst,hend,hrun⟩:=zqb c r (i+1) res1 hdr (by rw[e1,e2,e3];exact h)
    refine⟨res,λj hj=>(hres j (by omega)).trans (h0 j hj),λj h1 h2=>?_,by rw[hlo];exact hend,by rw[hlo];exact hrun⟩
    by_cases hji:j=i
    ·subst hji
     exact hstep res (λx hx=>(hres x (by omega)).trans (h0 x hx)) ((hres j (by omega)).trans hi)
    ·exact hst j (by omega) (by rw[<-hlo];exact h2)
   have exec:Grd l (Ls l S0 res0 i) o true->(match zbc (Ls l S0 res0 i) o S0.nx (Cs l S0 res0 i) ((lget ws i).getD [])with
     |true=>valv P T (Ls l S0 res0 i) o λf ow=>match allB (λid=>memB id ((Ls l S0 res0 i).nx::zbb (Ls l S0 res0 i) o)) (ziq f ow)with
      |true=>zhh P T l ws S0.nx c (i+1) r ((Ls l S0 res0 i).new o.dst f ow) (zgc (Ls l S0 res0 i).nx i ow (Cs l S0 res0 i)) ((i,zbb (Ls l S0 res0 i) o)::Ia l S0 res0 i) K
      |false=>False
     |false=>False)->∃res:RS,(∀j,j<i->res j=res0 j)/\(∀j,i<=j->j<i+(c+1)->Stp P T l ws S0 res j)/\zh1 l ws S0 res (i+(c+1))/\runv P T l (l.drop (i+(c+1))) (Ls l S0 res (i+(c+1))) K:=by
    intro hg h
    split at h
    ·rename_i hneed
     obtain⟨f,ow,h,hp⟩:=zot hrd (Agree.refl _ _) h
     split at h
     ·rename_i hids
      refine go f ow (λres h0 hi=>⟨o,hoi,hrd, .inr ?_⟩) h
      rw[zdb h0,zjq h0,hi]
      exact⟨hg,hneed,hp,hids⟩
     ·exact h.elim
    ·exact h.elim
   have skip:Grd l (Ls l S0 res0 i) o false->zhh P T l ws S0.nx c (i+1) r ((Ls l S0 res0 i).new o.dst (.r (.tu [])) none) (Cs l S0 res0 i) ((i,zbb (Ls l S0 res0 i) o)::Ia l S0 res0 i) K->∃res:RS,(∀j,j<i->res j=res0 j)/\(∀j,i<=j->j<i+(c+1)->Stp P T l ws S0 res j)/\zh1 l ws S0 res (i+(c+1))/\runv P T l (l.drop (i+(c+1))) (Ls l S0 res (i+(c+1))) K:=by
    intro hg h
    refine go (.r (.tu [])) none (λres h0 hi=>⟨o,hoi,hrd, .inl ?_⟩) h
    rw[zdb h0,hi]
    exact⟨hg,rfl⟩
   cases hgd:o.guard with
   |none=>
    simp only[hgd]at h
    exact exec (by simp[Grd,hgd]) h
   |some jw=>
    obtain⟨j,want⟩:=jw
    simp only[hgd,zba]at h
    split at h
    ·rename_i oj hj
     split at h
     ·rename_i d hod
      split at h
      ·rename_i β hf
       have hG: ∀b,b=(β==want)->Grd l (Ls l S0 res0 i) o b:=λb hb=>by
        simp only[Grd,hgd]
        exact⟨oj,d,hj,hod, .inl ⟨β,hf,hb⟩⟩
       simp only[zba]at exec
       cases β<;>cases want<;>simp only at h
       ·exact exec (hG true rfl) h
       ·exact skip (hG false rfl) h
       ·exact skip (hG false rfl) h
       ·exact exec (hG true rfl) h
      ·rename_i us hf
       exact skip (by simp only[Grd,hgd];exact⟨oj,d,hj,hod, .inr ⟨us,hf,by simp⟩⟩) h
      ·exact h.elim
     ·exact h.elim
    ·exact h.elim
end
section
variable {P:Program} {T:TT} {B:Bs} {N:Nat} {a:Act} {w:World} {k:Kp} {g:Env} {o:Oper} {Q:Exit->Act->World->Prop}
structure SatF (B:Bs) (N:Nat) (F:Nat->Option TF) (O:Nat->Option Ow) (nx:Nat) (a:Act) (w:World) (k:Kp) (g:Env):Prop where
 size:a.tmps.size=N
 defers:a.defers=B.d
 keep:Keep B.X B.w w
 kk: ∀b,b<B.w.heap.size->b∉B.X->k b=B.k b
 facts: ∀t f,F t=some f->f.lt nx/\f.at_ w k g (a.tmps.getD t undef)
 owns: ∀id o,O id=some o->id<nx/\o.lt nx/\o.at_ w k g (g id)/\∀b,(g id).2=some b->(B.w.heap.size<=b\/b∈B.X)/\b<w.heap.size
 apart: ∀i j o o' b,O i=some o->O j=some o'->i≠j->(g i).2=some b->(g j).2≠some b
theorem SatE.toF{S:St}(h:SatE B N S a w k g){n:Nat}(hn:S.nx<=n):SatF B N (fget S.F) (oget S.O) n a w k g:=
 ⟨h.size,h.defers,h.keep,h.kk,λt f hf=>⟨TF.lt_mono hn (h.facts t f hf).1,(h.facts t f hf).2⟩,λid o ho=>⟨Nat.lt_of_lt_of_le (h.owns id o ho).1 hn,Ow.lt_mono hn (h.owns id o ho).2.1,(h.owns id o ho).2.2⟩,h.apart⟩
theorem SatF.toE{S:St}(h:SatF B N (fget S.F) (oget S.O) S.nx a w k g):SatE B N S a w k g:=
 ⟨h.size,h.defers,h.keep,h.kk,h.facts,h.owns,h.apart⟩
def updF(F:Nat->Option TF)(d:Option Nat)(f:TF):Nat->Option TF:=λt=>if d=some t then some f else F t
def updO(O:Nat->Option Ow)(i:Nat)(o:Ow):Nat->Option Ow:=λj=>if j=i then some o else O j
variable {F:Nat->Option TF} {O:Nat->Option Ow} {nx:Nat}
theorem SatF.ext(hs:SatF B N F O nx a w k g){w':World}{k':Kp}(he:Ext w w')(hk: ∀b,b<w.heap.size->k' b=k b):SatF B N F O nx a w' k' g:=by
 have hle:=Ext.le he hk
 refine⟨hs.size,hs.defers,hs.keep.ext he,λb hb hn=>(hk b (Nat.lt_of_lt_of_le hb hs.keep.size)).trans (hs.kk b hb hn),λt f hf=>⟨(hs.facts t f hf).1,TF.mono hle (hs.facts t f hf).2⟩,λid o ho=>?_,hs.apart⟩
 obtain⟨h1,h2,h3,h4⟩:=hs.owns id o ho
 exact⟨h1,h2,Ow.mono hle (λb hb=>⟨he.block b (h4 b hb).2,hk b (h4 b hb).2⟩) h3,λb hb=>⟨(h4 b hb).1,Nat.lt_of_lt_of_le (h4 b hb).2 he.size⟩⟩
theorem SatF.put(hs:SatF B N F O nx a w k g){dst:Option Nat}(hd: ∀d,dst=some d->d<N){f:TF}{v:Value}(hl:f.lt nx)(hf:f.at_ w k g v):SatF B N (updF F dst f) O nx (a.put dst v) w k g:=by
 cases dst with
 |none=>exact⟨hs.size,hs.defers,hs.keep,hs.kk,λt f' h=>hs.facts t f' (by simpa[updF]using h),hs.owns,hs.apart⟩
 |some d=>
  refine⟨by simp[Act.put,hs.size],hs.defers,hs.keep,hs.kk,λt f' h=>?_,hs.owns,hs.apart⟩
  simp only[updF,Option.some.injEq]at h
  split at h
  ·rename_i e
   cases h;subst e
   exact⟨hl,by simp only[Act.put];rw[ziv (by rw[hs.size];exact hd d rfl)];exact hf⟩
  ·rename_i hne
   have:=hs.facts t f' h
   exact⟨this.1,by simp only[Act.put];rw[zgg hne];exact this.2⟩
theorem SatF.skipped(hs:SatF B N F O nx a w k g){dst:Option Nat}:SatF B N (updF F dst (.r (.tu []))) O nx (a.put dst undef) w k g:=by
 cases dst with
 |none=>exact⟨hs.size,hs.defers,hs.keep,hs.kk,λt f' h=>hs.facts t f' (by simpa[updF]using h),hs.owns,hs.apart⟩
 |some d=>
  refine⟨by simp[Act.put,hs.size],hs.defers,hs.keep,hs.kk,λt f' h=>?_,hs.owns,hs.apart⟩
  simp only[updF,Option.some.injEq]at h
  split at h
  ·rename_i e
   cases h;subst e
   refine⟨trivial,?_⟩
   simp only[Act.put,zzr]
   exact zzs w k g
  ·rename_i hne
   have:=hs.facts t f' h
   exact⟨this.1,by simp only[Act.put];rw[zgg hne];exact this.2⟩
theorem TF.env'{g':Env}: ∀{f:TF} {v:Value},(∀i∈zam f,g' i=g i)->f.at_ w k g v->f.at_ w k g' v
 | .r _,v,_,hv=>hv
 | .own i,v,hl,hv=>by simp only[TF.at_]at*;rw[hl i (by simp[zam])];exact hv
 | .adr i o,v,hl,hv=>by simp only[TF.at_]at*;rw[hl i (by simp[zam])];exact hv
 | .nm i o,v,hl,hv=>by simp only[TF.at_]at*;rw[hl i (by simp[zam])];exact hv
 | .cut i _ _,v,hl,hv=>by simp only[TF.at_]at*;rw[hl i (by simp[zam])];exact hv
def zcm:Ow->List Nat
 | .box cells=>cells.flatMap zam
 | .ch .. =>[]
 | .gen _=>[]
theorem Ow.env'{g':Env}{vb:Value×Option Nat}: ∀{o:Ow},(∀i∈zcm o,g' i=g i)->o.at_ w k g vb->o.at_ w k g' vb
 | .box cells,hl,ho=>by
  simp only[Ow.at_]at ho⊢
  obtain⟨b,cur,t,e,hh,hk,hs,hc⟩:=ho
  exact⟨b,cur,t,e,hh,hk,hs,λj f u hf hu=>⟨(hc j f u hf hu).1,TF.env' (λi hi=>hl i (List.mem_flatMap.2 ⟨f,List.mem_of_getElem? hf,hi⟩)) (hc j f u hf hu).2⟩⟩
 | .ch ..,_,ho=>ho
 | .gen _,_,ho=>ho
theorem SatF.make(hs:SatF B N F O nx a w k g){dst:Option Nat}(hd: ∀d,dst=some d->d<N){o:Ow}{id:Nat}{vb:Value×Option Nat}(hid:id<nx)(hfree:O id=none)(hF: ∀t f,F t=some f->id∉zam f)(hO: ∀i o',O i=some o'->id∉zcm o')
  (hl:o.lt nx) (hoi:id∉zcm o) (ho:o.at_ w k g vb) (hb: ∀b,vb.2=some b->(B.w.heap.size<=b\/b∈B.X)/\b<w.heap.size) (hap: ∀i o' b,O i=some o'->vb.2=some b->(g i).2≠some b):
  SatF B N (updF F dst (.own id)) (updO O id o) nx (a.put dst vb.1) w k (g.set id vb):=by
 have hset: ∀i,i≠id->g.set id vb i=g i:=λi hi=>by simp[Env.set,hi]
 have h2:SatF B N F (updO O id o) nx a w k (g.set id vb):=by
  refine⟨hs.size,hs.defers,hs.keep,hs.kk,λt f hf=>?_,λi o' ho'=>?_,λi j oi oj b hi hj hne hbi=>?_⟩
  ·have:=hs.facts t f hf
   exact⟨this.1,TF.env' (λi hi=>hset i λe=>hF t f hf (e▸hi)) this.2⟩
  ·simp only[updO]at ho'
   split at ho'
   ·rename_i e
    cases ho';subst e
    exact⟨hid,hl,by rw[Env.set_eq];exact Ow.env' (λi hi=>hset i λe=>hoi (e▸hi)) ho,λb hbb=>by rw[Env.set_eq]at hbb;exact hb b hbb⟩
   ·rename_i hne
    obtain⟨q1,q2,q3,q4⟩:=hs.owns i o' ho'
    rw[hset i hne]
    exact⟨q1,q2,Ow.env' (λj hj=>hset j λe=>hO i o' ho' (e▸hj)) q3,q4⟩
  ·simp only[updO]at hi hj
   split at hi
   ·rename_i e
    subst e
    rw[Env.set_eq]at hbi
    rw[if_neg (Ne.symm hne)]at hj
    rw[hset j (Ne.symm hne)]
    exact hap j oj b hj hbi
   ·rename_i hni
    rw[hset i hni]at hbi
    split at hj
    ·rename_i e
     subst e
     rw[Env.set_eq]
     intro hbj
     exact hap i oi b hi hbj hbi
    ·rename_i hnj
     rw[hset j hnj]
     exact hs.apart i j oi oj b hi hj hne hbi
 exact h2.put hd (f:= .own id) (v:=vb.1) hid (by simp[TF.at_,Env.set_eq])
section
variable (l:List Oper) (S0:St) (res:RS) (m:Nat)
def zb5(j:Nat):Option Nat:=(l[j]?).bind (·.dst)
def idAt(j:Nat):Nat:=(Ls l S0 res j).nx
def ffAt(j:Nat):TF:=match(res j).2 with |some _=> .own (idAt l S0 res j) |none=>(res j).1
structure Lk (D:Nat->Prop) (F:Nat->Option TF) (O:Nat->Option Ow):Prop where
 hit: ∀j t,D j->j<m->zb5 l j=some t->F t=some (ffAt l S0 res j)
 miss: ∀t,(∀j,D j->j<m->zb5 l j≠some t)->F t=fget S0.F t
 ohit: ∀j o,D j->j<m->(res j).2=some o->O (idAt l S0 res j)=some o
 omiss: ∀id,(∀j o,D j->j<m->(res j).2=some o->idAt l S0 res j≠id)->O id=oget S0.O id
end
variable {l:List Oper} {S0:St} {res:RS} {m:Nat}
theorem Lk.unique{D:Nat->Prop}{F F':Nat->Option TF}{O O':Nat->Option Ow}(h:Lk l S0 res m D F O)(h':Lk l S0 res m D F' O'):F=F'/\O=O':=by
 refine⟨funext λt=>?_,funext λid=>?_⟩
 ·by_cases hx: ∃j,D j/\j<m/\zb5 l j=some t
  ·obtain⟨j,h1,h2,h3⟩:=hx
   rw[h.hit j t h1 h2 h3,h'.hit j t h1 h2 h3]
  ·have: ∀j,D j->j<m->zb5 l j≠some t:=λj h1 h2 h3=>hx ⟨j,h1,h2,h3⟩
   rw[h.miss t this,h'.miss t this]
 ·by_cases hx: ∃j o,D j/\j<m/\(res j).2=some o/\idAt l S0 res j=id
  ·obtain⟨j,o,h1,h2,h3,rfl⟩:=hx
   rw[h.ohit j o h1 h2 h3,h'.ohit j o h1 h2 h3]
  ·have: ∀j o,D j->j<m->(res j).2=some o->idAt l S0 res j≠id:=λj o h1 h2 h3 h4=>hx ⟨j,o,h1,h2,h3,h4⟩
   rw[h.omiss id this,h'.omiss id this]
theorem Lk.congr{D D':Nat->Prop}{F:Nat->Option TF}{O:Nat->Option Ow}(h:Lk l S0 res m D F O)(hd: ∀j,j<m->(D j↔D' j)):Lk l S0 res m D' F O:=
 ⟨λj t h1 h2=>h.hit j t ((hd j h2).2 h1) h2,λt h1=>h.miss t λj hj hm=>h1 j ((hd j hm).1 hj) hm,λj o h1 h2=>h.ohit j o ((hd j h2).2 h1) h2,λid h1=>h.omiss id λj o hj hm=>h1 j o ((hd j hm).1 hj) hm⟩
theorem Lk.step{D:Nat->Prop}(h:Lk l S0 res m D F O){i:Nat}(him:i<m)(hdst: ∀j t,D j->j<m->zb5 l j=some t->zb5 l i≠some t)
  (hids: ∀j o o',D j->j<m->(res j).2=some o->(res i).2=some o'->idAt l S0 res j≠idAt l S0 res i):
  Lk l S0 res m (λj=>D j\/j=i) (updF F (zb5 l i) (ffAt l S0 res i)) (match(res i).2 with |some o=>updO O (idAt l S0 res i) o |none=>O):=by
 refine⟨λj t hj hm ht=>?_,λt ht=>?_,λj o hj hm ho=>?_,λid hid=>?_⟩
 ·rcases hj with hj |rfl
  ·simp only[updF]
   rw[if_neg (hdst j t hj hm ht)]
   exact h.hit j t hj hm ht
  ·simp[updF,ht]
 ·simp only[updF]
  rw[if_neg (ht i (.inr rfl) him)]
  exact h.miss t λj hj hm=>ht j (.inl hj) hm
 ·rcases hj with hj |rfl
  ·cases hr:(res i).2 with
   |none=>exact h.ohit j o hj hm ho
   |some o'=>
    simp only[updO]
    rw[if_neg (hids j o o' hj hm ho hr)]
    exact h.ohit j o hj hm ho
  ·simp[ho,updO]
 ·cases hr:(res i).2 with
  |none=>exact h.omiss id λj o hj hm=>hid j o (.inl hj) hm
  |some o'=>
   simp only[updO]
   rw[if_neg λe=>hid i o' (.inr rfl) him hr e.symm]
   exact h.omiss id λj o hj hm=>hid j o (.inl hj) hm
theorem z17(i:Nat)(hl:i<l.length):idAt l S0 res (i+1)=idAt l S0 res i+(if(res i).2.isSome then 1 else 0):=by
 simp only[idAt,Ls,List.getElem?_eq_getElem hl]
 cases hr:(res i).2 with
 |none=>cases l[i].dst<;>simp[St.new,St.put]
 |some o=>simp[St.new,St.mk_]
theorem zg0{i j:Nat}(hij:i<=j)(hj:j<=l.length):idAt l S0 res i<=idAt l S0 res j:=by
 induction j with
 |zero=>
  obtain rfl:i=0:=by omega
  exact Nat.le_refl _
 |succ j ih=>
  rcases Nat.lt_or_ge i (j+1)with h |h
  ·have:=ih (by omega) (by omega)
   rw[z17 j (by omega)]
   omega
  ·obtain rfl:i=j+1:=by omega
   exact Nat.le_refl _
theorem zwt{i j:Nat}{o:Ow}(hij:i<j)(hj:j<=l.length)(ho:(res i).2=some o):idAt l S0 res i<idAt l S0 res j:=by
 have h1:=z17 (S0:=S0) (res:=res) i (show i<l.length by omega)
 have h2:=zg0 (S0:=S0) (res:=res) (show i+1<=j by omega) hj
 simp[ho]at h1
 omega
theorem z7s{i j:Nat}{o o':Ow}(hi:i<l.length)(hj:j<l.length)(hne:i≠j)(ho:(res i).2=some o)(ho':(res j).2=some o'):idAt l S0 res i≠idAt l S0 res j:=by
 rcases Nat.lt_or_ge i j with h |h
 ·have:=zwt (l:=l) (S0:=S0) h (by omega) ho;omega
 ·have:=zwt (l:=l) (S0:=S0) (show j<i by omega) (by omega) ho';omega
theorem Lk.lex(hm:m<=l.length)(hdst: ∀i j t,i<m->j<i->zb5 l j=some t->zb5 l i≠some t): ∀i,i<=m->Lk l S0 res m (λj=>j<i) (fget (Ls l S0 res i).F) (oget (Ls l S0 res i).O)
 |0,_=>⟨λj t h=>absurd h (by omega),λt _=>rfl,λj o h=>absurd h (by omega),λid _=>rfl⟩
 |i+1,hi=>by
  have h:=Lk.step (Lk.lex hm hdst i (by omega)) (i:=i) (by omega) (λj t hj hjm ht=>hdst i j t (by omega) hj ht) (λj o o' hj hjm ho ho'=>z7s (by omega) (by omega) (by omega) ho ho')
  have e1:fget (Ls l S0 res (i+1)).F=updF (fget (Ls l S0 res i).F) (zb5 l i) (ffAt l S0 res i):=by
   funext t
   simp only[Ls,zb5,List.getElem?_eq_getElem (show i<l.length by omega),Option.bind_some,updF,ffAt]
   cases hd:l[i].dst with
   |none=>cases hr:(res i).2<;>simp[St.new,St.put,St.mk_,hd,hr]
   |some d=>
    cases hr:(res i).2 with
    |none=>
     simp only[St.new,St.put,hd,hr,fget,Option.some.injEq]
     split
     ·rename_i hb;rw[if_pos (Nat.eq_of_beq_eq_true hb)]
     ·rename_i hb;rw[if_neg (Nat.ne_of_beq_eq_false hb)]
    |some o=>
     simp only[St.new,St.mk_,hd,hr,fget,Option.some.injEq,idAt]
     split
     ·rename_i hb;rw[if_pos (Nat.eq_of_beq_eq_true hb)]
     ·rename_i hb;rw[if_neg (Nat.ne_of_beq_eq_false hb)]
  have e2:oget (Ls l S0 res (i+1)).O=(match(res i).2 with |some o=>updO (oget (Ls l S0 res i).O) (idAt l S0 res i) o |none=>oget (Ls l S0 res i).O):=by
   funext id
   simp only[Ls,List.getElem?_eq_getElem (show i<l.length by omega)]
   cases hr:(res i).2 with
   |none=>cases hd:l[i].dst<;>simp[St.new,St.put,hd]
   |some o=>
    by_cases hid:id=(Ls l S0 res i).nx
    ·subst hid;simp[St.new,St.mk_,oget,updO,idAt]
    ·have h1:Nat.beq (Ls l S0 res i).nx id=false:=by
      cases hb:Nat.beq (Ls l S0 res i).nx id
      ·rfl
      ·exact absurd (Nat.eq_of_beq_eq_true hb).symm hid
     have h2:id≠idAt l S0 res i:=hid
     simp[St.new,St.mk_,oget,updO,h1,h2]
  rw[e1,e2]
  exact h.congr λj _=>by constructor<;>intro hh<;>omega
end
end Go.Proofs.YtoegdgbghdnnfaaGreat.Sx
