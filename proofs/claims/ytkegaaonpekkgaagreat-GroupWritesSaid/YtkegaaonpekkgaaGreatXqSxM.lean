import Derived.Test.YtkegaaonpekkgaaGreatXqSxJ
namespace Go.Proofs.YtkegaaonpekkgaaGreat.Sx
open Go.RowKit
theorem yW: ∀{l:List Nat} {n:Nat},xu n l=true↔n∈l
 |[],n=>by simp[xu]
 |x::r,n=>by
  simp only[xu]
  split
  ·rename_i h;have:=bI h;subst this;simp
  ·rename_i h;have:=Nat.ne_of_beq_eq_false h;rw[yW];simp[Ne.symm this]
theorem yC{α:Type}{p:α->Bool}: ∀{l:List α},yZ p l=true↔∀x∈l,p x=true
 |[]=>by simp[yZ]
 |x::r=>by
  simp only[yZ]
  split
  ·rename_i h;rw[yC];simp[h]
  ·rename_i h;simp[h]
theorem Y0{α β:Type}{l:List α}{f g:α->List β}(h: ∀x∈l,f x=g x):l.flatMap f=l.flatMap g:=by
 rw[List.flatMap_def,List.flatMap_def,List.map_congr_left h]
theorem fv: ∀{r:List Oper} {acc:List (List Nat)} {i:Nat},i<acc.length->(yq acc r)[i]?=acc[i]?
 |[],acc,i,h=>rfl
 |o::r,acc,i,h=>by
  simp only[yq]
  rw[fv (by simp;omega),List.getElem?_append_left h]
theorem iB: ∀{r:List Oper} {acc:List (List Nat)} {j:Nat} {o:Oper},(∀(k:Nat) (p:Oper),r[k]?=some p->∀e∈yt p,e<acc.length+k)->r[j]?=some o->
  (yq acc r)[acc.length+j]?=some (yt o++(yt o).flatMap λe=>((yq acc r)[e]?).getD [])
 |[],acc,j,o,_,h=>by simp at h
 |p::r,acc,j,o,he,h=>by
  simp only[yq]
  cases j with
  |zero=>
   simp at h
   subst h
   have hlen:acc.length< (acc++[yt p++(yt p).flatMap λj=>(yp acc j).getD []]).length:=by simp
   rw[Nat.add_zero,fv hlen]
   simp only[List.getElem?_append_right (bQ _),Nat.sub_self,List.getElem?_cons_zero,bT]
   congr 1
   have: ∀e∈yt p,(yp acc e).getD []=((yq (acc++[yt p++(yt p).flatMap λj=>(yp acc j).getD []]) r)[e]?).getD []:=λe hm=>by
    have:=he 0 p (by simp) e hm
    rw[yE,fv (by simp;omega),List.getElem?_append_left (by omega)]
   exact Y0 this
  |succ j=>
   have:=iB (r:=r) (acc:=acc++[yt p++(yt p).flatMap λj=>(yp acc j).getD []]) (j:=j) (o:=o) (λk q hk e hm=>by
    have:=he (k+1) q (by simpa using hk) e hm
    simp;omega) (by simpa using h)
   rw[show acc.length+(j+1)=(acc++[yt p++(yt p).flatMap λj=>(yp acc j).getD []]).length+j by simp;omega]
   exact this
section
variable {P:Program} {T:TT} {l:List Oper} {S0:St}
abbrev RS:=Nat->TF×Option Ow
def Ls(l:List Oper)(S0:St)(res:RS):Nat->St
 |0=>S0
 |i+1=>match l[i]? with
  |some o=>(Ls l S0 res i).new o.dst (res i).1 (res i).2
  |none=>Ls l S0 res i
def Cs(l:List Oper)(S0:St)(res:RS):Nat->List (Nat×Nat)
 |0=>[]
 |i+1=>u7 (Ls l S0 res i).nx i (res i).2 (Cs l S0 res i)
def Ia(l:List Oper)(S0:St)(res:RS):Nat->List (Nat×List Nat)
 |0=>[]
 |i+1=>match l[i]? with
  |some o=>(i,yH (Ls l S0 res i) o)::Ia l S0 res i
  |none=>Ia l S0 res i
theorem xF{res res':RS}: ∀{i:Nat},(∀j,j<i->res j=res' j)->Ls l S0 res i=Ls l S0 res' i
 |0,_=>rfl
 |i+1,h=>by simp only[Ls];rw[xF λj hj=>h j (by omega),h i (by omega)]
theorem sj{res res':RS}: ∀{i:Nat},(∀j,j<i->res j=res' j)->Cs l S0 res i=Cs l S0 res' i
 |0,_=>rfl
 |i+1,h=>by simp only[Cs];rw[sj λj hj=>h j (by omega),h i (by omega),xF λj hj=>h j (by omega)]
theorem jl{res res':RS}: ∀{i:Nat},(∀j,j<i->res j=res' j)->Ia l S0 res i=Ia l S0 res' i
 |0,_=>rfl
 |i+1,h=>by simp only[Ia];rw[jl λj hj=>h j (by omega),xF λj hj=>h j (by omega)]
theorem Ov{res:RS}: ∀{i j:Nat} {o:Oper},j<i->l[j]?=some o->(j,yH (Ls l S0 res j) o)∈Ia l S0 res i
 |0,j,o,h,_=>by omega
 |i+1,j,o,h,ho=>by
  simp only[Ia]
  rcases Nat.lt_or_ge j i with hlt |hge
  ·have:=Ov (res:=res) hlt ho
   split
   ·exact cK _ this
   ·exact this
  ·obtain rfl:j=i:=by omega
   rw[ho];simp
def pV(l:List Oper)(ws:List (List Nat))(S0:St)(res:RS)(m:Nat):Prop:=
 ∀o,l[m]?=some o->(yZ (λj=>xu j ((yp ws m).getD [])) (List.range m)||YS (Ls l S0 res m) o S0.nx (Cs l S0 res m) ((yp ws m).getD []) (Ia l S0 res m))=true
def sk(l:List Oper)(S:St)(o:Oper)(b:Bool):Prop:=
 match o.guard with
 |none=>b=true
 |some (j,want)=>∃oj d,l[j]?=some oj/\oj.dst=some d/\((∃β,yl S.F d=some (.r (.b β))/\b=(β==want))\/(∃us,yl S.F d=some (.r (.tu us))/\b=false))
def Stp(P:Program)(T:TT)(l:List Oper)(ws:List (List Nat))(S0:St)(res:RS)(i:Nat):Prop:=
 ∃o,l[i]?=some o/\wW o.op=true/\
  ((sk l (Ls l S0 res i) o false/\res i=(.r (.tu []),none))\/
  (sk l (Ls l S0 res i) o true/\yR (Ls l S0 res i) o S0.nx (Cs l S0 res i) ((yp ws i).getD [])=true/\
   (∀K':TF->Option Ow->Prop,K' (res i).1 (res i).2->wH P T (Ls l S0 res i) o K')/\
   yZ (λid=>xu id ((Ls l S0 res i).nx::yH (Ls l S0 res i) o)) (sF (res i).1 (res i).2)=true))
theorem Agree.refl(S:St)(o:Oper):Agree S S o:=⟨rfl,λ_ _=>rfl,λ_ _=>rfl,λ_ _ _ _ _ _=>Iff.rfl⟩
theorem Stp.congr{ws:List (List Nat)}{res res':RS}{i:Nat}(h: ∀j,j<=i->res j=res' j)(hs:Stp P T l ws S0 res i):Stp P T l ws S0 res' i:=by
 unfold Stp at*
 rw[<-xF λj hj=>h j (by omega),<-sj λj hj=>h j (by omega),<-h i (bQ _)]
 exact hs
theorem ir{ws:List (List Nat)}{K:St->Prop}: ∀(r:List Oper) (i:Nat) (res0:RS),l.drop i=r->rQ P T l ws S0.nx i r (Ls l S0 res0 i) (Cs l S0 res0 i) (Ia l S0 res0 i) K->
  ∃res:RS,(∀j,j<i->res j=res0 j)/\(∀j,i<=j->j<i+xX r->Stp P T l ws S0 res j)/\pV l ws S0 res (i+xX r)/\x9 P T l (l.drop (i+xX r)) (Ls l S0 res (i+xX r)) K
 |[],i,res0,hr,h=>by
  refine⟨res0,λ_ _=>rfl,λj h1 h2=>by simp only[xX]at h2;omega,λo ho=>?_,?_⟩
  ·simp only[xX,Nat.add_zero]at ho
   have:=cR (·[0]?) hr
   simp[ho]at this
  simp only[xX,Nat.add_zero]
  rw[hr]
  simpa[rQ,x9]using h
 |o::r,i,res0,hr,h=>by
  have hoi:l[i]?=some o:=by
   have:=cR (·[0]?) hr
   simpa using this
  have hdr:l.drop (i+1)=r:=by
   rw[<-List.drop_drop,hr];rfl
  simp only[rQ,yJ]at h
  cases hrd:wW o.op with
  |false=>
   simp only[hrd]at h
   split at h
   ·rename_i hend
    refine⟨res0,λ_ _=>rfl,λj h1 h2=>by simp only[xX,hrd]at h2;omega,λo' ho'=>?_,?_⟩
    ·simp only[xX,hrd,Nat.add_zero]at ho'⊢
     rw[hoi]at ho'
     cases ho'
     exact hend
    simp only[xX,hrd,Nat.add_zero]
    rw[hr];exact h
   ·exact h.elim
  |true=>
   simp only[hrd]at h
   have hlo:i+xX (o::r)=(i+1)+xX r:=by simp only[xX,hrd];omega
   have go: ∀(f:TF) (ow:Option Ow),(∀res:RS,(∀j,j<i->res j=res0 j)->res i=(f,ow)->Stp P T l ws S0 res i)->
     rQ P T l ws S0.nx (i+1) r ((Ls l S0 res0 i).new o.dst f ow) (u7 (Ls l S0 res0 i).nx i ow (Cs l S0 res0 i)) ((i,yH (Ls l S0 res0 i) o)::Ia l S0 res0 i) K->
     ∃res:RS,(∀j,j<i->res j=res0 j)/\(∀j,i<=j->j<i+xX (o::r)->Stp P T l ws S0 res j)/\pV l ws S0 res (i+xX (o::r))/\x9 P T l (l.drop (i+xX (o::r))) (Ls l S0 res (i+xX (o::r))) K:=by
    intro f ow hstep h
    let res1:RS:=λj=>if j=i then(f,ow)else res0 j
    have h0: ∀j,j<i->res1 j=res0 j:=λj hj=>by simp[res1,Nat.ne_of_lt hj]
    have hi:res1 i=(f,ow):=by simp[res1]
    have e1:Ls l S0 res1 (i+1)=(Ls l S0 res0 i).new o.dst f ow:=by simp only[Ls,hoi,hi];rw[xF h0]
    have e2:Cs l S0 res1 (i+1)=(u7 (Ls l S0 res0 i).nx i ow (Cs l S0 res0 i)):=by
     simp only[Cs,hi];rw[xF h0,sj h0]
    have e3:Ia l S0 res1 (i+1)=(i,yH (Ls l S0 res0 i) o)::Ia l S0 res0 i:=by simp only[Ia,hoi];rw[xF h0,jl h0]
    obtain⟨res,hres,hst,hend,hrun⟩:=ir r (i+1) res1 hdr (by rw[e1,e2,e3];exact h)
    refine⟨res,λj hj=>(hres j (by omega)).trans (h0 j hj),λj h1 h2=>?_,by rw[hlo];exact hend,by rw[hlo];exact hrun⟩
    by_cases hji:j=i
    ·subst hji
     exact hstep res (λx hx=>(hres x (by omega)).trans (h0 x hx)) ((hres j (by omega)).trans hi)
    ·exact hst j (by omega) (by rw[<-hlo];exact h2)
   have exec:sk l (Ls l S0 res0 i) o true->(match yR (Ls l S0 res0 i) o S0.nx (Cs l S0 res0 i) ((yp ws i).getD [])with
     |true=>wH P T (Ls l S0 res0 i) o λf ow=>match yZ (λid=>xu id ((Ls l S0 res0 i).nx::yH (Ls l S0 res0 i) o)) (sF f ow)with
      |true=>rQ P T l ws S0.nx (i+1) r ((Ls l S0 res0 i).new o.dst f ow) (u7 (Ls l S0 res0 i).nx i ow (Cs l S0 res0 i)) ((i,yH (Ls l S0 res0 i) o)::Ia l S0 res0 i) K
      |false=>False
     |false=>False)->∃res:RS,(∀j,j<i->res j=res0 j)/\(∀j,i<=j->j<i+xX (o::r)->Stp P T l ws S0 res j)/\pV l ws S0 res (i+xX (o::r))/\x9 P T l (l.drop (i+xX (o::r))) (Ls l S0 res (i+xX (o::r))) K:=by
    intro hg h
    split at h
    ·rename_i hneed
     obtain⟨f,ow,h,hp⟩:=lF hrd (Agree.refl _ _) h
     split at h
     ·rename_i hids
      refine go f ow (λres h0 hi=>⟨o,hoi,hrd,.inr ?_⟩) h
      rw[xF h0,sj h0,hi]
      exact⟨hg,hneed,hp,hids⟩
     ·exact h.elim
    ·exact h.elim
   have skip:sk l (Ls l S0 res0 i) o false->rQ P T l ws S0.nx (i+1) r ((Ls l S0 res0 i).new o.dst (.r (.tu [])) none) (Cs l S0 res0 i) ((i,yH (Ls l S0 res0 i) o)::Ia l S0 res0 i) K->∃res:RS,(∀j,j<i->res j=res0 j)/\(∀j,i<=j->j<i+xX (o::r)->Stp P T l ws S0 res j)/\pV l ws S0 res (i+xX (o::r))/\x9 P T l (l.drop (i+xX (o::r))) (Ls l S0 res (i+xX (o::r))) K:=by
    intro hg h
    refine go (.r (.tu [])) none (λres h0 hi=>⟨o,hoi,hrd,.inl ?_⟩) h
    rw[xF h0,hi]
    exact⟨hg,rfl⟩
   cases hgd:o.guard with
   |none=>
    simp only[hgd]at h
    exact exec (by simp[sk,hgd]) h
   |some jw=>
    obtain⟨j,want⟩:=jw
    simp only[hgd,yE]at h
    split at h
    ·rename_i oj hj
     split at h
     ·rename_i d hod
      split at h
      ·rename_i β hf
       have hG: ∀b,b=(β==want)->sk l (Ls l S0 res0 i) o b:=λb hb=>by
        simp only[sk,hgd]
        exact⟨oj,d,hj,hod,.inl ⟨β,hf,hb⟩⟩
       simp only[yE]at exec
       cases β<;>cases want<;>simp only at h
       ·exact exec (hG true rfl) h
       ·exact skip (hG false rfl) h
       ·exact skip (hG false rfl) h
       ·exact exec (hG true rfl) h
      ·rename_i us hf
       exact skip (by simp only[sk,hgd];exact⟨oj,d,hj,hod,.inr ⟨us,hf,by simp⟩⟩) h
      ·exact h.elim
     ·exact h.elim
    ·exact h.elim
theorem eR{ws:List (List Nat)}{K:St->Prop}: ∀(c:Nat) (r:List Oper) (i:Nat) (res0:RS),l.drop i=r->ph P T l ws S0.nx c i r (Ls l S0 res0 i) (Cs l S0 res0 i) (Ia l S0 res0 i) K->
  ∃res:RS,(∀j,j<i->res j=res0 j)/\(∀j,i<=j->j<i+c->Stp P T l ws S0 res j)/\pV l ws S0 res (i+c)/\x9 P T l (l.drop (i+c)) (Ls l S0 res (i+c)) K
 |0,r,i,res0,hr,h=>by
  simp only[ph]at h
  split at h
  ·rename_i hend
   refine⟨res0,λ_ _=>rfl,λj h1 h2=>by omega,λo ho=>?_,?_⟩
   ·simp only[Nat.add_zero]at ho⊢
    rw[hend];rfl
   ·simp only[Nat.add_zero]
    rw[hr];exact h
  ·exact h.elim
 |c+1,[],i,res0,hr,h=>by simp only[ph]at h
 |c+1,o::r,i,res0,hr,h=>by
  have hoi:l[i]?=some o:=by
   have:=cR (·[0]?) hr
   simpa using this
  have hdr:l.drop (i+1)=r:=by
   rw[<-List.drop_drop,hr];rfl
  simp only[ph,yJ]at h
  cases hrd:wW o.op with
  |false=>
   simp only[hrd]at h
  |true=>
   simp only[hrd]at h
   have hlo:i+(c+1)=(i+1)+c:=by omega
   have go: ∀(f:TF) (ow:Option Ow),(∀res:RS,(∀j,j<i->res j=res0 j)->res i=(f,ow)->Stp P T l ws S0 res i)->
     ph P T l ws S0.nx c (i+1) r ((Ls l S0 res0 i).new o.dst f ow) (u7 (Ls l S0 res0 i).nx i ow (Cs l S0 res0 i)) ((i,yH (Ls l S0 res0 i) o)::Ia l S0 res0 i) K->
     ∃res:RS,(∀j,j<i->res j=res0 j)/\(∀j,i<=j->j<i+(c+1)->Stp P T l ws S0 res j)/\pV l ws S0 res (i+(c+1))/\x9 P T l (l.drop (i+(c+1))) (Ls l S0 res (i+(c+1))) K:=by
    intro f ow hstep h
    let res1:RS:=λj=>if j=i then(f,ow)else res0 j
    have h0: ∀j,j<i->res1 j=res0 j:=λj hj=>by simp[res1,Nat.ne_of_lt hj]
    have hi:res1 i=(f,ow):=by simp[res1]
    have e1:Ls l S0 res1 (i+1)=(Ls l S0 res0 i).new o.dst f ow:=by simp only[Ls,hoi,hi];rw[xF h0]
    have e2:Cs l S0 res1 (i+1)=(u7 (Ls l S0 res0 i).nx i ow (Cs l S0 res0 i)):=by
     simp only[Cs,hi];rw[xF h0,sj h0]
    have e3:Ia l S0 res1 (i+1)=(i,yH (Ls l S0 res0 i) o)::Ia l S0 res0 i:=by simp only[Ia,hoi];rw[xF h0,jl h0]
    obtain⟨res,hres,hst,hend,hrun⟩:=eR c r (i+1) res1 hdr (by rw[e1,e2,e3];exact h)
    refine⟨res,λj hj=>(hres j (by omega)).trans (h0 j hj),λj h1 h2=>?_,by rw[hlo];exact hend,by rw[hlo];exact hrun⟩
    by_cases hji:j=i
    ·subst hji
     exact hstep res (λx hx=>(hres x (by omega)).trans (h0 x hx)) ((hres j (by omega)).trans hi)
    ·exact hst j (by omega) (by rw[<-hlo];exact h2)
   have exec:sk l (Ls l S0 res0 i) o true->(match yR (Ls l S0 res0 i) o S0.nx (Cs l S0 res0 i) ((yp ws i).getD [])with
     |true=>wH P T (Ls l S0 res0 i) o λf ow=>match yZ (λid=>xu id ((Ls l S0 res0 i).nx::yH (Ls l S0 res0 i) o)) (sF f ow)with
      |true=>ph P T l ws S0.nx c (i+1) r ((Ls l S0 res0 i).new o.dst f ow) (u7 (Ls l S0 res0 i).nx i ow (Cs l S0 res0 i)) ((i,yH (Ls l S0 res0 i) o)::Ia l S0 res0 i) K
      |false=>False
     |false=>False)->∃res:RS,(∀j,j<i->res j=res0 j)/\(∀j,i<=j->j<i+(c+1)->Stp P T l ws S0 res j)/\pV l ws S0 res (i+(c+1))/\x9 P T l (l.drop (i+(c+1))) (Ls l S0 res (i+(c+1))) K:=by
    intro hg h
    split at h
    ·rename_i hneed
     obtain⟨f,ow,h,hp⟩:=lF hrd (Agree.refl _ _) h
     split at h
     ·rename_i hids
      refine go f ow (λres h0 hi=>⟨o,hoi,hrd,.inr ?_⟩) h
      rw[xF h0,sj h0,hi]
      exact⟨hg,hneed,hp,hids⟩
     ·exact h.elim
    ·exact h.elim
   have skip:sk l (Ls l S0 res0 i) o false->ph P T l ws S0.nx c (i+1) r ((Ls l S0 res0 i).new o.dst (.r (.tu [])) none) (Cs l S0 res0 i) ((i,yH (Ls l S0 res0 i) o)::Ia l S0 res0 i) K->∃res:RS,(∀j,j<i->res j=res0 j)/\(∀j,i<=j->j<i+(c+1)->Stp P T l ws S0 res j)/\pV l ws S0 res (i+(c+1))/\x9 P T l (l.drop (i+(c+1))) (Ls l S0 res (i+(c+1))) K:=by
    intro hg h
    refine go (.r (.tu [])) none (λres h0 hi=>⟨o,hoi,hrd,.inl ?_⟩) h
    rw[xF h0,hi]
    exact⟨hg,rfl⟩
   cases hgd:o.guard with
   |none=>
    simp only[hgd]at h
    exact exec (by simp[sk,hgd]) h
   |some jw=>
    obtain⟨j,want⟩:=jw
    simp only[hgd,yE]at h
    split at h
    ·rename_i oj hj
     split at h
     ·rename_i d hod
      split at h
      ·rename_i β hf
       have hG: ∀b,b=(β==want)->sk l (Ls l S0 res0 i) o b:=λb hb=>by
        simp only[sk,hgd]
        exact⟨oj,d,hj,hod,.inl ⟨β,hf,hb⟩⟩
       simp only[yE]at exec
       cases β<;>cases want<;>simp only at h
       ·exact exec (hG true rfl) h
       ·exact skip (hG false rfl) h
       ·exact skip (hG false rfl) h
       ·exact exec (hG true rfl) h
      ·rename_i us hf
       exact skip (by simp only[sk,hgd];exact⟨oj,d,hj,hod,.inr ⟨us,hf,by simp⟩⟩) h
      ·exact h.elim
     ·exact h.elim
    ·exact h.elim
end
section
variable {P:Program} {T:TT} {B:Bs} {N:Nat} {a:Act} {w:World} {k:Kp} {g:Env} {o:Oper} {Q:Exit->Act->World->Prop}
structure SatF (B:Bs) (N:Nat) (F:Nat->Option TF) (O:Nat->Option Ow) (nx:Nat) (a:Act) (w:World) (k:Kp) (g:Env):Prop where
 size:a.tmps.size=N
 defers:a.defers=B.d
 keep:Keep B.X B.w w
 kk: ∀b,b<B.w.heap.size->b∉B.X->k b=B.k b
 facts: ∀t f,F t=some f->f.lt nx/\f.at_ w k g (a.tmps.getD t undef)
 owns: ∀id o,O id=some o->id<nx/\o.lt nx/\o.at_ w k g (g id)/\∀b,(g id).2=some b->(B.w.heap.size<=b\/b∈B.X)/\b<w.heap.size
 apart: ∀i j o o' b,O i=some o->O j=some o'->i≠j->(g i).2=some b->(g j).2≠some b
theorem SatE.toF{S:St}(h:SatE B N S a w k g){n:Nat}(hn:S.nx<=n):SatF B N (yl S.F) (ye S.O) n a w k g:=
 ⟨h.size,h.defers,h.keep,h.kk,λt f hf=>⟨TF.lt_mono hn (h.facts t f hf).1,(h.facts t f hf).2⟩,λid o ho=>⟨bN (h.owns id o ho).1 hn,Ow.lt_mono hn (h.owns id o ho).2.1,(h.owns id o ho).2.2⟩,h.apart⟩
theorem SatF.toE{S:St}(h:SatF B N (yl S.F) (ye S.O) S.nx a w k g):SatE B N S a w k g:=
 ⟨h.size,h.defers,h.keep,h.kk,h.facts,h.owns,h.apart⟩
def rf(F:Nat->Option TF)(d:Option Nat)(f:TF):Nat->Option TF:=λt=>if d=some t then some f else F t
def tj(O:Nat->Option Ow)(i:Nat)(o:Ow):Nat->Option Ow:=λj=>if j=i then some o else O j
variable {F:Nat->Option TF} {O:Nat->Option Ow} {nx:Nat}
theorem SatF.ext(hs:SatF B N F O nx a w k g){w':World}{k':Kp}(he:Ext w w')(hk: ∀b,b<w.heap.size->k' b=k b):SatF B N F O nx a w' k' g:=by
 have hle:=Ext.le he hk
 refine⟨hs.size,hs.defers,hs.keep.ext he,λb hb hn=>(hk b (bN hb hs.keep.size)).trans (hs.kk b hb hn),λt f hf=>⟨(hs.facts t f hf).1,TF.mono hle (hs.facts t f hf).2⟩,λid o ho=>?_,hs.apart⟩
 obtain⟨h1,h2,h3,h4⟩:=hs.owns id o ho
 exact⟨h1,h2,Ow.mono hle (λb hb=>⟨he.block b (h4 b hb).2,hk b (h4 b hb).2⟩) h3,λb hb=>⟨(h4 b hb).1,bN (h4 b hb).2 he.size⟩⟩
theorem SatF.put(hs:SatF B N F O nx a w k g){dst:Option Nat}(hd: ∀d,dst=some d->d<N){f:TF}{v:Value}(hl:f.lt nx)(hf:f.at_ w k g v):SatF B N (rf F dst f) O nx (a.put dst v) w k g:=by
 cases dst with
 |none=>exact⟨hs.size,hs.defers,hs.keep,hs.kk,λt f' h=>hs.facts t f' (by simpa[rf]using h),hs.owns,hs.apart⟩
 |some d=>
  refine⟨by simp[Act.put,hs.size],hs.defers,hs.keep,hs.kk,λt f' h=>?_,hs.owns,hs.apart⟩
  simp only[rf,bT]at h
  split at h
  ·rename_i e
   cases h;subst e
   exact⟨hl,by simp only[Act.put];rw[oX (by rw[hs.size];exact hd d rfl)];exact hf⟩
  ·rename_i hne
   have:=hs.facts t f' h
   exact⟨this.1,by simp only[Act.put];rw[ro hne];exact this.2⟩
theorem SatF.skipped(hs:SatF B N F O nx a w k g){dst:Option Nat}:SatF B N (rf F dst (.r (.tu []))) O nx (a.put dst undef) w k g:=by
 cases dst with
 |none=>exact⟨hs.size,hs.defers,hs.keep,hs.kk,λt f' h=>hs.facts t f' (by simpa[rf]using h),hs.owns,hs.apart⟩
 |some d=>
  refine⟨by simp[Act.put,hs.size],hs.defers,hs.keep,hs.kk,λt f' h=>?_,hs.owns,hs.apart⟩
  simp only[rf,bT]at h
  split at h
  ·rename_i e
   cases h;subst e
   refine⟨trivial,?_⟩
   simp only[Act.put,T4]
   exact T5 w k g
  ·rename_i hne
   have:=hs.facts t f' h
   exact⟨this.1,by simp only[Act.put];rw[ro hne];exact this.2⟩
theorem TF.env'{g':Env}: ∀{f:TF} {v:Value},(∀i∈yn f,g' i=g i)->f.at_ w k g v->f.at_ w k g' v
 | .r _,v,_,hv=>hv
 | .own i,v,hl,hv=>by simp only[TF.at_]at*;rw[hl i (by simp[yn])];exact hv
 | .adr i o,v,hl,hv=>by simp only[TF.at_]at*;rw[hl i (by simp[yn])];exact hv
 | .nm i o,v,hl,hv=>by simp only[TF.at_]at*;rw[hl i (by simp[yn])];exact hv
 | .cut i _ _,v,hl,hv=>by simp only[TF.at_]at*;rw[hl i (by simp[yn])];exact hv
def xY:Ow->List Nat
 | .box cells=>cells.flatMap yn
 | .ch .. =>[]
 | .gen _=>[]
theorem Ow.env'{g':Env}{vb:Value×Option Nat}: ∀{o:Ow},(∀i∈xY o,g' i=g i)->o.at_ w k g vb->o.at_ w k g' vb
 | .box cells,hl,ho=>by
  simp only[Ow.at_]at ho⊢
  obtain⟨b,cur,t,e,hh,hk,hs,hc⟩:=ho
  exact⟨b,cur,t,e,hh,hk,hs,λj f u hf hu=>⟨(hc j f u hf hu).1,TF.env' (λi hi=>hl i (List.mem_flatMap.2 ⟨f,cH hf,hi⟩)) (hc j f u hf hu).2⟩⟩
 | .ch ..,_,ho=>ho
 | .gen _,_,ho=>ho
theorem SatF.make(hs:SatF B N F O nx a w k g){dst:Option Nat}(hd: ∀d,dst=some d->d<N){o:Ow}{id:Nat}{vb:Value×Option Nat}(hid:id<nx)(hfree:O id=none)(hF: ∀t f,F t=some f->id∉yn f)(hO: ∀i o',O i=some o'->id∉xY o')
  (hl:o.lt nx) (hoi:id∉xY o) (ho:o.at_ w k g vb) (hb: ∀b,vb.2=some b->(B.w.heap.size<=b\/b∈B.X)/\b<w.heap.size) (hap: ∀i o' b,O i=some o'->vb.2=some b->(g i).2≠some b):
  SatF B N (rf F dst (.own id)) (tj O id o) nx (a.put dst vb.1) w k (g.set id vb):=by
 have hset: ∀i,i≠id->g.set id vb i=g i:=λi hi=>by simp[Env.set,hi]
 have h2:SatF B N F (tj O id o) nx a w k (g.set id vb):=by
  refine⟨hs.size,hs.defers,hs.keep,hs.kk,λt f hf=>?_,λi o' ho'=>?_,λi j oi oj b hi hj hne hbi=>?_⟩
  ·have:=hs.facts t f hf
   exact⟨this.1,TF.env' (λi hi=>hset i λe=>hF t f hf (e▸hi)) this.2⟩
  ·simp only[tj]at ho'
   split at ho'
   ·rename_i e
    cases ho';subst e
    exact⟨hid,hl,by rw[Env.set_eq];exact Ow.env' (λi hi=>hset i λe=>hoi (e▸hi)) ho,λb hbb=>by rw[Env.set_eq]at hbb;exact hb b hbb⟩
   ·rename_i hne
    obtain⟨q1,q2,q3,q4⟩:=hs.owns i o' ho'
    rw[hset i hne]
    exact⟨q1,q2,Ow.env' (λj hj=>hset j λe=>hO i o' ho' (e▸hj)) q3,q4⟩
  ·simp only[tj]at hi hj
   split at hi
   ·rename_i e
    subst e
    rw[Env.set_eq]at hbi
    rw[cQ (Ne.symm hne)]at hj
    rw[hset j (Ne.symm hne)]
    exact hap j oj b hj hbi
   ·rename_i hni
    rw[hset i hni]at hbi
    split at hj
    ·rename_i e
     subst e
     rw[Env.set_eq]
     intro hbj
     exact hap i oi b hi hbj hbi
    ·rename_i hnj
     rw[hset j hnj]
     exact hs.apart i j oi oj b hi hj hne hbi
 exact h2.put hd (f:= .own id) (v:=vb.1) hid (by simp[TF.at_,Env.set_eq])
section
variable (l:List Oper) (S0:St) (res:RS) (m:Nat)
def xV(j:Nat):Option Nat:=(l[j]?).bind (·.dst)
def yM(j:Nat):Nat:=(Ls l S0 res j).nx
def j8(j:Nat):TF:=match(res j).2 with |some _=> .own (yM l S0 res j) |none=>(res j).1
structure Lk (D:Nat->Prop) (F:Nat->Option TF) (O:Nat->Option Ow):Prop where
 hit: ∀j t,D j->j<m->xV l j=some t->F t=some (j8 l S0 res j)
 miss: ∀t,(∀j,D j->j<m->xV l j≠some t)->F t=yl S0.F t
 ohit: ∀j o,D j->j<m->(res j).2=some o->O (yM l S0 res j)=some o
 omiss: ∀id,(∀j o,D j->j<m->(res j).2=some o->yM l S0 res j≠id)->O id=ye S0.O id
end
variable {l:List Oper} {S0:St} {res:RS} {m:Nat}
theorem Lk.unique{D:Nat->Prop}{F F':Nat->Option TF}{O O':Nat->Option Ow}(h:Lk l S0 res m D F O)(h':Lk l S0 res m D F' O'):F=F'/\O=O':=by
 refine⟨funext λt=>?_,funext λid=>?_⟩
 ·by_cases hx: ∃j,D j/\j<m/\xV l j=some t
  ·obtain⟨j,h1,h2,h3⟩:=hx
   rw[h.hit j t h1 h2 h3,h'.hit j t h1 h2 h3]
  ·have: ∀j,D j->j<m->xV l j≠some t:=λj h1 h2 h3=>hx ⟨j,h1,h2,h3⟩
   rw[h.miss t this,h'.miss t this]
 ·by_cases hx: ∃j o,D j/\j<m/\(res j).2=some o/\yM l S0 res j=id
  ·obtain⟨j,o,h1,h2,h3,rfl⟩:=hx
   rw[h.ohit j o h1 h2 h3,h'.ohit j o h1 h2 h3]
  ·have: ∀j o,D j->j<m->(res j).2=some o->yM l S0 res j≠id:=λj o h1 h2 h3 h4=>hx ⟨j,o,h1,h2,h3,h4⟩
   rw[h.omiss id this,h'.omiss id this]
theorem Lk.congr{D D':Nat->Prop}{F:Nat->Option TF}{O:Nat->Option Ow}(h:Lk l S0 res m D F O)(hd: ∀j,j<m->(D j↔D' j)):Lk l S0 res m D' F O:=
 ⟨λj t h1 h2=>h.hit j t ((hd j h2).2 h1) h2,λt h1=>h.miss t λj hj hm=>h1 j ((hd j hm).1 hj) hm,λj o h1 h2=>h.ohit j o ((hd j h2).2 h1) h2,λid h1=>h.omiss id λj o hj hm=>h1 j o ((hd j hm).1 hj) hm⟩
theorem Lk.step{D:Nat->Prop}(h:Lk l S0 res m D F O){i:Nat}(him:i<m)(hdst: ∀j t,D j->j<m->xV l j=some t->xV l i≠some t)
  (hids: ∀j o o',D j->j<m->(res j).2=some o->(res i).2=some o'->yM l S0 res j≠yM l S0 res i):
  Lk l S0 res m (λj=>D j\/j=i) (rf F (xV l i) (j8 l S0 res i)) (match(res i).2 with |some o=>tj O (yM l S0 res i) o |none=>O):=by
 refine⟨λj t hj hm ht=>?_,λt ht=>?_,λj o hj hm ho=>?_,λid hid=>?_⟩
 ·rcases hj with hj |rfl
  ·simp only[rf]
   rw[cQ (hdst j t hj hm ht)]
   exact h.hit j t hj hm ht
  ·simp[rf,ht]
 ·simp only[rf]
  rw[cQ (ht i (.inr rfl) him)]
  exact h.miss t λj hj hm=>ht j (.inl hj) hm
 ·rcases hj with hj |rfl
  ·cases hr:(res i).2 with
   |none=>exact h.ohit j o hj hm ho
   |some o'=>
    simp only[tj]
    rw[cQ (hids j o o' hj hm ho hr)]
    exact h.ohit j o hj hm ho
  ·simp[ho,tj]
 ·cases hr:(res i).2 with
  |none=>exact h.omiss id λj o hj hm=>hid j o (.inl hj) hm
  |some o'=>
   simp only[tj]
   rw[cQ λe=>hid i o' (.inr rfl) him hr e.symm]
   exact h.omiss id λj o hj hm=>hid j o (.inl hj) hm
theorem R3(i:Nat)(hl:i<l.length):yM l S0 res (i+1)=yM l S0 res i+(if(res i).2.isSome then 1 else 0):=by
 simp only[yM,Ls,bA hl]
 cases hr:(res i).2 with
 |none=>cases l[i].dst<;>simp[St.new,St.put]
 |some o=>simp[St.new,St.mk_]
theorem tJ{i j:Nat}(hij:i<=j)(hj:j<=l.length):yM l S0 res i<=yM l S0 res j:=by
 induction j with
 |zero=>
  obtain rfl:i=0:=by omega
  exact bQ _
 |succ j ih=>
  rcases Nat.lt_or_ge i (j+1)with h |h
  ·have:=ih (by omega) (by omega)
   rw[R3 j (by omega)]
   omega
  ·obtain rfl:i=j+1:=by omega
   exact bQ _
theorem WU{i j:Nat}{o:Ow}(hij:i<j)(hj:j<=l.length)(ho:(res i).2=some o):yM l S0 res i<yM l S0 res j:=by
 have h1:=R3 (S0:=S0) (res:=res) i (show i<l.length by omega)
 have h2:=tJ (S0:=S0) (res:=res) (show i+1<=j by omega) hj
 simp[ho]at h1
 omega
theorem NW{i j:Nat}{o o':Ow}(hi:i<l.length)(hj:j<l.length)(hne:i≠j)(ho:(res i).2=some o)(ho':(res j).2=some o'):yM l S0 res i≠yM l S0 res j:=by
 rcases Nat.lt_or_ge i j with h |h
 ·have:=WU (l:=l) (S0:=S0) h (by omega) ho;omega
 ·have:=WU (l:=l) (S0:=S0) (show j<i by omega) (by omega) ho';omega
theorem Lk.lex(hm:m<=l.length)(hdst: ∀i j t,i<m->j<i->xV l j=some t->xV l i≠some t): ∀i,i<=m->Lk l S0 res m (λj=>j<i) (yl (Ls l S0 res i).F) (ye (Ls l S0 res i).O)
 |0,_=>⟨λj t h=>absurd h (by omega),λt _=>rfl,λj o h=>absurd h (by omega),λid _=>rfl⟩
 |i+1,hi=>by
  have h:=Lk.step (Lk.lex hm hdst i (by omega)) (i:=i) (by omega) (λj t hj hjm ht=>hdst i j t (by omega) hj ht) (λj o o' hj hjm ho ho'=>NW (by omega) (by omega) (by omega) ho ho')
  have e1:yl (Ls l S0 res (i+1)).F=rf (yl (Ls l S0 res i).F) (xV l i) (j8 l S0 res i):=by
   funext t
   simp only[Ls,xV,bA (show i<l.length by omega),Option.bind_some,rf,j8]
   cases hd:l[i].dst with
   |none=>cases hr:(res i).2<;>simp[St.new,St.put,St.mk_,hd,hr]
   |some d=>
    cases hr:(res i).2 with
    |none=>
     simp only[St.new,St.put,hd,hr,yl,bT]
     split
     ·rename_i hb;rw[cO (bI hb)]
     ·rename_i hb;rw[cQ (Nat.ne_of_beq_eq_false hb)]
    |some o=>
     simp only[St.new,St.mk_,hd,hr,yl,bT,yM]
     split
     ·rename_i hb;rw[cO (bI hb)]
     ·rename_i hb;rw[cQ (Nat.ne_of_beq_eq_false hb)]
  have e2:ye (Ls l S0 res (i+1)).O=(match(res i).2 with |some o=>tj (ye (Ls l S0 res i).O) (yM l S0 res i) o |none=>ye (Ls l S0 res i).O):=by
   funext id
   simp only[Ls,bA (show i<l.length by omega)]
   cases hr:(res i).2 with
   |none=>cases hd:l[i].dst<;>simp[St.new,St.put,hd]
   |some o=>
    by_cases hid:id=(Ls l S0 res i).nx
    ·subst hid;simp[St.new,St.mk_,ye,tj,yM]
    ·have h1:Nat.beq (Ls l S0 res i).nx id=false:=by
      cases hb:Nat.beq (Ls l S0 res i).nx id
      ·rfl
      ·exact absurd (bI hb).symm hid
     have h2:id≠yM l S0 res i:=hid
     simp[St.new,St.mk_,ye,tj,h1,h2]
  rw[e1,e2]
  exact h.congr λj _=>by constructor<;>intro hh<;>omega
end
end Go.Proofs.YtkegaaonpekkgaaGreat.Sx
