import Derived.Test.YtkegaaonpekkgaaGreatXqSxO
import Derived.Deep.LoopGhost
import Derived.Test.YtkegaaonpekkgaaGreatXqSxP
import Derived.Test.YtkegaaonpekkgaaGreatProg
namespace Go.Proofs.YtkegaaonpekkgaaGreat.Sx
open Go.RowKit
section
variable {P:Program} {T:TT} {B:Bs} {N:Nat} {S:St} {a:Act} {w:World} {k:Kp} {g:Env} {o:Oper} {Q:Exit->Act->World->Prop}
def wt(ρ:List (Nat×Nat))(g:Env):Env:=λi=>match wX ρ i with
 |some j=>g j
 |none=>g i
theorem Yx{ρ:List (Nat×Nat)}(hs:SatE B N S a w k g){f f':TF}{u:Value}(h:oW ρ S f f')(hf:f.at_ w k g u):f'.at_ w k (wt ρ g) u:=by
 cases f' with
 |r v=>
  unfold oW at h
  simp only at h
  split at h
  ·simp[TF.at_,RV.at_]
  ·split at h
   ·rename_i v' hv
    exact h w k u (tC hs hv hf)
   ·exact h.elim
 |own id=>
  simp only[oW]at h
  split at h
  ·rename_i j i hj
   subst h
   simp only[TF.at_,wt,hj]at*
   exact hf
  ·exact h.elim
 |adr id off=>
  simp only[oW]at h
  split at h
  ·rename_i j i o hj
   obtain⟨rfl,rfl⟩:=h
   simp only[TF.at_,wt,hj]at*
   exact hf
  ·exact h.elim
 |cut id off n=>
  simp only[oW]at h
  split at h
  ·rename_i j i o m hj
   obtain⟨rfl,rfl,rfl⟩:=h
   simp only[TF.at_,wt,hj]at*
   exact hf
  ·exact h.elim
 |nm id v=>
  simp only[oW]at h
  split at h
  ·rename_i j i u hj
   obtain⟨rfl,rfl⟩:=h
   simp only[TF.at_,wt,hj]at*
   exact hf
  ·exact h.elim
theorem jv{ρ:List (Nat×Nat)}(hs:SatE B N S a w k g): ∀{cs ds:List TF} {us:List Value},rY ρ S cs ds->AllAt (λf u=>u.oneCell'=true/\f.at_ w k g u) cs us->AllAt (λf u=>u.oneCell'=true/\f.at_ w k (wt ρ g) u) ds us
 |[],ds,us,h,hu=>by simp only[rY]at h;subst h;exact⟨hu.1,λj f u hf=>by simp at hf⟩
 |f::cs,ds,us,h,hu=>by
  simp only[rY]at h
  obtain⟨f',ds',rfl,h1,h2⟩:=h
  cases us with
  |nil=>have:=hu.1;simp at this
  |cons u us=>
   have h0:=hu.2 0 f u (by simp) (by simp)
   have ih:=jv hs h2 ⟨by simpa using hu.1,λj f u hf hv=>hu.2 (j+1) f u (by simpa using hf) (by simpa using hv)⟩
   refine⟨by simp[ih.1],λj f2 v hf hv=>?_⟩
   cases j with
   |zero=>simp at hf hv;subst hf;subst hv;exact⟨h0.1,Yx hs h1 h0.2⟩
   |succ j=>exact ih.2 j f2 v (by simpa using hf) (by simpa using hv)
theorem eE{ρ:List (Nat×Nat)}: ∀{F:List (Nat×TF)} {t:Nat} {f:TF},ko ρ S F->yl F t=some f->(∃f',yl S.F t=some f'/\oW ρ S f' f)/\(t,f)∈F
 |[],t,f,_,h=>by simp[yl]at h
 |(u,f0)::r,t,f,hok,h=>by
  simp only[ko]at hok
  rcases yO h with⟨rfl,rfl⟩ |⟨_,h⟩
  ·refine⟨?_,by simp⟩
   have:=hok.1
   split at this
   ·rename_i f' hf';exact⟨f',hf',this⟩
   ·exact this.elim
  ·have:=eE hok.2 h
   exact⟨this.1,cK _ this.2⟩
theorem vZ{ρ:List (Nat×Nat)}: ∀{O:List (Nat×Option Ow)} {id:Nat} {o:Ow},kW ρ S O->ye O id=some o->(∃j o',wX ρ id=some j/\ye S.O j=some o'/\jy ρ S o' o)/\(id,some o)∈O
 |[],id,o,_,h=>by simp[ye]at h
 |(u,o0)::r,id,o,hok,h=>by
  simp only[kW]at hok
  rcases yD h with⟨rfl,rfl⟩ |⟨_,h⟩
  ·refine⟨?_,by simp⟩
   have:=hok.1
   split at this
   ·rename_i o1 j he hj
    cases he
    split at this
    ·rename_i o' ho';exact⟨j,o',hj,ho',this⟩
    ·exact this.elim
   ·exact this.elim
  ·have:=vZ hok.2 h
   exact⟨this.1,cK _ this.2⟩
theorem ZF{n:Nat}: ∀{f:TF},eM n f=true->f.lt n
 | .r _,_=>trivial
 | .own id,h=>by simp[eM,Nat.blt]at h;simp[TF.lt];omega
 | .adr id _,h=>by simp[eM,Nat.blt]at h;simp[TF.lt];omega
 | .nm id _,h=>by simp[eM,Nat.blt]at h;simp[TF.lt];omega
 | .cut id _ _,h=>by simp[eM,Nat.blt]at h;simp[TF.lt];omega
theorem UM{n:Nat}: ∀{o:Ow},uD n o=true->o.lt n
 | .box cells,h=>λf hf=>ZF (by simp[uD]at h;exact h f hf)
 | .ch ..,_=>trivial
 | .gen _,_=>trivial
theorem lm: ∀{ρ:List (Nat×Nat)} {i j:Nat},wX ρ i=some j->(i,j)∈ρ
 |[],i,j,h=>by simp[wX]at h
 |(u,f)::r,i,j,h=>by
  simp only[wX]at h
  split at h
  ·rename_i hb;cases h;rw[<-bI hb];simp
  ·exact cK _ (lm h)
theorem wF: ∀{l:List Nat},sC l=true->l.Nodup
 |[],_=>List.nodup_nil
 |x::r,h=>by
  simp only[sC,bB,Bool.not_eq_true',List.any_eq_false]at h
  refine List.nodup_cons.2 ⟨λhx=>?_,wF h.2⟩
  have:=h.1 x hx
  simp at this
theorem UO: ∀{ρ:List (Nat×Nat)} {i i' j:Nat},(ρ.map (·.2)).Nodup->(i,j)∈ρ->(i',j)∈ρ->i=i'
 |[],_,_,_,_,m,_=>by cases m
 |x::r,i,i',j,hn,m,m'=>by
  simp only[cJ,List.nodup_cons]at hn
  rcases List.mem_cons.1 m with e |m1
  ·rcases List.mem_cons.1 m' with e' |m1'
   ·rw[<-e]at e';cases e';rfl
   ·exact absurd (by rw[<-e];exact List.mem_map.2 ⟨(i',j),m1',rfl⟩) hn.1
  ·rcases List.mem_cons.1 m' with e' |m1'
   ·exact absurd (by rw[<-e'];exact List.mem_map.2 ⟨(i,j),m1,rfl⟩) hn.1
   ·exact UO hn.2 m1 m1'
theorem Wk{ρ:List (Nat×Nat)}(hn:(ρ.map (·.2)).Nodup){i i' j:Nat}(h:wX ρ i=some j)(h':wX ρ i'=some j):i=i':=
 UO hn (lm h) (lm h')
theorem Cvs.length: ∀{cs ds:List RV},Cvs cs ds->ds.length=cs.length
 |[],ds,h=>by simp only[Cvs]at h;subst h;rfl
 |x::cs,ds,h=>by
  simp only[Cvs]at h
  obtain⟨g,r,rfl,_,h⟩:=h
  simp[Cvs.length h]
theorem zX(ρ:List (Nat×Nat)){S S':St}(h0:vB ρ S'=true)(h1:ko ρ S S'.F)(h2:kW ρ S S'.O):Sub S S':=by
 intro B N a w k ⟨g,hs⟩
 simp only[vB,bB,List.all_eq_true]at h0
 obtain⟨⟨⟨hF,hO⟩,hn2⟩,_⟩:=h0
 refine⟨k,wt ρ g,hs.size,hs.defers,hs.keep,hs.kk,λt f hf=>?_,λid o ho=>?_,λi j o o' b hi hj hne hbi hbj=>?_⟩
 ·obtain⟨⟨f',hf',hc⟩,hm⟩:=eE h1 hf
  exact⟨ZF (hF _ hm),Yx hs hc (hs.facts t f' hf').2⟩
 ·obtain⟨⟨j,o',hj,ho',hc⟩,hm⟩:=vZ h2 ho
  have hlt:=hO _ hm
  obtain⟨q1,q2,q3,q4⟩:=hs.owns j o' ho'
  have hren:wt ρ g id=g j:=by simp[wt,hj]
  refine⟨by have:=hlt.1;simp[Nat.blt]at this;omega,UM hlt.2,?_,by rw[hren];exact q4⟩
  rw[hren]
  cases o' with
  |box cs=>
   cases o with
   |box ds=>
    simp only[Ow.at_]at q3⊢
    obtain⟨b,cur,t,e,hh,hk,hsz,hall⟩:=q3
    have hds:=jv (us:=cur.toList) hs hc ⟨by rw[bG,hsz],λj f u hf hu=>hall j f u hf (by simpa using hu)⟩
    exact⟨b,cur,t,e,hh,hk,by rw[<-bG,hds.1],λj f u hf hu=>hds.2 j f u hf (by simpa using hu)⟩
   |ch=>exact hc.elim
   |gen=>exact hc.elim
  |gen p=>
   cases o with
   |gen q=>exact hc w k _ q3
   |box=>exact hc.elim
   |ch=>exact hc.elim
  |ch e sz n cs pub=>
   cases o with
   |box=>exact hc.elim
   |gen=>exact hc.elim
   |ch e' sz' n' ds pub'=>
    obtain⟨rfl,rfl,rfl,rfl,hcs⟩:=hc
    simp only[Ow.at_]at q3⊢
    obtain⟨r1,r2⟩:=q3
    have hlen:ds.length=cs.length:=Cvs.length hcs
    refine⟨by rw[hlen];exact r1,?_⟩
    rcases r2 with⟨h0,r2 |⟨hn,hp,b,o,e,hm,hb,hc⟩⟩ |⟨b,cap,cur,e1,e2,hh,s1,s2,s3,s4,s5⟩
    ·exact .inl ⟨h0,.inl r2⟩
    ·exact .inl ⟨h0,.inr ⟨hn,hp,b,o,e,hm,hb,hcs.cells hc⟩⟩
    ·exact .inr ⟨b,cap,cur,e1,e2,hh,s1,s2,s3,s4,hcs.list s5⟩
 ·obtain⟨⟨i',oi,hi',hoi,_⟩,_⟩:=vZ h2 hi
  obtain⟨⟨j',oj,hj',hoj,_⟩,_⟩:=vZ h2 hj
  simp only[wt,hi']at hbi
  simp only[wt,hj']at hbj
  refine hs.apart i' j' oi oj b hoi hoj (λe=>?_) hbi hbj
  subst e
  exact hne (Wk (wF hn2) hi' hj')
theorem zO(ρ:List (Nat×Nat)){S S':St}(h1:ko ρ S S'.F)(h2:kW ρ S S'.O:=by repeat' (first|exact rfl|exact trivial|exact cr|exact zn _|exact z8 _|exact⟨rfl,rfl⟩|refine⟨_,_,rfl,?_,?_⟩|refine⟨?_,?_⟩))(h0:vB ρ S'=true:=by rfl):Sub S S':=zX ρ h0 h1 h2
theorem zN(ρ:List (Nat×Nat)){S S':St}(h2:kW ρ S S'.O)(h1:ko ρ S S'.F:=by repeat' (first|exact rfl|exact trivial|exact cr|exact zn _|exact z8 _|exact⟨rfl,rfl⟩|refine⟨_,_,rfl,?_,?_⟩|refine⟨?_,?_⟩))(h0:vB ρ S'=true:=by rfl):Sub S S':=zX ρ h0 h1 h2
theorem zM(ρ:List (Nat×Nat)){S S':St}(h1:ko ρ S S'.F:=by repeat' (first|exact rfl|exact trivial|exact cr|exact zn _|exact z8 _|exact⟨rfl,rfl⟩|refine⟨_,_,rfl,?_,?_⟩|refine⟨?_,?_⟩))(h2:kW ρ S S'.O:=by repeat' (first|exact rfl|exact trivial|exact cr|exact zn _|exact z8 _|exact⟨rfl,rfl⟩|refine⟨_,_,rfl,?_,?_⟩|refine⟨?_,?_⟩))(h0:vB ρ S'=true:=by rfl):Sub S S':=zX ρ h0 h1 h2
theorem yP(hm:P.follows .mixedOrders=true)(hT:TOk P T): ∀(c:Code) (S:St) (Q:Exit->St->Prop),vO P T c S Q->SE P c S Q
 | .skip,S,Q,h=>λB N a w k Q' hs _ hQ=>wp_skip (hQ _ S a w k h hs)
 | .region id ops draw,S,Q,h=>λB N a w k Q' hs hd hQ=>by
  have hN: ∀o∈ops.toList,∀d,o.dst=some d->d<N:=λo ho d hod=>by
   simp only[xf,List.all_eq_true]at hd
   have h1:=hd o ho
   simp only[hod]at h1
   exact cE h1
  cases draw with
  |false=>
   simp only[vO]at h
   split at h
   ·have:=pi (Q:=Q') hT hN (λ_ h=>h) hs h λS' a' w' k' hq hs'=>hQ _ S' a' w' k' hq hs'
    exact wp_region_list this
   ·exact h.out B N a w k Q' hs hd hQ
  |true=>
   simp only[vO]at h
   split at h
   ·obtain⟨hok,h⟩ |h |h:=h
    ·exact WJ hm hT hN hs hok h λS' a' w' k' hq hs'=>hQ _ S' a' w' k' hq hs'
    ·exact TH hm hT hN hs h λS' a' w' k' hq hs'=>hQ _ S' a' w' k' hq hs'
    ·exact h.out B N a w k Q' hs hd hQ
   ·rename_i l d v hfree
    obtain⟨hok,h⟩ |h:=h
    case inr=>exact h.out B N a w k Q' hs hd hQ
    exact WK hm hT hN hs hfree hok h λS' a' w' k' hq hs'=>hQ _ S' a' w' k' hq hs'
 | .seq x y,S,Q,h=>λB N a w k Q' hs hd hQ=>by
  simp only[xf,bB]at hd
  simp only[vO]at h
  refine wp_seq (yP hm hT x S _ h B N a w k _ hs hd.1 λe S' a' w' k' hq hs'=>?_)
  cases e with
  |normal=>exact yP hm hT y S' Q hq B N a' w' k' Q' hs' hd.2 hQ
  |_=>exact hQ _ S' a' w' k' hq hs'
 | .cond c x y,S,Q,h=>λB N a w k Q' hs hd hQ=>by
  simp only[xf,bB]at hd
  simp only[vO]at h
  split at h
  ·rename_i β hc
   obtain⟨g,hs'⟩:=hs
   have hev:=(yi hs' hc).2
   simp only[TF.at_,RV.at_]at hev
   refine wp_cond_split hev (λht=>?_) λhf=>?_
   ·exact yP hm hT x S Q (h.out.1 ht) B N a w k Q' ⟨g,hs'⟩ hd.1 hQ
   ·exact yP hm hT y S Q (h.out.2 hf) B N a w k Q' ⟨g,hs'⟩ hd.2 hQ
  ·exact h.elim
 | .block id c,S,Q,h=>λB N a w k Q' hs hd hQ=>by
  simp only[vO]at h
  refine wp_block (yP hm hT c S _ h B N a w k _ hs hd λe S' a' w' k' hq hs'=>?_)
  cases e with
  |exit id'=>
   simp only[Exit.inBlock]
   simp only[O4]at hq
   split at hq
   ·rename_i hb;rw[cO (bI hb)];exact hQ _ S' a' w' k' hq hs'
   ·rename_i hb;rw[cQ (Nat.ne_of_beq_eq_false hb)];exact hQ _ S' a' w' k' hq hs'
  |_=>exact hQ _ S' a' w' k' hq hs'
 | .loop c,S,Q,h=>λB N a w k Q' hs hd hQ=>by
  simp only[vO]at h
  obtain⟨⟨ι,inv,R,μ,⟨i0,hR0,hsub⟩,hround⟩ |h⟩:=h
  case inr=>exact h.out B N a w k Q' hs hd hQ
  obtain⟨k0,hs0⟩:=hsub B N a w k hs
  refine wp_loop_ghost (λn a w=>∃i k,R i/\μ i=n/\yK B N (inv i) a w k) (μ i0) ⟨i0,k0,hR0,rfl,hs0⟩ ?_
  rintro n a' w' ⟨i,k',hR,rfl,hs'⟩
  rcases hround with hround |hround
  ·refine yP hm hT c (inv i) _ (hround i hR) B N a' w' k' _ hs' hd λe S' a2 w2 k2 hq hs2=>?_
   cases e with
   |normal=>
    obtain⟨i',hR',hlt,hsub'⟩:=hq
    obtain⟨k3,hs3⟩:=hsub' B N a2 w2 k2 hs2
    exact⟨μ i',hlt,i',k3,hR',rfl,hs3⟩
   |_=>exact hQ _ S' a2 w2 k2 hq hs2
  ·refine yP hm hT c (inv i) _ (hround i hR) B N a' w' k' _ hs' hd λe S' a2 w2 k2 hq hs2=>?_
   cases e with
   |normal=>
    obtain⟨i',hR',hlt,hsub'⟩:=hq
    obtain⟨k3,hs3⟩:=hsub' B N a2 w2 k2 hs2
    exact⟨μ i',hlt,i',k3,hR',rfl,hs3⟩
   |_=>
    obtain⟨S2,hsub2,hq⟩:=hq
    obtain⟨k3,hs3⟩:=hsub2 B N a2 w2 k2 hs2
    exact hQ _ S2 a2 w2 k3 hq hs3
 | .exit id,S,Q,h=>λB N a w k Q' hs _ hQ=>wp_exit (hQ _ S a w k h hs)
 | .ret,S,Q,h=>λB N a w k Q' hs _ hQ=>wp_ret (hQ _ S a w k h hs)
 | .label l,S,Q,h=>λB N a w k Q' hs _ hQ=>wp_label (hQ _ S a w k h hs)
 | .goto l,S,Q,h=>λB N a w k Q' hs _ hQ=>wp_goto (hQ _ S a w k h hs)
 | .scope c,S,Q,h=>h.out
 | .rangeFunc _ _ _ _,S,Q,h=>h.out
 | .refuse _,S,Q,h=>h.elim
theorem Vrounds.step(hm:P.follows .mixedOrders=true)(hT:TOk P T){c:Code}{n:Nat}{Q:Exit->St->Prop}(h:vO P T c S (CB (λS' Q=>Vrounds P c n S' Q) Q)):Vrounds P c (n+1) S Q:=
 ⟨λB N a w k Q' hs hd hQ=>yP hm hT c S _ h B N a w k _ hs hd λe S' a' w' k' hq hs'=>by
  cases e with
  |normal=>exact hq.out B N a' w' k' Q' hs' hd hQ
  |_=>exact hQ _ S' a' w' k' hq hs'⟩
abbrev zC:= @Vrounds.step
end
section
variable {P:Program} {T:TT} {B:Bs} {N:Nat} {S:St} {a:Act} {w:World} {k:Kp} {g:Env}
theorem Xo: ∀{l:List RV} {n t:Nat} {f:TF} {us:List Value},RV.partsAt w k l us->yl (ac n l) t=some f->∃v,f= .r v/\n<=t/\∃u,us[t-n]?=some u/\v.at_ w k u
 |[],_,_,_,_,_,h=>by simp[ac,yl]at h
 |v::r,n,t,f,us,hp,h=>by
  simp only[RV.partsAt]at hp
  obtain⟨u,us',rfl,h1,h2⟩:=hp
  simp only[ac]at h
  rcases yO h with⟨rfl,rfl⟩ |⟨hne,h⟩
  ·exact⟨v,rfl,bQ _,u,by simp,h1⟩
  ·obtain⟨v',e,hle,u',hu',h3⟩:=Xo h2 h
   refine⟨v',e,by omega,u',?_,h3⟩
   rw[show t-n=(t-(n+1))+1 by omega]
   simpa using hu'
theorem eP: ∀{l:List RV} {us:List Value},RV.partsAt w k l us->us.length=l.length
 |[],us,h=>by simp only[RV.partsAt]at h;subst h;rfl
 |v::r,us,h=>by
  simp only[RV.partsAt]at h
  obtain⟨u,us',rfl,_,h2⟩:=h
  simp[eP h2]
theorem lA{args:List RV}{vs:List Value}(hp:RV.partsAt w k args vs){n:Nat}(hn:args.length<=n):
  yK ⟨w,k,[],[]⟩ n (St.args args) {tmps:=vs.toArray++Array.replicate (n-vs.toArray.size) undef,defers:=[]} w k:=by
 have hl:=eP hp
 refine⟨λ_=>(undef,none),by simp;omega,rfl,⟨rfl,rfl,rfl,bQ _,λ_ _ _=>rfl⟩,λ_ _ _=>rfl,λt f hf=>?_,λid o ho=>by simp[St.args,ye]at ho,λi j o o' b hi=>by simp[St.args,ye]at hi⟩
 obtain⟨v,rfl,_,u,hu,hat⟩:=Xo hp hf
 rw[Nat.sub_zero]at hu
 refine⟨trivial,?_⟩
 have hlt:t<vs.length:=(List.getElem?_eq_some_iff.1 hu).1
 have:(vs.toArray++Array.replicate (n-vs.toArray.size) undef)[t]?=some u:=by
  rw[Array.getElem?_append_left (by simpa using hlt)]
  simpa using hu
 simp only[TF.at_,Array.getD_eq_getD_getElem?,this,Option.getD_some]
 exact hat
def ed(tmps:Array Value)(x:ResultVar):Sem Value:=
 match x with
 | .tmp t=>pure (tmps.getD t undef)
 | .cell p t=>do loadVar t (<-asAddr (tmps.getD p undef))
theorem pf(fn:Func)(tmps:Array Value):results fn tmps=(do
  let vs<-fn.results.mapM (ed tmps)
  pure (if h:vs.size=1 then vs[0]else .tuple vs)):=by
 unfold results
 congr 2
theorem nB(hT:TOk P T)(hs:SatE B N S a w k g){x:ResultVar}{K:TF->Prop}(h:cq T S x K):
  ∃f v,K f/\f.at_ w k g v/\(ed a.tmps x).run P w= .ok v w:=by
 cases x with
 |tmp t=>
  simp only[cq]at h
  split at h
  ·rename_i f hf
   exact⟨f,_,h,(hs.facts t f hf).2,rfl⟩
  ·exact h.elim
 |cell p t=>
  simp only[cq]at h
  split at h
  ·rename_i f ti hf hti
   obtain⟨q,hq⟩:=hT.get hti
   obtain⟨f',v,hK,_,hat,hr⟩:=XT hs q hq (hs.facts p f hf).2 h
   refine⟨f',v,hK,hat,?_⟩
   cases hv:a.tmps.getD p undef with
   |pointer ad=>
    cases ad with
    |some ad=>rw[hv]at hr;simp only[Instr.loadAt,Instr.sureAddr,Sem.run_bind,Sem.run_pure,Result.andThen_ok]at hr;simp only[ed,hv,asAddr,Sem.run_bind,Sem.run_pure,Result.andThen_ok];exact hr
    |none=>rw[hv]at hr;simp[Instr.loadAt,Instr.sureAddr]at hr
   |_=>rw[hv]at hr;simp[Instr.loadAt,Instr.sureAddr]at hr
  ·exact h.elim
theorem ou(hT:TOk P T)(hs:SatE B N S a w k g): ∀{xs:List ResultVar} {K:List RV->Prop},fZ T S xs K->
  ∃rs vs,K rs/\RV.partsAt w k rs vs/\vs.length=xs.length/\(xs.mapM (ed a.tmps)).run P w= .ok vs w
 |[],K,h=>⟨[],[],h,by simp[RV.partsAt],rfl,by simp⟩
 |x::r,K,h=>by
  simp only[fZ]at h
  obtain⟨f,v,h1,hat,hr⟩:=nB hT hs h
  split at h1
  ·rename_i rv hrv
   obtain⟨rs,vs,hK,hp,hlen,hr2⟩:=ou hT hs h1
   refine⟨_,v::vs,hK,by simp only[RV.partsAt];exact⟨v,vs,rfl,tC hs hrv hat,hp⟩,by simp[hlen],?_⟩
   rw[List.mapM_cons,Sem.run_bind,hr]
   simp[hr2]
  ·exact h1.elim
theorem bq(hT:TOk P T){fn:Func}{res:Res}{e:Exit}{S':St}{a':Act}{w':World}{k':Kp}(hq:dy T fn.results res e S')(hs':yK ⟨w,k,[],[]⟩ N S' a' w' k'):
  bodyPost P fn (λe w'=>∃v,e=Ending.returned v/\Ext w w'/\∃k':Kp,(∀b,b<w.heap.size->k' b=k b)/\res.at_ w.heap.size w' k' v) e a' w':=by
 have fin:dy T fn.results res .ret S'->a'.defers=[]/\∃v,(results fn a'.tmps).run P w'= .ok v w'/\
   (λe w'=>∃v,e=Ending.returned v/\Ext w w'/\∃k':Kp,(∀b,b<w.heap.size->k' b=k b)/\res.at_ w.heap.size w' k' v) (.returned v) w':=by
  intro hq
  obtain⟨g,hs'⟩:=hs'
  have hext:Ext w w':=⟨hs'.keep.os,hs'.keep.tape,hs'.keep.output,hs'.keep.size,λb hb=>hs'.keep.block b hb (by simp)⟩
  have hkk: ∀b,b<w.heap.size->k' b=k b:=λb hb=>hs'.kk b hb (by simp)
  refine⟨hs'.defers,?_⟩
  simp only[dy]at hq
  unfold Ja at hq
  split at hq
  ·rename_i x hx
   obtain⟨fr,v,hret,hat,hr⟩:=nB hT hs' hq
   refine⟨v,?_,v,rfl,hext,k',hkk,?_⟩
   ·have hx':fn.results= #[x]:=by apply Array.ext';simpa using hx
    rw[pf,hx',Array.mapM_eq_mapM_toList]
    simp only[Sem.run_bind,Sem.run_map,List.mapM_cons,List.mapM_nil,hr]
    simp
   ·unfold FO at hret
    split at hret
    ·split at hret
     ·rename_i v' hv'
      exact hret w' k' v (tC hs' hv' hat)
     ·exact hret.elim
    ·split at hret
     ·rename_i e sz n cells id
      have ho:=hs'.owns id _ hret
      simp only[Ow.at_]at ho
      simp only[TF.at_]at hat
      subst hat
      refine⟨_,ho.2.2.1,λb hb=>?_⟩
      rcases(ho.2.2.2 b hb).1 with h |h
      ·exact h
      ·simp at h
     ·exact hret.elim
    ·split at hret
     ·rename_i e sz n cells id
      have ho:=hs'.owns id _ hret
      simp only[Ow.at_]at ho
      simp only[TF.at_]at hat
      subst hat
      refine⟨_,ho.2.2.1,λb hb=>?_⟩
      rcases(ho.2.2.2 b hb).1 with h |h
      ·exact h
      ·simp at h
     ·exact hret.elim
    ·split at hret
     ·rename_i cells id
      have ho:=hs'.owns id _ hret
      simp only[Ow.at_]at ho
      obtain⟨q1,q2,⟨b,cur,t,e,hh,hkb,hsz,hc⟩,q4⟩:=ho
      simp only[TF.at_]at hat
      rw[e]at hat q4
      refine⟨b,cur,t,hat,?_,hh,hkb,by simpa using hsz,λj f u hf hu=>?_⟩
      ·rcases(q4 b rfl).1 with h |h
       ·exact h
       ·simp at h
      ·exact hc j (.r f) u (by rw[bR,hf];rfl) hu
     ·exact hret.elim
  ·rename_i hxs
   obtain⟨rs,vs,⟨rv,rfl,hcv⟩,hp',hlen,hr⟩:=ou hT hs' hq
   refine⟨.tuple vs.toArray,?_,.tuple vs.toArray,rfl,hext,k',hkk,?_⟩
   ·rw[pf,Array.mapM_eq_mapM_toList]
    simp only[Sem.run_bind,Sem.run_map,hr]
    have hne:vs.length≠1:=by
     intro he
     rw[hlen]at he
     obtain⟨x,hx⟩:=List.length_eq_one_iff.1 he
     exact hxs x hx
    simp[hne]
   ·exact hcv w' k' _ (by simp only[RV.at_];exact⟨vs.toArray,rfl,hp'⟩)
 cases e with
 |ret=>exact fin hq
 |normal=>exact fin hq
 |_=>exact hq.elim
theorem yT{f:FuncId}{fn:Func}{args:List RV}{res:Res}{c:Code}(hm:P.follows .mixedOrders=true)(hT:TOk P T)(hf:P.funcs[f]?=some fn)(hb:fn.body=some c)
  (hk:(Nat.ble args.length fn.ntmps&&(xf fn.ntmps c&& !(fn.name== "runtime.NumGoroutine")))=true)
  (h:vO P T c (St.args args) λe S=>∃S',Sub S S'/\dy T fn.results res e S'):zW P f args res:=by
 simp only[bB,Nat.ble_eq,Bool.not_eq_true',beq_eq_false_iff_ne]at hk
 obtain⟨hn,hd,hname⟩:=hk
 refine⟨⟨fn,c,hf,hb,hname⟩,λw k vs hp=>?_⟩
 refine calls_of_wp hf hb ?_
 refine yP hm hT c _ _ h ⟨w,k,[],[]⟩ fn.ntmps _ w k _ (lA hp hn) hd λe S0 a' w' k0 ⟨S',hsub,hq⟩ hs0=>?_
 obtain⟨k',hs'⟩:=hsub _ _ _ _ _ hs0
 exact bq hT hq hs'
theorem zV{f:FuncId}{fn:Func}{args:List RV}{res:Res}{c:Code}(hm:P.follows .mixedOrders=true)(hT:TOk P T)(hf:P.funcs[f]?=some fn)(hb:fn.body=some c)
  (hk:(Nat.ble args.length fn.ntmps&&(xf fn.ntmps c&& !(fn.name== "runtime.NumGoroutine")))=true)
  (h:vO P T c (St.args args) (dy T fn.results res)):zW P f args res:=by
 simp only[bB,Nat.ble_eq,Bool.not_eq_true',beq_eq_false_iff_ne]at hk
 obtain⟨hn,hd,hname⟩:=hk
 refine⟨⟨fn,c,hf,hb,hname⟩,λw k vs hp=>?_⟩
 refine calls_of_wp hf hb ?_
 refine yP hm hT c _ _ h ⟨w,k,[],[]⟩ fn.ntmps _ w k _ (lA hp hn) hd λe S' a' w' k' hq hs'=>?_
 exact bq hT hq hs'
end
abbrev aN:Value:=.slice none 0 0
abbrev aU:Value:=.int .u64 0
abbrev aY:Value:=.int .u8 0
abbrev aI:Value:=.int .i64 0
def Tab:TT:=[
 ⟨3,.int .i64,1,8,false,[aI]⟩,
 ⟨22,.slice 5,1,24,false,[aN]⟩,
 ⟨4,.bool,1,1,false,[(.bool false)]⟩,
 ⟨43,.int .u64,1,8,false,[aU]⟩,
 ⟨5,.int .u8,1,1,false,[aY]⟩,
 ⟨25,.int .u8,1,1,false,[aY]⟩,
 ⟨1,.other,1,8,false,[.nilFunc]⟩,
 ⟨36,.slice 3,1,24,false,[aN]⟩,
 ⟨180,.struct [(0,178)],5,40,true,[aU,aU,aU,aU,aU]⟩,
 ⟨29,.struct [(0,22),(1,22),(2,22),(3,5),(4,22),(5,22)],6,128,true,[aN,aN,aN,aY,aN,aN]⟩,
 ⟨75,.struct [(0,22),(1,43),(2,3),(3,5),(4,67),(20,73),(29,22),(30,22),(31,22)],32,624,true,[aN,aU,aI,aY,aY,aN,aN,aN,aN,aY,aN,aN,aN,aN,aN,aN,aY,aN,aN,aI,aN,(.bool false),aN,aN,aN,aY,aN,aN,aN,aN,aN,aN]⟩,
 ⟨48,.slice 47,1,24,false,[aN]⟩,
 ⟨40,.struct [(0,5),(1,29),(7,38)],10,208,true,[aY,aN,aN,aN,aY,aN,aN,aN,aN,aN]⟩,
 ⟨298,.int .u32,1,4,false,[(.int .u32 0)]⟩,
 ⟨41,.slice 40,1,24,false,[aN]⟩,
 ⟨2,.int .i64,1,8,false,[aI]⟩,
 ⟨52,.struct [(0,45),(4,3),(5,22),(6,22),(7,50),(19,48)],20,448,true,[aN,aU,aN,aN,aI,aN,aN,aN,aN,aN,aN,aN,aN,aN,aN,aN,aN,aN,aN,aN]⟩,
 ⟨47,.struct [(0,3),(1,22)],2,32,true,[aI,aN]⟩,
 ⟨67,.struct [(0,5),(1,31),(9,29),(15,3)],16,320,true,[aY,aN,aN,aN,aN,aY,aN,aN,aN,aN,aN,aN,aY,aN,aN,aI]⟩,
 ⟨303,.int .u64,1,8,false,[aU]⟩,
 ⟨63,.struct [(0,52),(20,41),(21,22),(22,60),(23,61)],24,544,true,[aN,aU,aN,aN,aI,aN,aN,aN,aN,aN,aN,aN,aN,aN,aN,aN,aN,aN,aN,aN,aN,aN,aN,aN]⟩,
 ⟨127,.slice 22,1,24,false,[aN]⟩,
 ⟨45,.struct [(0,22),(1,43),(2,22),(3,22)],4,80,true,[aN,aU,aN,aN]⟩,
 ⟨200,.slice 43,1,24,false,[aN]⟩,
 ⟨233,.struct [(0,3),(1,3),(2,230),(3,231)],4,64,true,[aI,aI,aN,aN]⟩,
 ⟨31,.struct [(0,22),(1,29),(7,22)],8,176,true,[aN,aN,aN,aN,aY,aN,aN,aN]⟩,
 ⟨50,.struct [(0,22),(1,22),(2,22),(3,22),(4,22),(5,22),(6,22),(7,22),(8,22),(9,22),(10,22),(11,22)],12,288,true,(List.replicate 12 aN)⟩,
 ⟨182,.struct [(0,180),(5,180),(10,180),(15,180),(20,4)],21,168,true,[aU,aU,aU,aU,aU,aU,aU,aU,aU,aU,aU,aU,aU,aU,aU,aU,aU,aU,aU,aU,(.bool false)]⟩,
 ⟨73,.struct [(0,68),(1,4),(2,71)],9,184,true,[aN,(.bool false),aN,aN,aN,aY,aN,aN,aN]⟩,
 ⟨69,.slice 211,1,24,false,[aN]⟩,
 ⟨333,.struct [(0,3),(1,3),(2,330),(3,331)],4,32,true,[aI,aI,(.map none),(.map none)]⟩,
 ⟨68,.slice 143,1,24,false,[aN]⟩,
 ⟨71,.struct [(0,29),(6,69)],7,152,true,[aN,aN,aN,aY,aN,aN,aN]⟩,
 ⟨187,.struct [(0,185)],4,32,true,[aU,aU,aU,aU]⟩,
 ⟨185,.array 4 43,4,32,true,[aU,aU,aU,aU]⟩,
 ⟨24,.other,1,8,false,[(.pointer none)]⟩,
 ⟨9,.str,1,16,false,[(.string ⟨#[]⟩)]⟩,
 ⟨211,.struct [(0,22),(1,209)],2,48,true,[aN,aN]⟩,
 ⟨209,.slice 213,1,24,false,[aN]⟩,
 ⟨261,.other,1,8,false,[(.pointer none)]⟩,
 ⟨508,.struct [(0,43),(1,43)],2,16,true,[aU,aU]⟩,
 ⟨38,.struct [(0,22),(1,22),(2,36)],3,72,true,[aN,aN,aN]⟩,
 ⟨143,.struct [(0,22),(1,67)],17,344,true,[aN,aY,aN,aN,aN,aN,aY,aN,aN,aN,aN,aN,aN,aY,aN,aN,aI]⟩,
 ⟨88,.slice 94,1,24,false,[aN]⟩,
 ⟨158,.struct [(0,41),(1,156),(2,36),(3,4)],4,80,true,[aN,aN,aN,(.bool false)]⟩,
 ⟨363,.other,1,8,false,[(.pointer none)]⟩,
 ⟨60,.slice 75,1,24,false,[aN]⟩,
 ⟨94,.struct [(0,3),(1,67)],17,328,true,[aI,aY,aN,aN,aN,aN,aY,aN,aN,aN,aN,aN,aN,aY,aN,aN,aI]⟩,
 ⟨247,.struct [(0,45),(4,22),(5,3),(6,22)],7,136,true,[aN,aU,aN,aN,aN,aI,aN]⟩,
 ⟨162,.struct [(0,71),(7,41),(8,22),(9,48),(10,48)],11,248,true,[aN,aN,aN,aY,aN,aN,aN,aN,aN,aN,aN]⟩,
 ⟨178,.array 5 43,5,40,true,[aU,aU,aU,aU,aU]⟩,
 ⟨237,.struct [(0,233),(4,71),(11,48),(12,127),(13,22)],14,288,true,[aI,aI,aN,aN,aN,aN,aN,aY,aN,aN,aN,aN,aN,aN]⟩,
 ⟨471,.struct [(0,180),(5,180)],10,80,true,(List.replicate 10 aU)⟩,
 ⟨61,.slice 132,1,24,false,[aN]⟩,
 ⟨241,.struct [(0,3),(1,40)],11,216,true,[aI,aY,aN,aN,aN,aY,aN,aN,aN,aN,aN]⟩,
 ⟨330,.other,1,8,false,[(.map none)]⟩,
 ⟨552,.int .u64,1,8,false,[aU]⟩,
 ⟨230,.slice 241,1,24,false,[aN]⟩,
 ⟨338,.slice 342,1,24,false,[aN]⟩,
 ⟨474,.array 8 43,8,64,true,[aU,aU,aU,aU,aU,aU,aU,aU]⟩,
 ⟨213,.struct [(0,22),(1,22)],2,48,true,[aN,aN]⟩,
 ⟨440,.other,1,8,false,[.nilFunc]⟩,
 ⟨115,.struct [(0,63),(24,22),(25,63)],49,1112,true,[aN,aU,aN,aN,aI,aN,aN,aN,aN,aN,aN,aN,aN,aN,aN,aN,aN,aN,aN,aN,aN,aN,aN,aN,aN,aN,aU,aN,aN,aI,aN,aN,aN,aN,aN,aN,aN,aN,aN,aN,aN,aN,aN,aN,aN,aN,aN,aN,aN]⟩,
 ⟨463,.struct [(0,36),(1,230)],2,48,true,[aN,aN]⟩,
 ⟨256,.struct [(0,254),(1,22)],2,48,true,[aN,aN]⟩,
 ⟨299,.array 8 298,8,32,true,[(.int .u32 0),(.int .u32 0),(.int .u32 0),(.int .u32 0),(.int .u32 0),(.int .u32 0),(.int .u32 0),(.int .u32 0)]⟩,
 ⟨331,.other,1,8,false,[(.map none)]⟩,
 ⟨33,.struct [(0,22),(1,22),(2,22)],3,72,true,[aN,aN,aN]⟩,
 ⟨361,.struct [(0,22),(1,213)],3,72,true,[aN,aN,aN]⟩,
 ⟨476,.array 80 43,80,640,true,(List.replicate 80 aU)⟩,
 ⟨366,.struct [(0,363),(1,25)],2,16,true,[(.pointer none),aY]⟩,
 ⟨533,.int .i64,1,8,false,[aI]⟩,
 ⟨156,.slice 29,1,24,false,[aN]⟩,
 ⟨8,.struct [(0,2),(1,3),(2,4),(3,6)],4,24,true,[aI,aI,(.bool false),aY]⟩,
 ⟨277,.struct [(0,9),(1,275)],2,24,true,[(.string ⟨#[]⟩),(.pointer none)]⟩,
 ⟨406,.array 64 298,64,256,true,(List.replicate 64 (.int .u32 0))⟩,
 ⟨275,.other,1,8,false,[(.pointer none)]⟩,
 ⟨342,.struct [(0,3),(1,36),(2,22)],3,56,true,[aI,aN,aN]⟩,
 ⟨6,.int .u8,1,1,false,[aY]⟩,
 ⟨7,.struct [(0,2),(1,3),(2,4),(3,6)],4,24,true,[aI,aI,(.bool false),aY]⟩,
 ⟨132,.struct [(0,22),(1,22)],2,48,true,[aN,aN]⟩,
 ⟨231,.slice 432,1,24,false,[aN]⟩,
 ⟨317,.other,1,8,false,[(.map none)]⟩,
 ⟨432,.struct [(0,3),(1,22)],2,32,true,[aI,aN]⟩,
 ⟨540,.array 256 5,256,256,true,(List.replicate 256 aY)⟩,
 ⟨224,.other,1,8,false,[(.map none)]⟩,
 ⟨252,.struct [(0,31),(8,22)],9,200,true,[aN,aN,aN,aN,aY,aN,aN,aN,aN]⟩,
 ⟨254,.slice 361,1,24,false,[aN]⟩,
 ⟨494,.int .i64,1,8,false,[aI]⟩,
 ⟨197,.array 32 5,32,32,true,(List.replicate 32 aY)⟩,
 ⟨325,.other,1,8,false,[(.map none)]⟩,
 ⟨343,.slice 38,1,24,false,[aN]⟩,
 ⟨386,.struct [(0,43),(1,43)],2,16,true,[aU,aU]⟩,
 ⟨403,.struct [(0,3),(1,3),(2,3)],3,24,true,[aI,aI,aI]⟩,
 ⟨482,.slice 403,1,24,false,[aN]⟩,
 ⟨250,.slice 252,1,24,false,[aN]⟩,
 ⟨503,.struct [(0,22),(1,22)],2,48,true,[aN,aN]⟩,
 ⟨455,.struct [(0,22),(1,25)],2,32,true,[aN,aY]⟩,
 ⟨56,.other,1,8,false,[.nilFunc]⟩,
 ⟨290,.slice 275,1,24,false,[aN]⟩,
 ⟨428,.other,1,8,false,[.nilFunc]⟩,
 ⟨493,.other,1,8,false,[.nilFunc]⟩,
 ⟨109,.other,1,8,false,[(.pointer none)]⟩,
 ⟨308,.other,1,8,false,[.nilFunc]⟩,
 ⟨319,.other,1,8,false,[(.pointer none)]⟩,
 ⟨396,.array 64 5,64,64,true,(List.replicate 64 aY)⟩,
 ⟨556,.other,1,8,false,[(.pointer none)]⟩,
 ⟨274,.other,1,8,false,[(.pointer none)]⟩,
 ⟨306,.other,1,8,false,[(.pointer none)]⟩,
 ⟨326,.array 2 325,2,16,true,[(.map none),(.map none)]⟩,
 ⟨382,.slice 9,1,24,false,[aN]⟩,
 ⟨11,.str,1,16,false,[(.string ⟨#[]⟩)]⟩,
 ⟨370,.other,1,8,false,[.nilFunc]⟩,
 ⟨495,.other,1,8,false,[.nilFunc]⟩,
 ⟨564,.other,1,8,false,[(.pointer none)]⟩,
 ⟨263,.other,1,8,false,[.nilFunc]⟩,
 ⟨272,.slice 277,1,24,false,[aN]⟩,
 ⟨387,.array 5 386,10,80,true,(List.replicate 10 aU)⟩,
 ⟨20,.other,1,16,false,[.nilIface]⟩,
 ⟨104,.slice 67,1,24,false,[aN]⟩,
 ⟨329,.other,1,8,false,[.nilFunc]⟩,
 ⟨425,.other,1,8,false,[.nilFunc]⟩,
 ⟨449,.other,1,8,false,[.nilFunc]⟩,
 ⟨479,.other,1,8,false,[.nilFunc]⟩,
 ⟨10,.str,1,16,false,[(.string ⟨#[]⟩)]⟩,
 ⟨452,.other,1,8,false,[.nilFunc]⟩,
 ⟨486,.other,1,8,false,[.nilFunc]⟩,
 ⟨12,.int .u64,1,8,false,[aU]⟩,
 ⟨190,.other,1,8,false,[.nilFunc]⟩,
 ⟨267,.other,1,8,false,[.nilFunc]⟩,
 ⟨358,.other,1,8,false,[.nilFunc]⟩,
 ⟨23,.other,1,8,false,[.nilFunc]⟩,
 ⟨76,.other,1,8,false,[.nilFunc]⟩,
 ⟨208,.other,1,8,false,[.nilFunc]⟩,
 ⟨302,.other,1,8,false,[(.pointer none)]⟩,
 ⟨376,.other,1,8,false,[.nilFunc]⟩,
 ⟨410,.slice 298,1,24,false,[aN]⟩,
 ⟨412,.other,1,8,false,[.nilFunc]⟩,
 ⟨427,.other,1,8,false,[.nilFunc]⟩,
 ⟨442,.other,1,8,false,[.nilFunc]⟩,
 ⟨488,.other,1,8,false,[.nilFunc]⟩,
 ⟨559,.other,1,8,false,[.nilFunc]⟩,
 ⟨64,.other,1,8,false,[.nilFunc]⟩,
 ⟨357,.other,1,8,false,[.nilFunc]⟩,
 ⟨450,.other,1,8,false,[.nilFunc]⟩,
 ⟨478,.other,1,8,false,[.nilFunc]⟩,
 ⟨521,.other,1,8,false,[.nilFunc]⟩,
 ⟨32,.struct [(0,22),(1,22),(2,22)],3,72,true,[aN,aN,aN]⟩]
theorem FN:Mj Tryz.prog [3,22,4,43,5,25,1,36,180,29,75,48,40,298,41,2,52,47,67,303,63,127,45,200,233,31,50,182,73,69,333,68,71,187,185,24,9,211,209,261,508,38,143,88,158,363,60,94,247,162,178,237,471,61,241,330,552,230,338,474,213,440,115,463,256,299,331,33,361,476,366,533,156,8,277,406,275,342,6,7,132,231,317,432,540,224,252,254,494,197,325,343,386,403,482,250,503,455,56,290,428,493,109,308,319,396,556,274,306,326,382,11,370,495,564,263,272,387,20,104,329,425,449,479,10,452,486,12,190,267,358,23,76,208,302,376,410,412,427,442,488,559,64,357,450,478,521,32]=Tab:=by kernel_rfl
theorem Tab_ok:TOk Tryz.prog Tab:=FN▸U7 _
theorem mixed:Tryz.prog.follows .mixedOrders=true:=by kernel_rfl
theorem aT{f:FuncId}{fn:Func}{args:List RV}{res:Res}{c:Code}(hf:Tryz.prog.funcs[f]?=some fn)(hb:fn.body=some c) (h:vO Tryz.prog Tab c (St.args args) (dy Tab fn.results res))(hk:(Nat.ble args.length fn.ntmps&&(xf fn.ntmps c&& !(fn.name== "runtime.NumGoroutine")))=true:=by kernel_rfl):zW Tryz.prog f args res:=zV (T:=Tab) mixed Tab_ok hf hb hk h
noncomputable abbrev aP:=Tryz.prog
abbrev aG:=@zW Tryz.prog
structure Leaf where
 box:cT
 sign:cT
 ident:cT
 src:UInt8
 parent:cT
 sig:cT
 deriving DecidableEq
structure Par where
 box:cT
 hash:cT
 late:List Int
 deriving DecidableEq
structure Node where
 kind:UInt8
 leaf:Leaf
 par:Par
 deriving DecidableEq
structure Spot where
 at_:Int
 node:Node
 deriving DecidableEq
structure Stub where
 at_:Int
 hash:cT
 deriving DecidableEq
structure Lean_ where
 leaves:Int
 own:Int
 opn:List Spot
 shut:List Stub
 deriving DecidableEq
abbrev I(n:Int):RV:= .i .i64 n
abbrev U8(c:UInt8):RV:= .i .u8 (c.toNat:Int)
abbrev Er(e:Nat):RV:= .i .u8 (e:Int)
def bs(l:cT):RV:= .sl 1 l.length (l.map U8)
def is(l:List Int):RV:= .sl 1 l.length (l.map I)
abbrev Leaf.c(l:Leaf):List RV:=[bs l.box,bs l.sign,bs l.ident,U8 l.src,bs l.parent,bs l.sig]
abbrev Par.c(p:Par):List RV:=[bs p.box,bs p.hash,is p.late]
abbrev Node.c(n:Node):List RV:=[U8 n.kind,bs n.leaf.box,bs n.leaf.sign,bs n.leaf.ident,U8 n.leaf.src,bs n.leaf.parent,bs n.leaf.sig,bs n.par.box,bs n.par.hash,is n.par.late]
abbrev Spot.c(s:Spot):List RV:=[I s.at_,U8 s.node.kind,bs s.node.leaf.box,bs s.node.leaf.sign,bs s.node.leaf.ident,U8 s.node.leaf.src,bs s.node.leaf.parent,bs s.node.leaf.sig,bs s.node.par.box,bs s.node.par.hash,is s.node.par.late]
abbrev Stub.c(s:Stub):List RV:=[I s.at_,bs s.hash]
def ZU(l:List Spot):RV:= .sl 11 l.length (l.flatMap Spot.c)
def Og(l:List Stub):RV:= .sl 2 l.length (l.flatMap Stub.c)
abbrev Lean_.c(s:Lean_):List RV:=[I s.leaves,I s.own,ZU s.opn,Og s.shut]
def i64(n:Int):Prop:= -9223372036854775808<=n/\n<=9223372036854775807
theorem xn{α:Type}{f:α->RV}{l:List α}{i:Int}{j:Nat}(h:i=j)(hj:j<l.length):((l.map f).drop (i.toNat*1)).take 1=[f l[j]]:=by
 subst h
 simp only[cF,cL]
 rw[cI (by simpa using hj)]
 simp
theorem Xx{α β:Type}{f:α->List β}{sz:Nat}(hf: ∀x,(f x).length=sz): ∀(l:List α) (j:Nat),(l.flatMap f).drop (j*sz)=(l.drop j).flatMap f
 |l,0=>by simp
 |[],j+1=>by simp
 |x::l,j+1=>by
  simp only[List.flatMap_cons,List.drop_succ_cons]
  rw[List.drop_append,hf,List.drop_eq_nil_of_le (by rw[hf,Nat.add_mul];omega),show(j+1)*sz-sz=j*sz by rw[Nat.add_mul];omega,Xx hf l j]
  simp
theorem uK{α β:Type}{f:α->List β}{sz:Nat}(hf: ∀x,(f x).length=sz){l:List α}{i:Int}{j:Nat}(h:i=j)(hj:j<l.length):((l.flatMap f).drop (i.toNat*sz)).take sz=f l[j]:=by
 subst h
 rw[cF,Xx hf,cI hj,List.flatMap_cons,List.take_append,hf,Nat.sub_self,List.take_zero,List.append_nil,bF (by rw[hf];omega)]
end Go.Proofs.YtkegaaonpekkgaaGreat.Sx
