import Derived.Test.YtamhdpombmegaaaGreatZSxO
import Derived.Deep.LoopGhost
import Derived.Test.YtamhdpombmegaaaGreatZSxP
import Derived.Test.YtamhdpombmegaaaGreatProg
namespace Go.Proofs.YtamhdpombmegaaaGreat.Sx
open Go.RowKit
section
section
variable {P:Program} {T:TT} {B:Bs} {N:Nat} {S:St} {a:Act} {w:World} {k:Kp} {g:Env} {o:Oper} {Q:Exit->Act->World->Prop}
def renv(ρ:List (Nat×Nat))(g:Env):Env:=λi=>match za3 ρ i with
 |some j=>g j
 |none=>g i
theorem zhh{ρ:List (Nat×Nat)}(hs:SatE B N S a w k g){f f':TF}{u:Value}(h:cvTF ρ S f f')(hf:f.at_ w k g u):f'.at_ w k (renv ρ g) u:=by
 cases f' with
 |r v=>
  unfold cvTF at h
  simp only at h
  split at h
  ·simp[TF.at_,RV.at_]
  ·split at h
   ·rename_i v' hv
    exact h w k u (zc4 hs hv hf)
   ·exact h.elim
 |own id=>
  simp only[cvTF]at h
  split at h
  ·rename_i j i hj
   subst h
   simp only[TF.at_,renv,hj]at*
   exact hf
  ·exact h.elim
 |adr id off=>
  simp only[cvTF]at h
  split at h
  ·rename_i j i o hj
   obtain⟨rfl,rfl⟩:=h
   simp only[TF.at_,renv,hj]at*
   exact hf
  ·exact h.elim
 |cut id off n=>
  simp only[cvTF]at h
  split at h
  ·rename_i j i o m hj
   obtain⟨rfl,rfl,rfl⟩:=h
   simp only[TF.at_,renv,hj]at*
   exact hf
  ·exact h.elim
 |nm id v=>
  simp only[cvTF]at h
  split at h
  ·rename_i j i u hj
   obtain⟨rfl,rfl⟩:=h
   simp only[TF.at_,renv,hj]at*
   exact hf
  ·exact h.elim
theorem zea{ρ:List (Nat×Nat)}(hs:SatE B N S a w k g): ∀{cs ds:List TF} {us:List Value},zb3 ρ S cs ds->AllAt (λf u=>u.oneCell'=true/\f.at_ w k g u) cs us->AllAt (λf u=>u.oneCell'=true/\f.at_ w k (renv ρ g) u) ds us
 |[],ds,us,h,hu=>by simp only[zb3]at h;subst h;exact⟨hu.1,λj f u hf=>by simp at hf⟩
 |f::cs,ds,us,h,hu=>by
  simp only[zb3]at h
  obtain⟨f',ds',rfl,h1,h2⟩:=h
  cases us with
  |nil=>have:=hu.1;simp at this
  |cons u us=>
   have h0:=hu.2 0 f u (by simp) (by simp)
   have ih:=zea hs h2 ⟨by simpa using hu.1,λj f u hf hv=>hu.2 (j+1) f u (by simpa using hf) (by simpa using hv)⟩
   refine⟨by simp[ih.1],λj f2 v hf hv=>?_⟩
   cases j with
   |zero=>simp at hf hv;subst hf;subst hv;exact⟨h0.1,zhh hs h1 h0.2⟩
   |succ j=>exact ih.2 j f2 v (by simpa using hf) (by simpa using hv)
theorem zdr{ρ:List (Nat×Nat)}: ∀{F:List (Nat×TF)} {t:Nat} {f:TF},zdh ρ S F->fget F t=some f->(∃f',fget S.F t=some f'/\cvTF ρ S f' f)/\(t,f)∈F
 |[],t,f,_,h=>by simp[fget]at h
 |(u,f0)::r,t,f,hok,h=>by
  simp only[zdh]at hok
  rcases zbf h with⟨rfl,rfl⟩ |⟨_,h⟩
  ·refine⟨?_,by simp⟩
   have:=hok.1
   split at this
   ·rename_i f' hf';exact⟨f',hf',this⟩
   ·exact this.elim
  ·have:=zdr hok.2 h
   exact⟨this.1,List.mem_cons_of_mem _ this.2⟩
theorem zb2{ρ:List (Nat×Nat)}: ∀{O:List (Nat×Option Ow)} {id:Nat} {o:Ow},zej ρ S O->oget O id=some o->(∃j o',za3 ρ id=some j/\oget S.O j=some o'/\cvOw ρ S o' o)/\(id,some o)∈O
 |[],id,o,_,h=>by simp[oget]at h
 |(u,o0)::r,id,o,hok,h=>by
  simp only[zej]at hok
  rcases zak h with⟨rfl,rfl⟩ |⟨_,h⟩
  ·refine⟨?_,by simp⟩
   have:=hok.1
   split at this
   ·rename_i o1 j he hj
    cases he
    split at this
    ·rename_i o' ho';exact⟨j,o',hj,ho',this⟩
    ·exact this.elim
   ·exact this.elim
  ·have:=zb2 hok.2 h
   exact⟨this.1,List.mem_cons_of_mem _ this.2⟩
theorem zi6{n:Nat}: ∀{f:TF},ltB n f=true->f.lt n
 | .r _,_=>trivial
 | .own id,h=>by simp[ltB,Nat.blt]at h;simp[TF.lt];omega
 | .adr id _,h=>by simp[ltB,Nat.blt]at h;simp[TF.lt];omega
 | .nm id _,h=>by simp[ltB,Nat.blt]at h;simp[TF.lt];omega
 | .cut id _ _,h=>by simp[ltB,Nat.blt]at h;simp[TF.lt];omega
theorem zj5{n:Nat}: ∀{o:Ow},zii n o=true->o.lt n
 | .box cells,h=>λf hf=>zi6 (by simp[zii]at h;exact h f hf)
 | .ch ..,_=>trivial
 | .gen _,_=>trivial
theorem zda: ∀{ρ:List (Nat×Nat)} {i j:Nat},za3 ρ i=some j->(i,j)∈ρ
 |[],i,j,h=>by simp[za3]at h
 |(u,f)::r,i,j,h=>by
  simp only[za3]at h
  split at h
  ·rename_i hb;cases h;rw[<-Nat.eq_of_beq_eq_true hb];simp
  ·exact List.mem_cons_of_mem _ (zda h)
theorem zc9: ∀{l:List Nat},zc8 l=true->l.Nodup
 |[],_=>List.nodup_nil
 |x::r,h=>by
  simp only[zc8,Bool.and_eq_true,Bool.not_eq_true',List.any_eq_false]at h
  refine List.nodup_cons.2 ⟨λhx=>?_,zc9 h.2⟩
  have:=h.1 x hx
  simp at this
theorem zgh: ∀{ρ:List (Nat×Nat)} {i i' j:Nat},(ρ.map (·.2)).Nodup->(i,j)∈ρ->(i',j)∈ρ->i=i'
 |[],_,_,_,_,m,_=>by cases m
 |x::r,i,i',j,hn,m,m'=>by
  simp only[List.map_cons,List.nodup_cons]at hn
  rcases List.mem_cons.1 m with e |m1
  ·rcases List.mem_cons.1 m' with e' |m1'
   ·rw[<-e]at e';cases e';rfl
   ·exact absurd (by rw[<-e];exact List.mem_map.2 ⟨(i',j),m1',rfl⟩) hn.1
  ·rcases List.mem_cons.1 m' with e' |m1'
   ·exact absurd (by rw[<-e'];exact List.mem_map.2 ⟨(i,j),m1,rfl⟩) hn.1
   ·exact zgh hn.2 m1 m1'
theorem zje{ρ:List (Nat×Nat)}(hn:(ρ.map (·.2)).Nodup){i i' j:Nat}(h:za3 ρ i=some j)(h':za3 ρ i'=some j):i=i':=
 zgh hn (zda h) (zda h')
theorem Cvs.length: ∀{cs ds:List RV},Cvs cs ds->ds.length=cs.length
 |[],ds,h=>by simp only[Cvs]at h;subst h;rfl
 |x::cs,ds,h=>by
  simp only[Cvs]at h
  obtain⟨g,r,rfl,_,h⟩:=h
  simp[Cvs.length h]
theorem zcr(ρ:List (Nat×Nat)){S S':St}(h0:stOk ρ S'=true)(h1:zdh ρ S S'.F)(h2:zej ρ S S'.O):Sub S S':=by
 intro B N a w k ⟨g,hs⟩
 simp only[stOk,Bool.and_eq_true,List.all_eq_true]at h0
 obtain⟨⟨⟨hF,hO⟩,hn2⟩,_⟩:=h0
 refine⟨k,renv ρ g,hs.size,hs.defers,hs.keep,hs.kk,λt f hf=>?_,λid o ho=>?_,λi j o o' b hi hj hne hbi hbj=>?_⟩
 ·obtain⟨⟨f',hf',hc⟩,hm⟩:=zdr h1 hf
  exact⟨zi6 (hF _ hm),zhh hs hc (hs.facts t f' hf').2⟩
 ·obtain⟨⟨j,o',hj,ho',hc⟩,hm⟩:=zb2 h2 ho
  have hlt:=hO _ hm
  obtain⟨q1,q2,q3,q4⟩:=hs.owns j o' ho'
  have hren:renv ρ g id=g j:=by simp[renv,hj]
  refine⟨by have:=hlt.1;simp[Nat.blt]at this;omega,zj5 hlt.2,?_,by rw[hren];exact q4⟩
  rw[hren]
  cases o' with
  |box cs=>
   cases o with
   |box ds=>
    simp only[Ow.at_]at q3⊢
    obtain⟨b,cur,t,e,hh,hk,hsz,hall⟩:=q3
    have hds:=zea (us:=cur.toList) hs hc ⟨by rw[Array.length_toList,hsz],λj f u hf hu=>hall j f u hf (by simpa using hu)⟩
    exact⟨b,cur,t,e,hh,hk,by rw[<-Array.length_toList,hds.1],λj f u hf hu=>hds.2 j f u hf (by simpa using hu)⟩
   |ch=>exact hc.elim
   |gen=>exact hc.elim
  |gen p=>
   cases o with
   |gen q=>exact hc w k _ q3
   |box=>exact hc.elim
   |ch=>exact hc.elim
  |ch e sz n cs pub=>
   cases o with
   |box=>exact hc.elim
   |gen=>exact hc.elim
   |ch e' sz' n' ds pub'=>
    obtain⟨rfl,rfl,rfl,rfl,hcs⟩:=hc
    simp only[Ow.at_]at q3⊢
    obtain⟨r1,r2⟩:=q3
    have hlen:ds.length=cs.length:=Cvs.length hcs
    refine⟨by rw[hlen];exact r1,?_⟩
    rcases r2 with⟨h0,r2 |⟨hn,hp,b,o,e,hm,hb,hc⟩⟩ |⟨b,cap,cur,e1,e2,hh,s1,s2,s3,s4,s5⟩
    ·exact .inl ⟨h0, .inl r2⟩
    ·exact .inl ⟨h0, .inr ⟨hn,hp,b,o,e,hm,hb,hcs.cells hc⟩⟩
    ·exact .inr ⟨b,cap,cur,e1,e2,hh,s1,s2,s3,s4,hcs.list s5⟩
 ·obtain⟨⟨i',oi,hi',hoi,_⟩,_⟩:=zb2 h2 hi
  obtain⟨⟨j',oj,hj',hoj,_⟩,_⟩:=zb2 h2 hj
  simp only[renv,hi']at hbi
  simp only[renv,hj']at hbj
  refine hs.apart i' j' oi oj b hoi hoj (λe=>?_) hbi hbj
  subst e
  exact hne (zje (zc9 hn2) hi' hj')
theorem zax(hm:P.follows .mixedOrders=true)(hT:TOk P T): ∀(c:Code) (S:St) (Q:Exit->St->Prop),vcg P T c S Q->zhc P c S Q
 | .skip,S,Q,h=>λB N a w k Q' hs _ hQ=>wp_skip (hQ _ S a w k h hs)
 | .region id ops draw,S,Q,h=>λB N a w k Q' hs hd hQ=>by
  have hN: ∀o∈ops.toList,∀d,o.dst=some d->d<N:=λo ho d hod=>by
   simp only[za2,List.all_eq_true]at hd
   have h1:=hd o ho
   simp only[hod]at h1
   exact Nat.le_of_ble_eq_true h1
  cases draw with
  |false=>
   simp only[vcg]at h
   split at h
   ·have:=zc3 (Q:=Q') hT hN (λ_ h=>h) hs h λS' a' w' k' hq hs'=>hQ _ S' a' w' k' hq hs'
    exact wp_region_list this
   ·exact h.out B N a w k Q' hs hd hQ
  |true=>
   simp only[vcg]at h
   split at h
   ·obtain⟨hok,h⟩ |h |h:=h
    ·exact zff hm hT hN hs hok h λS' a' w' k' hq hs'=>hQ _ S' a' w' k' hq hs'
    ·exact zgu hm hT hN hs h λS' a' w' k' hq hs'=>hQ _ S' a' w' k' hq hs'
    ·exact h.out B N a w k Q' hs hd hQ
   ·rename_i l d v hfree
    obtain⟨hok,h⟩ |h:=h
    case inr=>exact h.elim
    exact zfg hm hT hN hs hfree hok h λS' a' w' k' hq hs'=>hQ _ S' a' w' k' hq hs'
 | .seq x y,S,Q,h=>λB N a w k Q' hs hd hQ=>by
  simp only[za2,Bool.and_eq_true]at hd
  simp only[vcg]at h
  refine wp_seq (zax hm hT x S _ h B N a w k _ hs hd.1 λe S' a' w' k' hq hs'=>?_)
  cases e with
  |normal=>exact zax hm hT y S' Q hq B N a' w' k' Q' hs' hd.2 hQ
  |_=>exact hQ _ S' a' w' k' hq hs'
 | .cond c x y,S,Q,h=>λB N a w k Q' hs hd hQ=>by
  simp only[za2,Bool.and_eq_true]at hd
  simp only[vcg]at h
  split at h
  ·rename_i β hc
   obtain⟨g,hs'⟩:=hs
   have hev:=(zac hs' hc).2
   simp only[TF.at_,RV.at_]at hev
   refine wp_cond_split hev (λht=>?_) λhf=>?_
   ·exact zax hm hT x S Q (h.out.1 ht) B N a w k Q' ⟨g,hs'⟩ hd.1 hQ
   ·exact zax hm hT y S Q (h.out.2 hf) B N a w k Q' ⟨g,hs'⟩ hd.2 hQ
  ·exact h.elim
 | .block id c,S,Q,h=>λB N a w k Q' hs hd hQ=>by
  simp only[vcg]at h
  refine wp_block (zax hm hT c S _ h B N a w k _ hs hd λe S' a' w' k' hq hs'=>?_)
  cases e with
  |exit id'=>
   simp only[Exit.inBlock]
   simp only[ziq]at hq
   split at hq
   ·rename_i hb;rw[if_pos (Nat.eq_of_beq_eq_true hb)];exact hQ _ S' a' w' k' hq hs'
   ·rename_i hb;rw[if_neg (Nat.ne_of_beq_eq_false hb)];exact hQ _ S' a' w' k' hq hs'
  |_=>exact hQ _ S' a' w' k' hq hs'
 | .loop c,S,Q,h=>λB N a w k Q' hs hd hQ=>by
  simp only[vcg]at h
  obtain⟨⟨ι,inv,R,μ,⟨i0,hR0,hsub⟩,hround⟩ |h⟩:=h
  case inr=>exact h.out B N a w k Q' hs hd hQ
  obtain⟨k0,hs0⟩:=hsub B N a w k hs
  refine wp_loop_ghost (λn a w=>∃i k,R i/\μ i=n/\Sat B N (inv i) a w k) (μ i0) ⟨i0,k0,hR0,rfl,hs0⟩ ?_
  rintro n a' w' ⟨i,k',hR,rfl,hs'⟩
  rcases hround with hround |hround
  ·refine zax hm hT c (inv i) _ (hround i hR) B N a' w' k' _ hs' hd λe S' a2 w2 k2 hq hs2=>?_
   cases e with
   |normal=>
    obtain⟨i',hR',hlt,hsub'⟩:=hq
    obtain⟨k3,hs3⟩:=hsub' B N a2 w2 k2 hs2
    exact⟨μ i',hlt,i',k3,hR',rfl,hs3⟩
   |_=>exact hQ _ S' a2 w2 k2 hq hs2
  ·refine zax hm hT c (inv i) _ (hround i hR) B N a' w' k' _ hs' hd λe S' a2 w2 k2 hq hs2=>?_
   cases e with
   |normal=>
    obtain⟨i',hR',hlt,hsub'⟩:=hq
    obtain⟨k3,hs3⟩:=hsub' B N a2 w2 k2 hs2
    exact⟨μ i',hlt,i',k3,hR',rfl,hs3⟩
   |_=>
    obtain⟨S2,hsub2,hq⟩:=hq
    obtain⟨k3,hs3⟩:=hsub2 B N a2 w2 k2 hs2
    exact hQ _ S2 a2 w2 k3 hq hs3
 | .exit id,S,Q,h=>λB N a w k Q' hs _ hQ=>wp_exit (hQ _ S a w k h hs)
 | .ret,S,Q,h=>λB N a w k Q' hs _ hQ=>wp_ret (hQ _ S a w k h hs)
 | .label l,S,Q,h=>λB N a w k Q' hs _ hQ=>wp_label (hQ _ S a w k h hs)
 | .goto l,S,Q,h=>λB N a w k Q' hs _ hQ=>wp_goto (hQ _ S a w k h hs)
 | .scope c,S,Q,h=>h.out
 | .rangeFunc _ _ _ _,S,Q,h=>h.out
 | .refuse _,S,Q,h=>h.elim
theorem Vrounds.step(hm:P.follows .mixedOrders=true)(hT:TOk P T){c:Code}{n:Nat}{Q:Exit->St->Prop}(h:vcg P T c S (seqK (λS' Q=>Vrounds P c n S' Q) Q)):Vrounds P c (n+1) S Q:=
 ⟨λB N a w k Q' hs hd hQ=>zax hm hT c S _ h B N a w k _ hs hd λe S' a' w' k' hq hs'=>by
  cases e with
  |normal=>exact hq.out B N a' w' k' Q' hs' hd hQ
  |_=>exact hQ _ S' a' w' k' hq hs'⟩
end
section
variable {P:Program} {T:TT} {B:Bs} {N:Nat} {S:St} {a:Act} {w:World} {k:Kp} {g:Env}
theorem zey: ∀{l:List RV} {n t:Nat} {f:TF} {us:List Value},RV.partsAt w k l us->fget (zd7 n l) t=some f->∃v,f= .r v/\n<=t/\∃u,us[t-n]?=some u/\v.at_ w k u
 |[],_,_,_,_,_,h=>by simp[zd7,fget]at h
 |v::r,n,t,f,us,hp,h=>by
  simp only[RV.partsAt]at hp
  obtain⟨u,us',rfl,h1,h2⟩:=hp
  simp only[zd7]at h
  rcases zbf h with⟨rfl,rfl⟩ |⟨hne,h⟩
  ·exact⟨v,rfl,Nat.le_refl _,u,by simp,h1⟩
  ·obtain⟨v',e,hle,u',hu',h3⟩:=zey h2 h
   refine⟨v',e,by omega,u',?_,h3⟩
   rw[show t-n=(t-(n+1))+1 by omega]
   simpa using hu'
theorem zdt: ∀{l:List RV} {us:List Value},RV.partsAt w k l us->us.length=l.length
 |[],us,h=>by simp only[RV.partsAt]at h;subst h;rfl
 |v::r,us,h=>by
  simp only[RV.partsAt]at h
  obtain⟨u,us',rfl,_,h2⟩:=h
  simp[zdt h2]
theorem ze9{args:List RV}{vs:List Value}(hp:RV.partsAt w k args vs){n:Nat}(hn:args.length<=n):
  Sat ⟨w,k,[],[]⟩ n (St.args args) {tmps:=vs.toArray++Array.replicate (n-vs.toArray.size) undef,defers:=[]} w k:=by
 have hl:=zdt hp
 refine⟨λ_=>(undef,none),by simp;omega,rfl,⟨rfl,rfl,rfl,Nat.le_refl _,λ_ _ _=>rfl⟩,λ_ _ _=>rfl,λt f hf=>?_,λid o ho=>by simp[St.args,oget]at ho,λi j o o' b hi=>by simp[St.args,oget]at hi⟩
 obtain⟨v,rfl,_,u,hu,hat⟩:=zey hp hf
 rw[Nat.sub_zero]at hu
 refine⟨trivial,?_⟩
 have hlt:t<vs.length:=(List.getElem?_eq_some_iff.1 hu).1
 have:(vs.toArray++Array.replicate (n-vs.toArray.size) undef)[t]?=some u:=by
  rw[Array.getElem?_append_left (by simpa using hlt)]
  simpa using hu
 simp only[TF.at_,Array.getD_eq_getD_getElem?,this,Option.getD_some]
 exact hat
def zfl(tmps:Array Value)(x:ResultVar):Sem Value:=
 match x with
 | .tmp t=>pure (tmps.getD t undef)
 | .cell p t=>do loadVar t (<-asAddr (tmps.getD p undef))
theorem zem(fn:Func)(tmps:Array Value):results fn tmps=(do
  let vs<-fn.results.mapM (zfl tmps)
  pure (if h:vs.size=1 then vs[0]else .tuple vs)):=by
 unfold results
 congr 2
theorem zen(hT:TOk P T)(hs:SatE B N S a w k g){x:ResultVar}{K:TF->Prop}(h:resv T S x K):
  ∃f v,K f/\f.at_ w k g v/\(zfl a.tmps x).run P w= .ok v w:=by
 cases x with
 |tmp t=>
  simp only[resv]at h
  split at h
  ·rename_i f hf
   exact⟨f,_,h,(hs.facts t f hf).2,rfl⟩
  ·exact h.elim
 |cell p t=>
  simp only[resv]at h
  split at h
  ·rename_i f ti hf hti
   obtain⟨q,hq⟩:=hT.get hti
   obtain⟨f',v,hK,_,hat,hr⟩:=ze1 hs q hq (hs.facts p f hf).2 h
   refine⟨f',v,hK,hat,?_⟩
   cases hv:a.tmps.getD p undef with
   |pointer ad=>
    cases ad with
    |some ad=>rw[hv]at hr;simp only[Instr.loadAt,Instr.sureAddr,Sem.run_bind,Sem.run_pure,Result.andThen_ok]at hr;simp only[zfl,hv,asAddr,Sem.run_bind,Sem.run_pure,Result.andThen_ok];exact hr
    |none=>rw[hv]at hr;simp[Instr.loadAt,Instr.sureAddr]at hr
   |_=>rw[hv]at hr;simp[Instr.loadAt,Instr.sureAddr]at hr
  ·exact h.elim
theorem zdu(hT:TOk P T)(hs:SatE B N S a w k g): ∀{xs:List ResultVar} {K:List RV->Prop},zfk T S xs K->
  ∃rs vs,K rs/\RV.partsAt w k rs vs/\vs.length=xs.length/\(xs.mapM (zfl a.tmps)).run P w= .ok vs w
 |[],K,h=>⟨[],[],h,by simp[RV.partsAt],rfl,by simp⟩
 |x::r,K,h=>by
  simp only[zfk]at h
  obtain⟨f,v,h1,hat,hr⟩:=zen hT hs h
  split at h1
  ·rename_i rv hrv
   obtain⟨rs,vs,hK,hp,hlen,hr2⟩:=zdu hT hs h1
   refine⟨_,v::vs,hK,by simp only[RV.partsAt];exact⟨v,vs,rfl,zc4 hs hrv hat,hp⟩,by simp[hlen],?_⟩
   rw[List.mapM_cons,Sem.run_bind,hr]
   simp[hr2]
  ·exact h1.elim
theorem zgs(hT:TOk P T){fn:Func}{res:Res}{e:Exit}{S':St}{a':Act}{w':World}{k':Kp}(hq:finv T fn.results res e S')(hs':Sat ⟨w,k,[],[]⟩ N S' a' w' k'):
  bodyPost P fn (λe w'=>∃v,e=Ending.returned v/\Ext w w'/\∃k':Kp,(∀b,b<w.heap.size->k' b=k b)/\res.at_ w.heap.size w' k' v) e a' w':=by
 have fin:finv T fn.results res .ret S'->a'.defers=[]/\∃v,(results fn a'.tmps).run P w'= .ok v w'/\
   (λe w'=>∃v,e=Ending.returned v/\Ext w w'/\∃k':Kp,(∀b,b<w.heap.size->k' b=k b)/\res.at_ w.heap.size w' k' v) (.returned v) w':=by
  intro hq
  obtain⟨g,hs'⟩:=hs'
  have hext:Ext w w':=⟨hs'.keep.os,hs'.keep.tape,hs'.keep.output,hs'.keep.size,λb hb=>hs'.keep.block b hb (by simp)⟩
  have hkk: ∀b,b<w.heap.size->k' b=k b:=λb hb=>hs'.kk b hb (by simp)
  refine⟨hs'.defers,?_⟩
  simp only[finv]at hq
  unfold retv at hq
  split at hq
  ·rename_i x hx
   obtain⟨fr,v,hret,hat,hr⟩:=zen hT hs' hq
   refine⟨v,?_,v,rfl,hext,k',hkk,?_⟩
   ·have hx':fn.results= #[x]:=by apply Array.ext';simpa using hx
    rw[zem,hx',Array.mapM_eq_mapM_toList]
    simp only[Sem.run_bind,Sem.run_map,List.mapM_cons,List.mapM_nil,hr]
    simp
   ·unfold Vret at hret
    split at hret
    ·split at hret
     ·rename_i v' hv'
      exact hret w' k' v (zc4 hs' hv' hat)
     ·exact hret.elim
    ·split at hret
     ·rename_i e sz n cells id
      have ho:=hs'.owns id _ hret
      simp only[Ow.at_]at ho
      simp only[TF.at_]at hat
      subst hat
      refine⟨_,ho.2.2.1,λb hb=>?_⟩
      rcases(ho.2.2.2 b hb).1 with h |h
      ·exact h
      ·simp at h
     ·exact hret.elim
    ·split at hret
     ·rename_i e sz n cells id
      have ho:=hs'.owns id _ hret
      simp only[Ow.at_]at ho
      simp only[TF.at_]at hat
      subst hat
      refine⟨_,ho.2.2.1,λb hb=>?_⟩
      rcases(ho.2.2.2 b hb).1 with h |h
      ·exact h
      ·simp at h
     ·exact hret.elim
    ·split at hret
     ·rename_i cells id
      have ho:=hs'.owns id _ hret
      simp only[Ow.at_]at ho
      obtain⟨q1,q2,⟨b,cur,t,e,hh,hkb,hsz,hc⟩,q4⟩:=ho
      simp only[TF.at_]at hat
      rw[e]at hat q4
      refine⟨b,cur,t,hat,?_,hh,hkb,by simpa using hsz,λj f u hf hu=>?_⟩
      ·rcases(q4 b rfl).1 with h |h
       ·exact h
       ·simp at h
      ·exact hc j (.r f) u (by rw[List.getElem?_map,hf];rfl) hu
     ·exact hret.elim
  ·rename_i hxs
   obtain⟨rs,vs,⟨rv,rfl,hcv⟩,hp',hlen,hr⟩:=zdu hT hs' hq
   refine⟨.tuple vs.toArray,?_, .tuple vs.toArray,rfl,hext,k',hkk,?_⟩
   ·rw[zem,Array.mapM_eq_mapM_toList]
    simp only[Sem.run_bind,Sem.run_map,hr]
    have hne:vs.length≠1:=by
     intro he
     rw[hlen]at he
     obtain⟨x,hx⟩:=List.length_eq_one_iff.1 he
     exact hxs x hx
    simp[hne]
   ·exact hcv w' k' _ (by simp only[RV.at_];exact⟨vs.toArray,rfl,hp'⟩)
 cases e with
 |ret=>exact fin hq
 |normal=>exact fin hq
 |_=>exact hq.elim
theorem zlr{f:FuncId}{fn:Func}{args:List RV}{res:Res}{c:Code}(hm:P.follows .mixedOrders=true)(hT:TOk P T)(hf:P.funcs[f]?=some fn)(hb:fn.body=some c)
  (hk:(Nat.ble args.length fn.ntmps&&(za2 fn.ntmps c&& !(fn.name== "runtime.NumGoroutine")))=true)
  (h:vcg P T c (St.args args) λe S=>∃S',Sub S S'/\finv T fn.results res e S'):zah P f args res:=by
 simp only[Bool.and_eq_true,Nat.ble_eq,Bool.not_eq_true',beq_eq_false_iff_ne]at hk
 obtain⟨hn,hd,hname⟩:=hk
 refine⟨⟨fn,c,hf,hb,hname⟩,λw k vs hp=>?_⟩
 refine calls_of_wp hf hb ?_
 refine zax hm hT c _ _ h ⟨w,k,[],[]⟩ fn.ntmps _ w k _ (ze9 hp hn) hd λe S0 a' w' k0 ⟨S',hsub,hq⟩ hs0=>?_
 obtain⟨k',hs'⟩:=hsub _ _ _ _ _ hs0
 exact zgs hT hq hs'
theorem zad{f:FuncId}{fn:Func}{args:List RV}{res:Res}{c:Code}(hm:P.follows .mixedOrders=true)(hT:TOk P T)(hf:P.funcs[f]?=some fn)(hb:fn.body=some c)
  (hk:(Nat.ble args.length fn.ntmps&&(za2 fn.ntmps c&& !(fn.name== "runtime.NumGoroutine")))=true)
  (h:vcg P T c (St.args args) (finv T fn.results res)):zah P f args res:=by
 simp only[Bool.and_eq_true,Nat.ble_eq,Bool.not_eq_true',beq_eq_false_iff_ne]at hk
 obtain⟨hn,hd,hname⟩:=hk
 refine⟨⟨fn,c,hf,hb,hname⟩,λw k vs hp=>?_⟩
 refine calls_of_wp hf hb ?_
 refine zax hm hT c _ _ h ⟨w,k,[],[]⟩ fn.ntmps _ w k _ (ze9 hp hn) hd λe S' a' w' k' hq hs'=>?_
 exact zgs hT hq hs'
end
end
section
def Tab:TT:=[
 ⟨3, .int .i64,1,8,false,[(.int .i64 0)]⟩,
 ⟨4, .bool,1,1,false,[(.bool false)]⟩,
 ⟨22, .slice 5,1,24,false,[(.slice none 0 0)]⟩,
 ⟨41, .int .u64,1,8,false,[(.int .u64 0)]⟩,
 ⟨31, .int .u8,1,1,false,[(.int .u8 0)]⟩,
 ⟨5, .int .u8,1,1,false,[(.int .u8 0)]⟩,
 ⟨1, .other,1,8,false,[.nilFunc]⟩,
 ⟨277, .struct [(0,275)],5,40,true,[(.int .u64 0),(.int .u64 0),(.int .u64 0),(.int .u64 0),(.int .u64 0)]⟩,
 ⟨85, .slice 3,1,24,false,[(.slice none 0 0)]⟩,
 ⟨52, .struct [(0,3),(1,3),(2,49),(3,50)],4,64,true,[(.int .i64 0),(.int .i64 0),(.slice none 0 0),(.slice none 0 0)]⟩,
 ⟨50, .slice 165,1,24,false,[(.slice none 0 0)]⟩,
 ⟨46, .slice 179,1,24,false,[(.slice none 0 0)]⟩,
 ⟨49, .slice 122,1,24,false,[(.slice none 0 0)]⟩,
 ⟨24, .struct [(0,22),(1,22),(2,22),(3,5),(4,22),(5,22)],6,128,true,[(.slice none 0 0),(.slice none 0 0),(.slice none 0 0),(.int .u8 0),(.slice none 0 0),(.slice none 0 0)]⟩,
 ⟨267, .int .u32,1,4,false,[(.int .u32 0)]⟩,
 ⟨120, .struct [(0,5),(1,24),(7,118)],10,208,true,[(.int .u8 0),(.slice none 0 0),(.slice none 0 0),(.slice none 0 0),(.int .u8 0),(.slice none 0 0),(.slice none 0 0),(.slice none 0 0),(.slice none 0 0),(.slice none 0 0)]⟩,
 ⟨67, .struct [(0,22),(1,41),(2,3),(3,5),(4,28),(20,65),(29,22),(30,22),(31,22)],32,624,true,[(.slice none 0 0),(.int .u64 0),(.int .i64 0),(.int .u8 0),(.int .u8 0),(.slice none 0 0),(.slice none 0 0),(.slice none 0 0),(.slice none 0 0),(.int .u8 0),(.slice none 0 0),(.slice none 0 0),(.slice none 0 0),(.slice none 0 0),(.slice none 0 0),(.slice none 0 0),(.int .u8 0),(.slice none 0 0),(.slice none 0 0),(.int .i64 0),(.slice none 0 0),(.bool false),(.slice none 0 0),(.slice none 0 0),(.slice none 0 0),(.int .u8 0),(.slice none 0 0),(.slice none 0 0),(.slice none 0 0),(.slice none 0 0),(.slice none 0 0),(.slice none 0 0)]⟩,
 ⟨122, .struct [(0,3),(1,120)],11,216,true,[(.int .i64 0),(.int .u8 0),(.slice none 0 0),(.slice none 0 0),(.slice none 0 0),(.int .u8 0),(.slice none 0 0),(.slice none 0 0),(.slice none 0 0),(.slice none 0 0),(.slice none 0 0)]⟩,
 ⟨165, .struct [(0,3),(1,22)],2,32,true,[(.int .i64 0),(.slice none 0 0)]⟩,
 ⟨2, .int .i64,1,8,false,[(.int .i64 0)]⟩,
 ⟨56, .struct [(0,48),(20,52),(24,22),(25,53),(26,54)],27,584,true,[(.slice none 0 0),(.int .u64 0),(.slice none 0 0),(.slice none 0 0),(.int .i64 0),(.slice none 0 0),(.slice none 0 0),(.slice none 0 0),(.slice none 0 0),(.slice none 0 0),(.slice none 0 0),(.slice none 0 0),(.slice none 0 0),(.slice none 0 0),(.slice none 0 0),(.slice none 0 0),(.slice none 0 0),(.slice none 0 0),(.slice none 0 0),(.slice none 0 0),(.int .i64 0),(.int .i64 0),(.slice none 0 0),(.slice none 0 0),(.slice none 0 0),(.slice none 0 0),(.slice none 0 0)]⟩,
 ⟨181, .int .u64,1,8,false,[(.int .u64 0)]⟩,
 ⟨179, .struct [(0,3),(1,22)],2,32,true,[(.int .i64 0),(.slice none 0 0)]⟩,
 ⟨219, .struct [(0,3),(1,3),(2,156),(3,157)],4,32,true,[(.int .i64 0),(.int .i64 0),(.map none),(.map none)]⟩,
 ⟨48, .struct [(0,43),(4,3),(5,22),(6,22),(7,45),(19,46)],20,448,true,[(.slice none 0 0),(.int .u64 0),(.slice none 0 0),(.slice none 0 0),(.int .i64 0),(.slice none 0 0),(.slice none 0 0),(.slice none 0 0),(.slice none 0 0),(.slice none 0 0),(.slice none 0 0),(.slice none 0 0),(.slice none 0 0),(.slice none 0 0),(.slice none 0 0),(.slice none 0 0),(.slice none 0 0),(.slice none 0 0),(.slice none 0 0),(.slice none 0 0)]⟩,
 ⟨279, .struct [(0,277),(5,277),(10,277),(15,277),(20,4)],21,168,true,[(.int .u64 0),(.int .u64 0),(.int .u64 0),(.int .u64 0),(.int .u64 0),(.int .u64 0),(.int .u64 0),(.int .u64 0),(.int .u64 0),(.int .u64 0),(.int .u64 0),(.int .u64 0),(.int .u64 0),(.int .u64 0),(.int .u64 0),(.int .u64 0),(.int .u64 0),(.int .u64 0),(.int .u64 0),(.int .u64 0),(.bool false)]⟩,
 ⟨130, .slice 22,1,24,false,[(.slice none 0 0)]⟩,
 ⟨227, .other,1,8,false,[(.pointer none)]⟩,
 ⟨45, .struct [(0,22),(1,22),(2,22),(3,22),(4,22),(5,22),(6,22),(7,22),(8,22),(9,22),(10,22),(11,22)],12,288,true,(List.replicate 12 (.slice none 0 0))⟩,
 ⟨28, .struct [(0,5),(1,26),(9,24),(15,3)],16,320,true,[(.int .u8 0),(.slice none 0 0),(.slice none 0 0),(.slice none 0 0),(.slice none 0 0),(.int .u8 0),(.slice none 0 0),(.slice none 0 0),(.slice none 0 0),(.slice none 0 0),(.slice none 0 0),(.slice none 0 0),(.int .u8 0),(.slice none 0 0),(.slice none 0 0),(.int .i64 0)]⟩,
 ⟨43, .struct [(0,22),(1,41),(2,22),(3,22)],4,80,true,[(.slice none 0 0),(.int .u64 0),(.slice none 0 0),(.slice none 0 0)]⟩,
 ⟨30, .other,1,8,false,[(.pointer none)]⟩,
 ⟨271, .struct [(0,269)],4,32,true,[(.int .u64 0),(.int .u64 0),(.int .u64 0),(.int .u64 0)]⟩,
 ⟨269, .array 4 41,4,32,true,[(.int .u64 0),(.int .u64 0),(.int .u64 0),(.int .u64 0)]⟩,
 ⟨53, .slice 67,1,24,false,[(.slice none 0 0)]⟩,
 ⟨143, .other,1,8,false,[(.pointer none)]⟩,
 ⟨118, .struct [(0,22),(1,22),(2,85)],3,72,true,[(.slice none 0 0),(.slice none 0 0),(.slice none 0 0)]⟩,
 ⟨495, .struct [(0,41),(1,41)],2,16,true,[(.int .u64 0),(.int .u64 0)]⟩,
 ⟨156, .other,1,8,false,[(.map none)]⟩,
 ⟨65, .struct [(0,60),(1,4),(2,63)],9,184,true,[(.slice none 0 0),(.bool false),(.slice none 0 0),(.slice none 0 0),(.slice none 0 0),(.int .u8 0),(.slice none 0 0),(.slice none 0 0),(.slice none 0 0)]⟩,
 ⟨9, .str,1,16,false,[(.string ⟨#[]⟩)]⟩,
 ⟨54, .slice 78,1,24,false,[(.slice none 0 0)]⟩,
 ⟨159, .struct [(0,156),(1,157)],2,16,true,[(.map none),(.map none)]⟩,
 ⟨204, .struct [(0,22),(1,202)],2,48,true,[(.slice none 0 0),(.slice none 0 0)]⟩,
 ⟨63, .struct [(0,24),(6,61)],7,152,true,[(.slice none 0 0),(.slice none 0 0),(.slice none 0 0),(.int .u8 0),(.slice none 0 0),(.slice none 0 0),(.slice none 0 0)]⟩,
 ⟨275, .array 5 41,5,40,true,[(.int .u64 0),(.int .u64 0),(.int .u64 0),(.int .u64 0),(.int .u64 0)]⟩,
 ⟨61, .slice 204,1,24,false,[(.slice none 0 0)]⟩,
 ⟨454, .int .i64,1,8,false,[(.int .i64 0)]⟩,
 ⟨81, .other,1,8,false,[(.pointer none)]⟩,
 ⟨484, .int .u64,1,8,false,[(.int .u64 0)]⟩,
 ⟨202, .slice 217,1,24,false,[(.slice none 0 0)]⟩,
 ⟨26, .struct [(0,22),(1,24),(7,22)],8,176,true,[(.slice none 0 0),(.slice none 0 0),(.slice none 0 0),(.slice none 0 0),(.int .u8 0),(.slice none 0 0),(.slice none 0 0),(.slice none 0 0)]⟩,
 ⟨132, .struct [(0,52),(4,63),(11,46),(12,130),(13,22)],14,288,true,[(.int .i64 0),(.int .i64 0),(.slice none 0 0),(.slice none 0 0),(.slice none 0 0),(.slice none 0 0),(.slice none 0 0),(.int .u8 0),(.slice none 0 0),(.slice none 0 0),(.slice none 0 0),(.slice none 0 0),(.slice none 0 0),(.slice none 0 0)]⟩,
 ⟨449, .struct [(0,277),(5,277)],10,80,true,(List.replicate 10 (.int .u64 0))⟩,
 ⟨60, .slice 288,1,24,false,[(.slice none 0 0)]⟩,
 ⟨71, .struct [(0,56),(27,3),(28,3),(29,22),(30,22)],31,648,true,[(.slice none 0 0),(.int .u64 0),(.slice none 0 0),(.slice none 0 0),(.int .i64 0),(.slice none 0 0),(.slice none 0 0),(.slice none 0 0),(.slice none 0 0),(.slice none 0 0),(.slice none 0 0),(.slice none 0 0),(.slice none 0 0),(.slice none 0 0),(.slice none 0 0),(.slice none 0 0),(.slice none 0 0),(.slice none 0 0),(.slice none 0 0),(.slice none 0 0),(.int .i64 0),(.int .i64 0),(.slice none 0 0),(.slice none 0 0),(.slice none 0 0),(.slice none 0 0),(.slice none 0 0),(.int .i64 0),(.int .i64 0),(.slice none 0 0),(.slice none 0 0)]⟩,
 ⟨157, .other,1,8,false,[(.map none)]⟩,
 ⟨288, .struct [(0,22),(1,28)],17,344,true,[(.slice none 0 0),(.int .u8 0),(.slice none 0 0),(.slice none 0 0),(.slice none 0 0),(.slice none 0 0),(.int .u8 0),(.slice none 0 0),(.slice none 0 0),(.slice none 0 0),(.slice none 0 0),(.slice none 0 0),(.slice none 0 0),(.int .u8 0),(.slice none 0 0),(.slice none 0 0),(.int .i64 0)]⟩,
 ⟨432, .array 8 41,8,64,true,[(.int .u64 0),(.int .u64 0),(.int .u64 0),(.int .u64 0),(.int .u64 0),(.int .u64 0),(.int .u64 0),(.int .u64 0)]⟩,
 ⟨175, .other,1,8,false,[(.pointer none)]⟩,
 ⟨303, .other,1,8,false,[.nilFunc]⟩,
 ⟨413, .other,1,8,false,[.nilFunc]⟩,
 ⟨415, .other,1,8,false,[.nilFunc]⟩,
 ⟨100, .struct [(0,48),(20,98),(21,22),(22,53),(23,54)],24,544,true,[(.slice none 0 0),(.int .u64 0),(.slice none 0 0),(.slice none 0 0),(.int .i64 0),(.slice none 0 0),(.slice none 0 0),(.slice none 0 0),(.slice none 0 0),(.slice none 0 0),(.slice none 0 0),(.slice none 0 0),(.slice none 0 0),(.slice none 0 0),(.slice none 0 0),(.slice none 0 0),(.slice none 0 0),(.slice none 0 0),(.slice none 0 0),(.slice none 0 0),(.slice none 0 0),(.slice none 0 0),(.slice none 0 0),(.slice none 0 0)]⟩,
 ⟨197, .slice 201,1,24,false,[(.slice none 0 0)]⟩,
 ⟨420, .struct [(0,85),(1,49)],2,48,true,[(.slice none 0 0),(.slice none 0 0)]⟩,
 ⟨312, .array 8 267,8,32,true,[(.int .u32 0),(.int .u32 0),(.int .u32 0),(.int .u32 0),(.int .u32 0),(.int .u32 0),(.int .u32 0),(.int .u32 0)]⟩,
 ⟨335, .struct [(0,227),(1,52),(5,52)],9,136,true,[(.pointer none),(.int .i64 0),(.int .i64 0),(.slice none 0 0),(.slice none 0 0),(.int .i64 0),(.int .i64 0),(.slice none 0 0),(.slice none 0 0)]⟩,
 ⟨410, .other,1,8,false,[(.pointer none)]⟩,
 ⟨78, .struct [(0,22),(1,22)],2,48,true,[(.slice none 0 0),(.slice none 0 0)]⟩,
 ⟨434, .array 80 41,80,640,true,(List.replicate 80 (.int .u64 0))⟩,
 ⟨230, .struct [(0,227),(1,31)],2,16,true,[(.pointer none),(.int .u8 0)]⟩,
 ⟨217, .struct [(0,22),(1,22)],2,48,true,[(.slice none 0 0),(.slice none 0 0)]⟩,
 ⟨395, .struct [(0,9),(1,176)],2,24,true,[(.string ⟨#[]⟩),(.pointer none)]⟩,
 ⟨240, .slice 245,1,24,false,[(.slice none 0 0)]⟩,
 ⟨396, .array 64 267,64,256,true,(List.replicate 64 (.int .u32 0))⟩,
 ⟨245, .struct [(0,3),(1,28)],17,328,true,[(.int .i64 0),(.int .u8 0),(.slice none 0 0),(.slice none 0 0),(.slice none 0 0),(.slice none 0 0),(.int .u8 0),(.slice none 0 0),(.slice none 0 0),(.slice none 0 0),(.slice none 0 0),(.slice none 0 0),(.slice none 0 0),(.int .u8 0),(.slice none 0 0),(.slice none 0 0),(.int .i64 0)]⟩,
 ⟨347, .slice 41,1,24,false,[(.slice none 0 0)]⟩,
 ⟨129, .struct [(0,56),(27,22),(28,56)],55,1192,true,[(.slice none 0 0),(.int .u64 0),(.slice none 0 0),(.slice none 0 0),(.int .i64 0),(.slice none 0 0),(.slice none 0 0),(.slice none 0 0),(.slice none 0 0),(.slice none 0 0),(.slice none 0 0),(.slice none 0 0),(.slice none 0 0),(.slice none 0 0),(.slice none 0 0),(.slice none 0 0),(.slice none 0 0),(.slice none 0 0),(.slice none 0 0),(.slice none 0 0),(.int .i64 0),(.int .i64 0),(.slice none 0 0),(.slice none 0 0),(.slice none 0 0),(.slice none 0 0),(.slice none 0 0),(.slice none 0 0),(.slice none 0 0),(.int .u64 0),(.slice none 0 0),(.slice none 0 0),(.int .i64 0),(.slice none 0 0),(.slice none 0 0),(.slice none 0 0),(.slice none 0 0),(.slice none 0 0),(.slice none 0 0),(.slice none 0 0),(.slice none 0 0),(.slice none 0 0),(.slice none 0 0),(.slice none 0 0),(.slice none 0 0),(.slice none 0 0),(.slice none 0 0),(.slice none 0 0),(.int .i64 0),(.int .i64 0),(.slice none 0 0),(.slice none 0 0),(.slice none 0 0),(.slice none 0 0),(.slice none 0 0)]⟩,
 ⟨488, .other,1,8,false,[(.pointer none)]⟩,
 ⟨526, .array 256 5,256,256,true,(List.replicate 256 (.int .u8 0))⟩,
 ⟨39, .other,1,8,false,[.nilFunc]⟩,
 ⟨176, .other,1,8,false,[(.pointer none)]⟩,
 ⟨201, .struct [(0,3),(1,85),(2,22)],3,56,true,[(.int .i64 0),(.slice none 0 0),(.slice none 0 0)]⟩,
 ⟨211, .slice 24,1,24,false,[(.slice none 0 0)]⟩,
 ⟨464, .int .i64,1,8,false,[(.int .i64 0)]⟩,
 ⟨225, .array 32 5,32,32,true,(List.replicate 32 (.int .u8 0))⟩,
 ⟨441, .struct [(0,41),(1,41)],2,16,true,[(.int .u64 0),(.int .u64 0)]⟩,
 ⟨7, .struct [(0,2),(1,3),(2,4),(3,6)],4,24,true,[(.int .i64 0),(.int .i64 0),(.bool false),(.int .u8 0)]⟩,
 ⟨8, .struct [(0,2),(1,3),(2,4),(3,6)],4,24,true,[(.int .i64 0),(.int .i64 0),(.bool false),(.int .u8 0)]⟩,
 ⟨6, .int .u8,1,1,false,[(.int .u8 0)]⟩,
 ⟨385, .struct [(0,22),(1,22)],2,48,true,[(.slice none 0 0),(.slice none 0 0)]⟩,
 ⟨205, .slice 118,1,24,false,[(.slice none 0 0)]⟩,
 ⟨317, .struct [(0,22),(1,31)],2,32,true,[(.slice none 0 0),(.int .u8 0)]⟩,
 ⟨80, .other,1,8,false,[.nilFunc]⟩,
 ⟨98, .slice 120,1,24,false,[(.slice none 0 0)]⟩,
 ⟨377, .other,1,8,false,[.nilFunc]⟩,
 ⟨463, .other,1,8,false,[.nilFunc]⟩,
 ⟨350, .array 64 5,64,64,true,(List.replicate 64 (.int .u8 0))⟩,
 ⟨174, .other,1,8,false,[(.pointer none)]⟩,
 ⟨177, .slice 176,1,24,false,[(.slice none 0 0)]⟩,
 ⟨372, .slice 9,1,24,false,[(.slice none 0 0)]⟩,
 ⟨234, .other,1,8,false,[.nilFunc]⟩,
 ⟨466, .other,1,8,false,[.nilFunc]⟩,
 ⟨522, .other,1,8,false,[(.pointer none)]⟩,
 ⟨11, .str,1,16,false,[(.string ⟨#[]⟩)]⟩,
 ⟨145, .other,1,8,false,[.nilFunc]⟩,
 ⟨392, .slice 395,1,24,false,[(.slice none 0 0)]⟩,
 ⟨442, .array 5 441,10,80,true,(List.replicate 10 (.int .u64 0))⟩,
 ⟨10, .str,1,16,false,[(.string ⟨#[]⟩)]⟩,
 ⟨20, .other,1,16,false,[.nilIface]⟩,
 ⟨105, .other,1,8,false,[.nilFunc]⟩,
 ⟨418, .other,1,8,false,[.nilFunc]⟩,
 ⟨437, .other,1,8,false,[.nilFunc]⟩,
 ⟨311, .other,1,8,false,[(.pointer none)]⟩,
 ⟨367, .other,1,8,false,[.nilFunc]⟩,
 ⟨390, .other,1,8,false,[.nilFunc]⟩,
 ⟨191, .other,1,8,false,[.nilFunc]⟩,
 ⟨246, .other,1,8,false,[.nilFunc]⟩,
 ⟨289, .other,1,8,false,[.nilFunc]⟩,
 ⟨12, .int .u64,1,8,false,[(.int .u64 0)]⟩,
 ⟨29, .other,1,8,false,[.nilFunc]⟩,
 ⟨167, .other,1,8,false,[.nilFunc]⟩,
 ⟨305, .other,1,8,false,[.nilFunc]⟩,
 ⟨315, .other,1,8,false,[(.pointer none)]⟩,
 ⟨333, .other,1,8,false,[.nilFunc]⟩,
 ⟨369, .other,1,8,false,[.nilFunc]⟩,
 ⟨376, .other,1,8,false,[.nilFunc]⟩,
 ⟨400, .slice 267,1,24,false,[(.slice none 0 0)]⟩,
 ⟨491, .other,1,8,false,[.nilFunc]⟩,
 ⟨511, .other,1,8,false,[.nilFunc]⟩,
 ⟨513, .other,1,8,false,[.nilFunc]⟩,
 ⟨17, .other,1,8,false,[(.pointer none)]⟩,
 ⟨18, .struct [(0,17)],1,8,true,[(.pointer none)]⟩,
 ⟨436, .other,1,8,false,[.nilFunc]⟩,
 ⟨479, .other,1,8,false,[.nilFunc]⟩,
 ⟨535, .other,1,8,false,[.nilFunc]⟩,
 ⟨537, .other,1,8,false,[.nilFunc]⟩,
 ⟨64, .struct [(0,60),(1,4),(2,63)],9,184,true,[(.slice none 0 0),(.bool false),(.slice none 0 0),(.slice none 0 0),(.slice none 0 0),(.int .u8 0),(.slice none 0 0),(.slice none 0 0),(.slice none 0 0)]⟩,
 ⟨256, .other,1,8,false,[.nilFunc]⟩]
theorem zlt:mkT Tryz.prog [3,4,22,41,31,5,1,277,85,52,50,46,49,24,267,120,67,122,165,2,56,181,179,219,48,279,130,227,45,28,43,30,271,269,53,143,118,495,156,65,9,54,159,204,63,275,61,454,81,484,202,26,132,449,60,71,157,288,432,175,303,413,415,100,197,420,312,335,410,78,434,230,217,395,240,396,245,347,129,488,526,39,176,201,211,464,225,441,7,8,6,385,205,317,80,98,377,463,350,174,177,372,234,466,522,11,145,392,442,10,20,105,418,437,311,367,390,191,246,289,12,29,167,305,315,333,369,376,400,491,511,513,17,18,436,479,535,537,64,256]=Tab:=by kernel_rfl
theorem zaj:TOk Tryz.prog Tab:=zlt▸zgc _
theorem mixed:Tryz.prog.follows .mixedOrders=true:=by kernel_rfl
end
section
structure Leaf where
 box:List UInt8
 sign:List UInt8
 ident:List UInt8
 src:UInt8
 parent:List UInt8
 sig:List UInt8
 deriving DecidableEq
structure Par where
 box:List UInt8
 hash:List UInt8
 late:List Int
 deriving DecidableEq
structure Node where
 kind:UInt8
 leaf:Leaf
 par:Par
 deriving DecidableEq
structure Spot where
 at_:Int
 node:Node
 deriving DecidableEq
structure Stub where
 at_:Int
 hash:List UInt8
 deriving DecidableEq
structure Lean_ where
 leaves:Int
 own:Int
 opn:List Spot
 shut:List Stub
 deriving DecidableEq
abbrev I(n:Int):RV:= .i .i64 n
abbrev U8(c:UInt8):RV:= .i .u8 (c.toNat:Int)
abbrev Er(e:Nat):RV:= .i .u8 (e:Int)
def bs(l:List UInt8):RV:= .sl 1 l.length (l.map U8)
def is(l:List Int):RV:= .sl 1 l.length (l.map I)
abbrev Leaf.c(l:Leaf):List RV:=[bs l.box,bs l.sign,bs l.ident,U8 l.src,bs l.parent,bs l.sig]
abbrev Node.c(n:Node):List RV:=[U8 n.kind,bs n.leaf.box,bs n.leaf.sign,bs n.leaf.ident,U8 n.leaf.src,bs n.leaf.parent,bs n.leaf.sig,bs n.par.box,bs n.par.hash,is n.par.late]
abbrev Spot.c(s:Spot):List RV:=[I s.at_,U8 s.node.kind,bs s.node.leaf.box,bs s.node.leaf.sign,bs s.node.leaf.ident,U8 s.node.leaf.src,bs s.node.leaf.parent,bs s.node.leaf.sig,bs s.node.par.box,bs s.node.par.hash,is s.node.par.late]
abbrev Stub.c(s:Stub):List RV:=[I s.at_,bs s.hash]
def znr(l:List Spot):RV:= .sl 11 l.length (l.flatMap Spot.c)
def znt(l:List Stub):RV:= .sl 2 l.length (l.flatMap Stub.c)
abbrev Lean_.c(s:Lean_):List RV:=[I s.leaves,I s.own,znr s.opn,znt s.shut]
def i64(n:Int):Prop:= -9223372036854775808<=n/\n<=9223372036854775807
theorem zez{α β:Type}{f:α->List β}{sz:Nat}(hf: ∀x,(f x).length=sz): ∀(l:List α) (j:Nat),(l.flatMap f).drop (j*sz)=(l.drop j).flatMap f
 |l,0=>by simp
 |[],j+1=>by simp
 |x::l,j+1=>by
  simp only[List.flatMap_cons,List.drop_succ_cons]
  rw[List.drop_append,hf,List.drop_eq_nil_of_le (by rw[hf,Nat.add_mul];omega),show(j+1)*sz-sz=j*sz by rw[Nat.add_mul];omega,zez hf l j]
  simp
theorem zf2{α β:Type}{f:α->List β}{sz:Nat}(hf: ∀x,(f x).length=sz){l:List α}{i:Int}{j:Nat}(h:i=j)(hj:j<l.length):((l.flatMap f).drop (i.toNat*sz)).take sz=f l[j]:=by
 subst h
 rw[Int.toNat_natCast,zez hf,List.drop_eq_getElem_cons hj,List.flatMap_cons,List.take_append,hf,Nat.sub_self,List.take_zero,List.append_nil,List.take_of_length_le (by rw[hf];omega)]
end
end Go.Proofs.YtamhdpombmegaaaGreat.Sx
