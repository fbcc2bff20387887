import Derived.Test.YtlofklpckddkfaaGreatZSxO
import Derived.Deep.LoopGhost
import Derived.Test.YtlofklpckddkfaaGreatZSxP
import Derived.Test.YtlofklpckddkfaaGreatProg
namespace Go.Proofs.YtlofklpckddkfaaGreat.Sx
open Go.RowKit
section
section
variable {P:Program} {T:TT} {B:Bs} {N:Nat} {S:St} {a:Act} {w:World} {k:Kp} {g:Env} {o:Oper} {Q:Exit->Act->World->Prop}
def renv(ρ:List (Nat×Nat))(g:Env):Env:=λi=>match zbr ρ i with
 |some j=>g j
 |none=>g i
theorem znv{ρ:List (Nat×Nat)}(hs:SatE B N S a w k g){f f':TF}{u:Value}(h:cvTF ρ S f f')(hf:f.at_ w k g u):f'.at_ w k (renv ρ g) u:=by
 cases f' with
 |r v=>
  unfold cvTF at h
  simp only at h
  split at h
  ·simp[TF.at_,RV.at_]
  ·split at h
   ·rename_i v' hv
    exact h w k u (ze6 hs hv hf)
   ·exact h.elim
 |own id=>
  simp only[cvTF]at h
  split at h
  ·rename_i j i hj
   subst h
   simp only[TF.at_,renv,hj]at*
   exact hf
  ·exact h.elim
 |adr id off=>
  simp only[cvTF]at h
  split at h
  ·rename_i j i o hj
   obtain⟨rfl,rfl⟩:=h
   simp only[TF.at_,renv,hj]at*
   exact hf
  ·exact h.elim
 |cut id off n=>
  simp only[cvTF]at h
  split at h
  ·rename_i j i o m hj
   obtain⟨rfl,rfl,rfl⟩:=h
   simp only[TF.at_,renv,hj]at*
   exact hf
  ·exact h.elim
 |nm id v=>
  simp only[cvTF]at h
  split at h
  ·rename_i j i u hj
   obtain⟨rfl,rfl⟩:=h
   simp only[TF.at_,renv,hj]at*
   exact hf
  ·exact h.elim
theorem zh4{ρ:List (Nat×Nat)}(hs:SatE B N S a w k g): ∀{cs ds:List TF} {us:List Value},zeh ρ S cs ds->AllAt (λf u=>u.oneCell'=true/\f.at_ w k g u) cs us->AllAt (λf u=>u.oneCell'=true/\f.at_ w k (renv ρ g) u) ds us
 |[],ds,us,h,hu=>by simp only[zeh]at h;subst h;exact⟨hu.1,λj f u hf=>by simp at hf⟩
 |f::cs,ds,us,h,hu=>by
  simp only[zeh]at h
  obtain⟨f',ds',rfl,h1,h2⟩:=h
  cases us with
  |nil=>have:=hu.1;simp at this
  |cons u us=>
   have h0:=hu.2 0 f u (by simp) (by simp)
   have ih:=zh4 hs h2 ⟨by simpa using hu.1,λj f u hf hv=>hu.2 (j+1) f u (by simpa using hf) (by simpa using hv)⟩
   refine⟨by simp[ih.1],λj f2 v hf hv=>?_⟩
   cases j with
   |zero=>simp at hf hv;subst hf;subst hv;exact⟨h0.1,znv hs h1 h0.2⟩
   |succ j=>exact ih.2 j f2 v (by simpa using hf) (by simpa using hv)
theorem zk5{ρ:List (Nat×Nat)}: ∀{F:List (Nat×TF)} {t:Nat} {f:TF},zhn ρ S F->fget F t=some f->(∃f',fget S.F t=some f'/\cvTF ρ S f' f)/\(t,f)∈F
 |[],t,f,_,h=>by simp[fget]at h
 |(u,f0)::r,t,f,hok,h=>by
  simp only[zhn]at hok
  rcases zau h with⟨rfl,rfl⟩ |⟨_,h⟩
  ·refine⟨?_,by simp⟩
   have:=hok.1
   split at this
   ·rename_i f' hf';exact⟨f',hf',this⟩
   ·exact this.elim
  ·have:=zk5 hok.2 h
   exact⟨this.1,List.mem_cons_of_mem _ this.2⟩
theorem zcf{ρ:List (Nat×Nat)}: ∀{O:List (Nat×Option Ow)} {id:Nat} {o:Ow},zhu ρ S O->oget O id=some o->(∃j o',zbr ρ id=some j/\oget S.O j=some o'/\cvOw ρ S o' o)/\(id,some o)∈O
 |[],id,o,_,h=>by simp[oget]at h
 |(u,o0)::r,id,o,hok,h=>by
  simp only[zhu]at hok
  rcases zak h with⟨rfl,rfl⟩ |⟨_,h⟩
  ·refine⟨?_,by simp⟩
   have:=hok.1
   split at this
   ·rename_i o1 j he hj
    cases he
    split at this
    ·rename_i o' ho';exact⟨j,o',hj,ho',this⟩
    ·exact this.elim
   ·exact this.elim
  ·have:=zcf hok.2 h
   exact⟨this.1,List.mem_cons_of_mem _ this.2⟩
theorem zm2{n:Nat}: ∀{f:TF},ltB n f=true->f.lt n
 | .r _,_=>trivial
 | .own id,h=>by simp[ltB,Nat.blt]at h;simp[TF.lt];omega
 | .adr id _,h=>by simp[ltB,Nat.blt]at h;simp[TF.lt];omega
 | .nm id _,h=>by simp[ltB,Nat.blt]at h;simp[TF.lt];omega
 | .cut id _ _,h=>by simp[ltB,Nat.blt]at h;simp[TF.lt];omega
theorem zry{n:Nat}: ∀{o:Ow},zds n o=true->o.lt n
 | .box cells,h=>λf hf=>zm2 (by simp[zds]at h;exact h f hf)
 | .ch ..,_=>trivial
 | .gen _,_=>trivial
theorem zg7: ∀{ρ:List (Nat×Nat)} {i j:Nat},zbr ρ i=some j->(i,j)∈ρ
 |[],i,j,h=>by simp[zbr]at h
 |(u,f)::r,i,j,h=>by
  simp only[zbr]at h
  split at h
  ·rename_i hb;cases h;rw[<-Nat.eq_of_beq_eq_true hb];simp
  ·exact List.mem_cons_of_mem _ (zg7 h)
theorem zbv: ∀{l:List Nat},zd5 l=true->l.Nodup
 |[],_=>List.nodup_nil
 |x::r,h=>by
  simp only[zd5,Bool.and_eq_true,Bool.not_eq_true',List.any_eq_false]at h
  refine List.nodup_cons.2 ⟨λhx=>?_,zbv h.2⟩
  have:=h.1 x hx
  simp at this
theorem zrz: ∀{ρ:List (Nat×Nat)} {i i' j:Nat},(ρ.map (·.2)).Nodup->(i,j)∈ρ->(i',j)∈ρ->i=i'
 |[],_,_,_,_,m,_=>by cases m
 |x::r,i,i',j,hn,m,m'=>by
  simp only[List.map_cons,List.nodup_cons]at hn
  rcases List.mem_cons.1 m with e |m1
  ·rcases List.mem_cons.1 m' with e' |m1'
   ·rw[<-e]at e';cases e';rfl
   ·exact absurd (by rw[<-e];exact List.mem_map.2 ⟨(i',j),m1',rfl⟩) hn.1
  ·rcases List.mem_cons.1 m' with e' |m1'
   ·exact absurd (by rw[<-e'];exact List.mem_map.2 ⟨(i,j),m1,rfl⟩) hn.1
   ·exact zrz hn.2 m1 m1'
theorem zo9{ρ:List (Nat×Nat)}(hn:(ρ.map (·.2)).Nodup){i i' j:Nat}(h:zbr ρ i=some j)(h':zbr ρ i'=some j):i=i':=
 zrz hn (zg7 h) (zg7 h')
theorem Cvs.length: ∀{cs ds:List RV},Cvs cs ds->ds.length=cs.length
 |[],ds,h=>by simp only[Cvs]at h;subst h;rfl
 |x::cs,ds,h=>by
  simp only[Cvs]at h
  obtain⟨g,r,rfl,_,h⟩:=h
  simp[Cvs.length h]
theorem zad(ρ:List (Nat×Nat)){S S':St}(h0:stOk ρ S'=true)(h1:zhn ρ S S'.F)(h2:zhu ρ S S'.O):Sub S S':=by
 intro B N a w k ⟨g,hs⟩
 simp only[stOk,Bool.and_eq_true,List.all_eq_true]at h0
 obtain⟨⟨⟨hF,hO⟩,hn2⟩,_⟩:=h0
 refine⟨k,renv ρ g,hs.size,hs.defers,hs.keep,hs.kk,λt f hf=>?_,λid o ho=>?_,λi j o o' b hi hj hne hbi hbj=>?_⟩
 ·obtain⟨⟨f',hf',hc⟩,hm⟩:=zk5 h1 hf
  exact⟨zm2 (hF _ hm),znv hs hc (hs.facts t f' hf').2⟩
 ·obtain⟨⟨j,o',hj,ho',hc⟩,hm⟩:=zcf h2 ho
  have hlt:=hO _ hm
  obtain⟨q1,q2,q3,q4⟩:=hs.owns j o' ho'
  have hren:renv ρ g id=g j:=by simp[renv,hj]
  refine⟨by have:=hlt.1;simp[Nat.blt]at this;omega,zry hlt.2,?_,by rw[hren];exact q4⟩
  rw[hren]
  cases o' with
  |box cs=>
   cases o with
   |box ds=>
    simp only[Ow.at_]at q3⊢
    obtain⟨b,cur,t,e,hh,hk,hsz,hall⟩:=q3
    have hds:=zh4 (us:=cur.toList) hs hc ⟨by rw[Array.length_toList,hsz],λj f u hf hu=>hall j f u hf (by simpa using hu)⟩
    exact⟨b,cur,t,e,hh,hk,by rw[<-Array.length_toList,hds.1],λj f u hf hu=>hds.2 j f u hf (by simpa using hu)⟩
   |ch=>exact hc.elim
   |gen=>exact hc.elim
  |gen p=>
   cases o with
   |gen q=>exact hc w k _ q3
   |box=>exact hc.elim
   |ch=>exact hc.elim
  |ch e sz n cs pub=>
   cases o with
   |box=>exact hc.elim
   |gen=>exact hc.elim
   |ch e' sz' n' ds pub'=>
    obtain⟨rfl,rfl,rfl,rfl,hcs⟩:=hc
    simp only[Ow.at_]at q3⊢
    obtain⟨r1,r2⟩:=q3
    have hlen:ds.length=cs.length:=Cvs.length hcs
    refine⟨by rw[hlen];exact r1,?_⟩
    rcases r2 with⟨h0,r2 |⟨hn,hp,b,o,e,hm,hb,hc⟩⟩ |⟨b,cap,cur,e1,e2,hh,s1,s2,s3,s4,s5⟩
    ·exact .inl ⟨h0, .inl r2⟩
    ·exact .inl ⟨h0, .inr ⟨hn,hp,b,o,e,hm,hb,hcs.cells hc⟩⟩
    ·exact .inr ⟨b,cap,cur,e1,e2,hh,s1,s2,s3,s4,hcs.list s5⟩
 ·obtain⟨⟨i',oi,hi',hoi,_⟩,_⟩:=zcf h2 hi
  obtain⟨⟨j',oj,hj',hoj,_⟩,_⟩:=zcf h2 hj
  simp only[renv,hi']at hbi
  simp only[renv,hj']at hbj
  refine hs.apart i' j' oi oj b hoi hoj (λe=>?_) hbi hbj
  subst e
  exact hne (zo9 (zbv hn2) hi' hj')
theorem zap(hm:P.follows .mixedOrders=true)(hT:TOk P T): ∀(c:Code) (S:St) (Q:Exit->St->Prop),vcg P T c S Q->ztp P c S Q
 | .skip,S,Q,h=>λB N a w k Q' hs _ hQ=>wp_skip (hQ _ S a w k h hs)
 | .region id ops draw,S,Q,h=>λB N a w k Q' hs hd hQ=>by
  have hN: ∀o∈ops.toList,∀d,o.dst=some d->d<N:=λo ho d hod=>by
   simp only[zav,List.all_eq_true]at hd
   have h1:=hd o ho
   simp only[hod]at h1
   exact Nat.le_of_ble_eq_true h1
  cases draw with
  |false=>
   simp only[vcg]at h
   split at h
   ·have:=ze5 (Q:=Q') hT hN (λ_ h=>h) hs h λS' a' w' k' hq hs'=>hQ _ S' a' w' k' hq hs'
    exact wp_region_list this
   ·exact h.out B N a w k Q' hs hd hQ
  |true=>
   simp only[vcg]at h
   split at h
   ·obtain⟨hok,h⟩ |h |h:=h
    ·exact zps hm hT hN hs hok h λS' a' w' k' hq hs'=>hQ _ S' a' w' k' hq hs'
    ·exact zss hm hT hN hs h λS' a' w' k' hq hs'=>hQ _ S' a' w' k' hq hs'
    ·exact h.out B N a w k Q' hs hd hQ
   ·rename_i l d v hfree
    obtain⟨hok,h⟩ |h:=h
    case inr=>exact h.out B N a w k Q' hs hd hQ
    exact zpt hm hT hN hs hfree hok h λS' a' w' k' hq hs'=>hQ _ S' a' w' k' hq hs'
 | .seq x y,S,Q,h=>λB N a w k Q' hs hd hQ=>by
  simp only[zav,Bool.and_eq_true]at hd
  simp only[vcg]at h
  refine wp_seq (zap hm hT x S _ h B N a w k _ hs hd.1 λe S' a' w' k' hq hs'=>?_)
  cases e with
  |normal=>exact zap hm hT y S' Q hq B N a' w' k' Q' hs' hd.2 hQ
  |_=>exact hQ _ S' a' w' k' hq hs'
 | .cond c x y,S,Q,h=>λB N a w k Q' hs hd hQ=>by
  simp only[zav,Bool.and_eq_true]at hd
  simp only[vcg]at h
  split at h
  ·rename_i β hc
   obtain⟨g,hs'⟩:=hs
   have hev:=(zaf hs' hc).2
   simp only[TF.at_,RV.at_]at hev
   refine wp_cond_split hev (λht=>?_) λhf=>?_
   ·exact zap hm hT x S Q (h.out.1 ht) B N a w k Q' ⟨g,hs'⟩ hd.1 hQ
   ·exact zap hm hT y S Q (h.out.2 hf) B N a w k Q' ⟨g,hs'⟩ hd.2 hQ
  ·exact h.elim
 | .block id c,S,Q,h=>λB N a w k Q' hs hd hQ=>by
  simp only[vcg]at h
  refine wp_block (zap hm hT c S _ h B N a w k _ hs hd λe S' a' w' k' hq hs'=>?_)
  cases e with
  |exit id'=>
   simp only[Exit.inBlock]
   simp only[zw6]at hq
   split at hq
   ·rename_i hb;rw[if_pos (Nat.eq_of_beq_eq_true hb)];exact hQ _ S' a' w' k' hq hs'
   ·rename_i hb;rw[if_neg (Nat.ne_of_beq_eq_false hb)];exact hQ _ S' a' w' k' hq hs'
  |_=>exact hQ _ S' a' w' k' hq hs'
 | .loop c,S,Q,h=>λB N a w k Q' hs hd hQ=>by
  simp only[vcg]at h
  obtain⟨⟨ι,inv,R,μ,⟨i0,hR0,hsub⟩,hround⟩ |h⟩:=h
  case inr=>exact h.out B N a w k Q' hs hd hQ
  obtain⟨k0,hs0⟩:=hsub B N a w k hs
  refine wp_loop_ghost (λn a w=>∃i k,R i/\μ i=n/\Sat B N (inv i) a w k) (μ i0) ⟨i0,k0,hR0,rfl,hs0⟩ ?_
  rintro n a' w' ⟨i,k',hR,rfl,hs'⟩
  rcases hround with hround |hround
  ·refine zap hm hT c (inv i) _ (hround i hR) B N a' w' k' _ hs' hd λe S' a2 w2 k2 hq hs2=>?_
   cases e with
   |normal=>
    obtain⟨i',hR',hlt,hsub'⟩:=hq
    obtain⟨k3,hs3⟩:=hsub' B N a2 w2 k2 hs2
    exact⟨μ i',hlt,i',k3,hR',rfl,hs3⟩
   |_=>exact hQ _ S' a2 w2 k2 hq hs2
  ·refine zap hm hT c (inv i) _ (hround i hR) B N a' w' k' _ hs' hd λe S' a2 w2 k2 hq hs2=>?_
   cases e with
   |normal=>
    obtain⟨i',hR',hlt,hsub'⟩:=hq
    obtain⟨k3,hs3⟩:=hsub' B N a2 w2 k2 hs2
    exact⟨μ i',hlt,i',k3,hR',rfl,hs3⟩
   |_=>
    obtain⟨S2,hsub2,hq⟩:=hq
    obtain⟨k3,hs3⟩:=hsub2 B N a2 w2 k2 hs2
    exact hQ _ S2 a2 w2 k3 hq hs3
 | .exit id,S,Q,h=>λB N a w k Q' hs _ hQ=>wp_exit (hQ _ S a w k h hs)
 | .ret,S,Q,h=>λB N a w k Q' hs _ hQ=>wp_ret (hQ _ S a w k h hs)
 | .label l,S,Q,h=>λB N a w k Q' hs _ hQ=>wp_label (hQ _ S a w k h hs)
 | .goto l,S,Q,h=>λB N a w k Q' hs _ hQ=>wp_goto (hQ _ S a w k h hs)
 | .scope c,S,Q,h=>h.out
 | .rangeFunc _ _ _ _,S,Q,h=>h.out
 | .refuse _,S,Q,h=>h.elim
theorem Vrounds.step(hm:P.follows .mixedOrders=true)(hT:TOk P T){c:Code}{n:Nat}{Q:Exit->St->Prop}(h:vcg P T c S (seqK (λS' Q=>Vrounds P c n S' Q) Q)):Vrounds P c (n+1) S Q:=
 ⟨λB N a w k Q' hs hd hQ=>zap hm hT c S _ h B N a w k _ hs hd λe S' a' w' k' hq hs'=>by
  cases e with
  |normal=>exact hq.out B N a' w' k' Q' hs' hd hQ
  |_=>exact hQ _ S' a' w' k' hq hs'⟩
end
section
variable {P:Program} {T:TT} {B:Bs} {N:Nat} {S:St} {a:Act} {w:World} {k:Kp} {g:Env}
theorem zoi: ∀{l:List RV} {n t:Nat} {f:TF} {us:List Value},RV.partsAt w k l us->fget (zmb n l) t=some f->∃v,f= .r v/\n<=t/\∃u,us[t-n]?=some u/\v.at_ w k u
 |[],_,_,_,_,_,h=>by simp[zmb,fget]at h
 |v::r,n,t,f,us,hp,h=>by
  simp only[RV.partsAt]at hp
  obtain⟨u,us',rfl,h1,h2⟩:=hp
  simp only[zmb]at h
  rcases zau h with⟨rfl,rfl⟩ |⟨hne,h⟩
  ·exact⟨v,rfl,Nat.le_refl _,u,by simp,h1⟩
  ·obtain⟨v',e,hle,u',hu',h3⟩:=zoi h2 h
   refine⟨v',e,by omega,u',?_,h3⟩
   rw[show t-n=(t-(n+1))+1 by omega]
   simpa using hu'
theorem zld: ∀{l:List RV} {us:List Value},RV.partsAt w k l us->us.length=l.length
 |[],us,h=>by simp only[RV.partsAt]at h;subst h;rfl
 |v::r,us,h=>by
  simp only[RV.partsAt]at h
  obtain⟨u,us',rfl,_,h2⟩:=h
  simp[zld h2]
theorem zj2{args:List RV}{vs:List Value}(hp:RV.partsAt w k args vs){n:Nat}(hn:args.length<=n):
  Sat ⟨w,k,[],[]⟩ n (St.args args) {tmps:=vs.toArray++Array.replicate (n-vs.toArray.size) undef,defers:=[]} w k:=by
 have hl:=zld hp
 refine⟨λ_=>(undef,none),by simp;omega,rfl,⟨rfl,rfl,rfl,Nat.le_refl _,λ_ _ _=>rfl⟩,λ_ _ _=>rfl,λt f hf=>?_,λid o ho=>by simp[St.args,oget]at ho,λi j o o' b hi=>by simp[St.args,oget]at hi⟩
 obtain⟨v,rfl,_,u,hu,hat⟩:=zoi hp hf
 rw[Nat.sub_zero]at hu
 refine⟨trivial,?_⟩
 have hlt:t<vs.length:=(List.getElem?_eq_some_iff.1 hu).1
 have:(vs.toArray++Array.replicate (n-vs.toArray.size) undef)[t]?=some u:=by
  rw[Array.getElem?_append_left (by simpa using hlt)]
  simpa using hu
 simp only[TF.at_,Array.getD_eq_getD_getElem?,this,Option.getD_some]
 exact hat
def zku(tmps:Array Value)(x:ResultVar):Sem Value:=
 match x with
 | .tmp t=>pure (tmps.getD t undef)
 | .cell p t=>do loadVar t (<-asAddr (tmps.getD p undef))
theorem ze0(fn:Func)(tmps:Array Value):results fn tmps=(do
  let vs<-fn.results.mapM (zku tmps)
  pure (if h:vs.size=1 then vs[0]else .tuple vs)):=by
 unfold results
 congr 2
theorem zir(hT:TOk P T)(hs:SatE B N S a w k g){x:ResultVar}{K:TF->Prop}(h:resv T S x K):
  ∃f v,K f/\f.at_ w k g v/\(zku a.tmps x).run P w= .ok v w:=by
 cases x with
 |tmp t=>
  simp only[resv]at h
  split at h
  ·rename_i f hf
   exact⟨f,_,h,(hs.facts t f hf).2,rfl⟩
  ·exact h.elim
 |cell p t=>
  simp only[resv]at h
  split at h
  ·rename_i f ti hf hti
   obtain⟨q,hq⟩:=hT.get hti
   obtain⟨f',v,hK,_,hat,hr⟩:=zoy hs q hq (hs.facts p f hf).2 h
   refine⟨f',v,hK,hat,?_⟩
   cases hv:a.tmps.getD p undef with
   |pointer ad=>
    cases ad with
    |some ad=>rw[hv]at hr;simp only[Instr.loadAt,Instr.sureAddr,Sem.run_bind,Sem.run_pure,Result.andThen_ok]at hr;simp only[zku,hv,asAddr,Sem.run_bind,Sem.run_pure,Result.andThen_ok];exact hr
    |none=>rw[hv]at hr;simp[Instr.loadAt,Instr.sureAddr]at hr
   |_=>rw[hv]at hr;simp[Instr.loadAt,Instr.sureAddr]at hr
  ·exact h.elim
theorem zhf(hT:TOk P T)(hs:SatE B N S a w k g): ∀{xs:List ResultVar} {K:List RV->Prop},zm7 T S xs K->
  ∃rs vs,K rs/\RV.partsAt w k rs vs/\vs.length=xs.length/\(xs.mapM (zku a.tmps)).run P w= .ok vs w
 |[],K,h=>⟨[],[],h,by simp[RV.partsAt],rfl,by simp⟩
 |x::r,K,h=>by
  simp only[zm7]at h
  obtain⟨f,v,h1,hat,hr⟩:=zir hT hs h
  split at h1
  ·rename_i rv hrv
   obtain⟨rs,vs,hK,hp,hlen,hr2⟩:=zhf hT hs h1
   refine⟨_,v::vs,hK,by simp only[RV.partsAt];exact⟨v,vs,rfl,ze6 hs hrv hat,hp⟩,by simp[hlen],?_⟩
   rw[List.mapM_cons,Sem.run_bind,hr]
   simp[hr2]
  ·exact h1.elim
theorem zl8(hT:TOk P T){fn:Func}{res:Res}{e:Exit}{S':St}{a':Act}{w':World}{k':Kp}(hq:finv T fn.results res e S')(hs':Sat ⟨w,k,[],[]⟩ N S' a' w' k'):
  bodyPost P fn (λe w'=>∃v,e=Ending.returned v/\Ext w w'/\∃k':Kp,(∀b,b<w.heap.size->k' b=k b)/\res.at_ w.heap.size w' k' v) e a' w':=by
 have fin:finv T fn.results res .ret S'->a'.defers=[]/\∃v,(results fn a'.tmps).run P w'= .ok v w'/\
   (λe w'=>∃v,e=Ending.returned v/\Ext w w'/\∃k':Kp,(∀b,b<w.heap.size->k' b=k b)/\res.at_ w.heap.size w' k' v) (.returned v) w':=by
  intro hq
  obtain⟨g,hs'⟩:=hs'
  have hext:Ext w w':=⟨hs'.keep.os,hs'.keep.tape,hs'.keep.output,hs'.keep.size,λb hb=>hs'.keep.block b hb (by simp)⟩
  have hkk: ∀b,b<w.heap.size->k' b=k b:=λb hb=>hs'.kk b hb (by simp)
  refine⟨hs'.defers,?_⟩
  simp only[finv]at hq
  unfold retv at hq
  split at hq
  ·rename_i x hx
   obtain⟨fr,v,hret,hat,hr⟩:=zir hT hs' hq
   refine⟨v,?_,v,rfl,hext,k',hkk,?_⟩
   ·have hx':fn.results= #[x]:=by apply Array.ext';simpa using hx
    rw[ze0,hx',Array.mapM_eq_mapM_toList]
    simp only[Sem.run_bind,Sem.run_map,List.mapM_cons,List.mapM_nil,hr]
    simp
   ·unfold Vret at hret
    split at hret
    ·split at hret
     ·rename_i v' hv'
      exact hret w' k' v (ze6 hs' hv' hat)
     ·exact hret.elim
    ·split at hret
     ·rename_i e sz n cells id
      have ho:=hs'.owns id _ hret
      simp only[Ow.at_]at ho
      simp only[TF.at_]at hat
      subst hat
      refine⟨_,ho.2.2.1,λb hb=>?_⟩
      rcases(ho.2.2.2 b hb).1 with h |h
      ·exact h
      ·simp at h
     ·exact hret.elim
    ·split at hret
     ·rename_i e sz n cells id
      have ho:=hs'.owns id _ hret
      simp only[Ow.at_]at ho
      simp only[TF.at_]at hat
      subst hat
      refine⟨_,ho.2.2.1,λb hb=>?_⟩
      rcases(ho.2.2.2 b hb).1 with h |h
      ·exact h
      ·simp at h
     ·exact hret.elim
    ·split at hret
     ·rename_i cells id
      have ho:=hs'.owns id _ hret
      simp only[Ow.at_]at ho
      obtain⟨q1,q2,⟨b,cur,t,e,hh,hkb,hsz,hc⟩,q4⟩:=ho
      simp only[TF.at_]at hat
      rw[e]at hat q4
      refine⟨b,cur,t,hat,?_,hh,hkb,by simpa using hsz,λj f u hf hu=>?_⟩
      ·rcases(q4 b rfl).1 with h |h
       ·exact h
       ·simp at h
      ·exact hc j (.r f) u (by rw[List.getElem?_map,hf];rfl) hu
     ·exact hret.elim
  ·rename_i hxs
   obtain⟨rs,vs,⟨rv,rfl,hcv⟩,hp',hlen,hr⟩:=zhf hT hs' hq
   refine⟨.tuple vs.toArray,?_, .tuple vs.toArray,rfl,hext,k',hkk,?_⟩
   ·rw[ze0,Array.mapM_eq_mapM_toList]
    simp only[Sem.run_bind,Sem.run_map,hr]
    have hne:vs.length≠1:=by
     intro he
     rw[hlen]at he
     obtain⟨x,hx⟩:=List.length_eq_one_iff.1 he
     exact hxs x hx
    simp[hne]
   ·exact hcv w' k' _ (by simp only[RV.at_];exact⟨vs.toArray,rfl,hp'⟩)
 cases e with
 |ret=>exact fin hq
 |normal=>exact fin hq
 |_=>exact hq.elim
theorem zax{f:FuncId}{fn:Func}{args:List RV}{res:Res}{c:Code}(hm:P.follows .mixedOrders=true)(hT:TOk P T)(hf:P.funcs[f]?=some fn)(hb:fn.body=some c)
  (hk:(Nat.ble args.length fn.ntmps&&(zav fn.ntmps c&& !(fn.name== "runtime.NumGoroutine")))=true)
  (h:vcg P T c (St.args args) λe S=>∃S',Sub S S'/\finv T fn.results res e S'):zab P f args res:=by
 simp only[Bool.and_eq_true,Nat.ble_eq,Bool.not_eq_true',beq_eq_false_iff_ne]at hk
 obtain⟨hn,hd,hname⟩:=hk
 refine⟨⟨fn,c,hf,hb,hname⟩,λw k vs hp=>?_⟩
 refine calls_of_wp hf hb ?_
 refine zap hm hT c _ _ h ⟨w,k,[],[]⟩ fn.ntmps _ w k _ (zj2 hp hn) hd λe S0 a' w' k0 ⟨S',hsub,hq⟩ hs0=>?_
 obtain⟨k',hs'⟩:=hsub _ _ _ _ _ hs0
 exact zl8 hT hq hs'
theorem zaa{f:FuncId}{fn:Func}{args:List RV}{res:Res}{c:Code}(hm:P.follows .mixedOrders=true)(hT:TOk P T)(hf:P.funcs[f]?=some fn)(hb:fn.body=some c)
  (hk:(Nat.ble args.length fn.ntmps&&(zav fn.ntmps c&& !(fn.name== "runtime.NumGoroutine")))=true)
  (h:vcg P T c (St.args args) (finv T fn.results res)):zab P f args res:=by
 simp only[Bool.and_eq_true,Nat.ble_eq,Bool.not_eq_true',beq_eq_false_iff_ne]at hk
 obtain⟨hn,hd,hname⟩:=hk
 refine⟨⟨fn,c,hf,hb,hname⟩,λw k vs hp=>?_⟩
 refine calls_of_wp hf hb ?_
 refine zap hm hT c _ _ h ⟨w,k,[],[]⟩ fn.ntmps _ w k _ (zj2 hp hn) hd λe S' a' w' k' hq hs'=>?_
 exact zl8 hT hq hs'
end
end
section
def Tab:TT:=[
 ⟨3, .int .i64,1,8,false,[(.int .i64 0)]⟩,
 ⟨4, .bool,1,1,false,[(.bool false)]⟩,
 ⟨22, .slice 5,1,24,false,[(.slice none 0 0)]⟩,
 ⟨28, .int .u8,1,1,false,[(.int .u8 0)]⟩,
 ⟨23, .int .u64,1,8,false,[(.int .u64 0)]⟩,
 ⟨5, .int .u8,1,1,false,[(.int .u8 0)]⟩,
 ⟨1, .other,1,8,false,[.nilFunc]⟩,
 ⟨169, .slice 3,1,24,false,[(.slice none 0 0)]⟩,
 ⟨387, .struct [(0,385)],5,40,true,[(.int .u64 0),(.int .u64 0),(.int .u64 0),(.int .u64 0),(.int .u64 0)]⟩,
 ⟨39, .struct [(0,22),(1,22),(2,22),(3,5),(4,22),(5,22)],6,128,true,[(.slice none 0 0),(.slice none 0 0),(.slice none 0 0),(.int .u8 0),(.slice none 0 0),(.slice none 0 0)]⟩,
 ⟨61, .struct [(0,3),(1,3),(2,58),(3,59)],4,64,true,[(.int .i64 0),(.int .i64 0),(.slice none 0 0),(.slice none 0 0)]⟩,
 ⟨173, .struct [(0,5),(1,39),(7,171)],10,208,true,[(.int .u8 0),(.slice none 0 0),(.slice none 0 0),(.slice none 0 0),(.int .u8 0),(.slice none 0 0),(.slice none 0 0),(.slice none 0 0),(.slice none 0 0),(.slice none 0 0)]⟩,
 ⟨55, .slice 213,1,24,false,[(.slice none 0 0)]⟩,
 ⟨96, .struct [(0,22),(1,23),(2,3),(3,5),(4,43),(20,94),(29,22),(30,22),(31,22)],32,624,true,[(.slice none 0 0),(.int .u64 0),(.int .i64 0),(.int .u8 0),(.int .u8 0),(.slice none 0 0),(.slice none 0 0),(.slice none 0 0),(.slice none 0 0),(.int .u8 0),(.slice none 0 0),(.slice none 0 0),(.slice none 0 0),(.slice none 0 0),(.slice none 0 0),(.slice none 0 0),(.int .u8 0),(.slice none 0 0),(.slice none 0 0),(.int .i64 0),(.slice none 0 0),(.bool false),(.slice none 0 0),(.slice none 0 0),(.slice none 0 0),(.int .u8 0),(.slice none 0 0),(.slice none 0 0),(.slice none 0 0),(.slice none 0 0),(.slice none 0 0),(.slice none 0 0)]⟩,
 ⟨58, .slice 255,1,24,false,[(.slice none 0 0)]⟩,
 ⟨414, .int .u32,1,4,false,[(.int .u32 0)]⟩,
 ⟨73, .slice 173,1,24,false,[(.slice none 0 0)]⟩,
 ⟨59, .slice 258,1,24,false,[(.slice none 0 0)]⟩,
 ⟨2, .int .i64,1,8,false,[(.int .i64 0)]⟩,
 ⟨255, .struct [(0,3),(1,173)],11,216,true,[(.int .i64 0),(.int .u8 0),(.slice none 0 0),(.slice none 0 0),(.slice none 0 0),(.int .u8 0),(.slice none 0 0),(.slice none 0 0),(.slice none 0 0),(.slice none 0 0),(.slice none 0 0)]⟩,
 ⟨258, .struct [(0,3),(1,22)],2,32,true,[(.int .i64 0),(.slice none 0 0)]⟩,
 ⟨374, .int .u64,1,8,false,[(.int .u64 0)]⟩,
 ⟨213, .struct [(0,3),(1,22)],2,32,true,[(.int .i64 0),(.slice none 0 0)]⟩,
 ⟨157, .struct [(0,3),(1,3),(2,154),(3,155)],4,32,true,[(.int .i64 0),(.int .i64 0),(.map none),(.map none)]⟩,
 ⟨65, .struct [(0,57),(20,61),(24,22),(25,62),(26,63)],27,584,true,[(.slice none 0 0),(.int .u64 0),(.slice none 0 0),(.slice none 0 0),(.int .i64 0),(.slice none 0 0),(.slice none 0 0),(.slice none 0 0),(.slice none 0 0),(.slice none 0 0),(.slice none 0 0),(.slice none 0 0),(.slice none 0 0),(.slice none 0 0),(.slice none 0 0),(.slice none 0 0),(.slice none 0 0),(.slice none 0 0),(.slice none 0 0),(.slice none 0 0),(.int .i64 0),(.int .i64 0),(.slice none 0 0),(.slice none 0 0),(.slice none 0 0),(.slice none 0 0),(.slice none 0 0)]⟩,
 ⟨57, .struct [(0,35),(4,3),(5,22),(6,22),(7,54),(19,55)],20,448,true,[(.slice none 0 0),(.int .u64 0),(.slice none 0 0),(.slice none 0 0),(.int .i64 0),(.slice none 0 0),(.slice none 0 0),(.slice none 0 0),(.slice none 0 0),(.slice none 0 0),(.slice none 0 0),(.slice none 0 0),(.slice none 0 0),(.slice none 0 0),(.slice none 0 0),(.slice none 0 0),(.slice none 0 0),(.slice none 0 0),(.slice none 0 0),(.slice none 0 0)]⟩,
 ⟨113, .slice 22,1,24,false,[(.slice none 0 0)]⟩,
 ⟨35, .struct [(0,22),(1,23),(2,22),(3,22)],4,80,true,[(.slice none 0 0),(.int .u64 0),(.slice none 0 0),(.slice none 0 0)]⟩,
 ⟨389, .struct [(0,387),(5,387),(10,387),(15,387),(20,4)],21,168,true,[(.int .u64 0),(.int .u64 0),(.int .u64 0),(.int .u64 0),(.int .u64 0),(.int .u64 0),(.int .u64 0),(.int .u64 0),(.int .u64 0),(.int .u64 0),(.int .u64 0),(.int .u64 0),(.int .u64 0),(.int .u64 0),(.int .u64 0),(.int .u64 0),(.int .u64 0),(.int .u64 0),(.int .u64 0),(.int .u64 0),(.bool false)]⟩,
 ⟨43, .struct [(0,5),(1,41),(9,39),(15,3)],16,320,true,[(.int .u8 0),(.slice none 0 0),(.slice none 0 0),(.slice none 0 0),(.slice none 0 0),(.int .u8 0),(.slice none 0 0),(.slice none 0 0),(.slice none 0 0),(.slice none 0 0),(.slice none 0 0),(.slice none 0 0),(.int .u8 0),(.slice none 0 0),(.slice none 0 0),(.int .i64 0)]⟩,
 ⟨236, .other,1,8,false,[(.pointer none)]⟩,
 ⟨54, .struct [(0,22),(1,22),(2,22),(3,22),(4,22),(5,22),(6,22),(7,22),(8,22),(9,22),(10,22),(11,22)],12,288,true,(List.replicate 12 (.slice none 0 0))⟩,
 ⟨110, .struct [(0,57),(20,73),(21,22),(22,62),(23,63)],24,544,true,[(.slice none 0 0),(.int .u64 0),(.slice none 0 0),(.slice none 0 0),(.int .i64 0),(.slice none 0 0),(.slice none 0 0),(.slice none 0 0),(.slice none 0 0),(.slice none 0 0),(.slice none 0 0),(.slice none 0 0),(.slice none 0 0),(.slice none 0 0),(.slice none 0 0),(.slice none 0 0),(.slice none 0 0),(.slice none 0 0),(.slice none 0 0),(.slice none 0 0),(.slice none 0 0),(.slice none 0 0),(.slice none 0 0),(.slice none 0 0)]⟩,
 ⟨41, .struct [(0,22),(1,39),(7,22)],8,176,true,[(.slice none 0 0),(.slice none 0 0),(.slice none 0 0),(.slice none 0 0),(.int .u8 0),(.slice none 0 0),(.slice none 0 0),(.slice none 0 0)]⟩,
 ⟨394, .struct [(0,392)],4,32,true,[(.int .u64 0),(.int .u64 0),(.int .u64 0),(.int .u64 0)]⟩,
 ⟨392, .array 4 23,4,32,true,[(.int .u64 0),(.int .u64 0),(.int .u64 0),(.int .u64 0)]⟩,
 ⟨62, .slice 96,1,24,false,[(.slice none 0 0)]⟩,
 ⟨171, .struct [(0,22),(1,22),(2,169)],3,72,true,[(.slice none 0 0),(.slice none 0 0),(.slice none 0 0)]⟩,
 ⟨176, .other,1,8,false,[(.pointer none)]⟩,
 ⟨565, .struct [(0,23),(1,23)],2,16,true,[(.int .u64 0),(.int .u64 0)]⟩,
 ⟨94, .struct [(0,89),(1,4),(2,92)],9,184,true,[(.slice none 0 0),(.bool false),(.slice none 0 0),(.slice none 0 0),(.slice none 0 0),(.int .u8 0),(.slice none 0 0),(.slice none 0 0),(.slice none 0 0)]⟩,
 ⟨25, .other,1,8,false,[(.pointer none)]⟩,
 ⟨44, .other,1,8,false,[(.pointer none)]⟩,
 ⟨9, .str,1,16,false,[(.string ⟨#[]⟩)]⟩,
 ⟨92, .struct [(0,39),(6,90)],7,152,true,[(.slice none 0 0),(.slice none 0 0),(.slice none 0 0),(.int .u8 0),(.slice none 0 0),(.slice none 0 0),(.slice none 0 0)]⟩,
 ⟨90, .slice 216,1,24,false,[(.slice none 0 0)]⟩,
 ⟨63, .slice 127,1,24,false,[(.slice none 0 0)]⟩,
 ⟨216, .struct [(0,22),(1,214)],2,48,true,[(.slice none 0 0),(.slice none 0 0)]⟩,
 ⟨385, .array 5 23,5,40,true,[(.int .u64 0),(.int .u64 0),(.int .u64 0),(.int .u64 0),(.int .u64 0)]⟩,
 ⟨154, .other,1,8,false,[(.map none)]⟩,
 ⟨510, .int .i64,1,8,false,[(.int .i64 0)]⟩,
 ⟨214, .slice 229,1,24,false,[(.slice none 0 0)]⟩,
 ⟨243, .struct [(0,3),(1,43)],17,328,true,[(.int .i64 0),(.int .u8 0),(.slice none 0 0),(.slice none 0 0),(.slice none 0 0),(.slice none 0 0),(.int .u8 0),(.slice none 0 0),(.slice none 0 0),(.slice none 0 0),(.slice none 0 0),(.slice none 0 0),(.slice none 0 0),(.int .u8 0),(.slice none 0 0),(.slice none 0 0),(.int .i64 0)]⟩,
 ⟨554, .int .u64,1,8,false,[(.int .u64 0)]⟩,
 ⟨131, .struct [(0,61),(4,92),(11,55),(12,113),(13,22)],14,288,true,[(.int .i64 0),(.int .i64 0),(.slice none 0 0),(.slice none 0 0),(.slice none 0 0),(.slice none 0 0),(.slice none 0 0),(.int .u8 0),(.slice none 0 0),(.slice none 0 0),(.slice none 0 0),(.slice none 0 0),(.slice none 0 0),(.slice none 0 0)]⟩,
 ⟨551, .struct [(0,387),(5,387)],10,80,true,(List.replicate 10 (.int .u64 0))⟩,
 ⟨89, .slice 295,1,24,false,[(.slice none 0 0)]⟩,
 ⟨187, .struct [(0,73),(1,185),(2,169),(3,4)],4,80,true,[(.slice none 0 0),(.slice none 0 0),(.slice none 0 0),(.bool false)]⟩,
 ⟨207, .slice 211,1,24,false,[(.slice none 0 0)]⟩,
 ⟨76, .slice 75,1,24,false,[(.slice none 0 0)]⟩,
 ⟨155, .other,1,8,false,[(.map none)]⟩,
 ⟨295, .struct [(0,22),(1,43)],17,344,true,[(.slice none 0 0),(.int .u8 0),(.slice none 0 0),(.slice none 0 0),(.slice none 0 0),(.slice none 0 0),(.int .u8 0),(.slice none 0 0),(.slice none 0 0),(.slice none 0 0),(.slice none 0 0),(.slice none 0 0),(.slice none 0 0),(.int .u8 0),(.slice none 0 0),(.slice none 0 0),(.int .i64 0)]⟩,
 ⟨536, .array 8 23,8,64,true,[(.int .u64 0),(.int .u64 0),(.int .u64 0),(.int .u64 0),(.int .u64 0),(.int .u64 0),(.int .u64 0),(.int .u64 0)]⟩,
 ⟨182, .slice 243,1,24,false,[(.slice none 0 0)]⟩,
 ⟨322, .other,1,8,false,[.nilFunc]⟩,
 ⟨449, .other,1,8,false,[.nilFunc]⟩,
 ⟨451, .other,1,8,false,[.nilFunc]⟩,
 ⟨48, .other,1,8,false,[(.pointer none)]⟩,
 ⟨121, .struct [(0,65),(27,22),(28,65)],55,1192,true,[(.slice none 0 0),(.int .u64 0),(.slice none 0 0),(.slice none 0 0),(.int .i64 0),(.slice none 0 0),(.slice none 0 0),(.slice none 0 0),(.slice none 0 0),(.slice none 0 0),(.slice none 0 0),(.slice none 0 0),(.slice none 0 0),(.slice none 0 0),(.slice none 0 0),(.slice none 0 0),(.slice none 0 0),(.slice none 0 0),(.slice none 0 0),(.slice none 0 0),(.int .i64 0),(.int .i64 0),(.slice none 0 0),(.slice none 0 0),(.slice none 0 0),(.slice none 0 0),(.slice none 0 0),(.slice none 0 0),(.slice none 0 0),(.int .u64 0),(.slice none 0 0),(.slice none 0 0),(.int .i64 0),(.slice none 0 0),(.slice none 0 0),(.slice none 0 0),(.slice none 0 0),(.slice none 0 0),(.slice none 0 0),(.slice none 0 0),(.slice none 0 0),(.slice none 0 0),(.slice none 0 0),(.slice none 0 0),(.slice none 0 0),(.slice none 0 0),(.slice none 0 0),(.slice none 0 0),(.int .i64 0),(.int .i64 0),(.slice none 0 0),(.slice none 0 0),(.slice none 0 0),(.slice none 0 0),(.slice none 0 0)]⟩,
 ⟨455, .struct [(0,169),(1,58)],2,48,true,[(.slice none 0 0),(.slice none 0 0)]⟩,
 ⟨415, .array 8 414,8,32,true,[(.int .u32 0),(.int .u32 0),(.int .u32 0),(.int .u32 0),(.int .u32 0),(.int .u32 0),(.int .u32 0),(.int .u32 0)]⟩,
 ⟨354, .struct [(0,236),(1,61),(5,61)],9,136,true,[(.pointer none),(.int .i64 0),(.int .i64 0),(.slice none 0 0),(.slice none 0 0),(.int .i64 0),(.int .i64 0),(.slice none 0 0),(.slice none 0 0)]⟩,
 ⟨446, .other,1,8,false,[(.pointer none)]⟩,
 ⟨75, .struct [(0,35),(4,73)],5,104,true,[(.slice none 0 0),(.int .u64 0),(.slice none 0 0),(.slice none 0 0),(.slice none 0 0)]⟩,
 ⟨127, .struct [(0,22),(1,22)],2,48,true,[(.slice none 0 0),(.slice none 0 0)]⟩,
 ⟨538, .array 80 23,80,640,true,(List.replicate 80 (.int .u64 0))⟩,
 ⟨185, .slice 39,1,24,false,[(.slice none 0 0)]⟩,
 ⟨285, .struct [(0,236),(1,28)],2,16,true,[(.pointer none),(.int .u8 0)]⟩,
 ⟨78, .struct [(0,76),(1,22),(2,62)],3,72,true,[(.slice none 0 0),(.slice none 0 0),(.slice none 0 0)]⟩,
 ⟨229, .struct [(0,22),(1,22)],2,48,true,[(.slice none 0 0),(.slice none 0 0)]⟩,
 ⟨438, .struct [(0,9),(1,338)],2,24,true,[(.string ⟨#[]⟩),(.pointer none)]⟩,
 ⟨499, .array 64 414,64,256,true,(List.replicate 64 (.int .u32 0))⟩,
 ⟨211, .struct [(0,3),(1,169),(2,22)],3,56,true,[(.int .i64 0),(.slice none 0 0),(.slice none 0 0)]⟩,
 ⟨260, .struct [(0,22),(1,22),(2,22)],3,72,true,[(.slice none 0 0),(.slice none 0 0),(.slice none 0 0)]⟩,
 ⟨337, .other,1,8,false,[(.pointer none)]⟩,
 ⟨338, .other,1,8,false,[(.pointer none)]⟩,
 ⟨489, .slice 23,1,24,false,[(.slice none 0 0)]⟩,
 ⟨558, .other,1,8,false,[(.pointer none)]⟩,
 ⟨6, .int .u8,1,1,false,[(.int .u8 0)]⟩,
 ⟨403, .other,1,8,false,[(.map none)]⟩,
 ⟨588, .array 256 5,256,256,true,(List.replicate 256 (.int .u8 0))⟩,
 ⟨298, .other,1,8,false,[(.map none)]⟩,
 ⟨363, .int .i64,1,8,false,[(.int .i64 0)]⟩,
 ⟨7, .struct [(0,2),(1,3),(2,4),(3,6)],4,24,true,[(.int .i64 0),(.int .i64 0),(.bool false),(.int .u8 0)]⟩,
 ⟨68, .other,1,8,false,[(.pointer none)]⟩,
 ⟨217, .slice 171,1,24,false,[(.slice none 0 0)]⟩,
 ⟨306, .array 32 5,32,32,true,(List.replicate 32 (.int .u8 0))⟩,
 ⟨410, .other,1,8,false,[(.map none)]⟩,
 ⟨545, .struct [(0,23),(1,23)],2,16,true,[(.int .u64 0),(.int .u64 0)]⟩,
 ⟨8, .struct [(0,2),(1,3),(2,4),(3,6)],4,24,true,[(.int .i64 0),(.int .i64 0),(.bool false),(.int .u8 0)]⟩,
 ⟨431, .struct [(0,22),(1,22)],2,48,true,[(.slice none 0 0),(.slice none 0 0)]⟩,
 ⟨278, .other,1,8,false,[.nilFunc]⟩,
 ⟨341, .struct [(0,22),(1,28)],2,32,true,[(.slice none 0 0),(.int .u8 0)]⟩,
 ⟨339, .slice 338,1,24,false,[(.slice none 0 0)]⟩,
 ⟨270, .other,1,8,false,[.nilFunc]⟩,
 ⟨362, .other,1,8,false,[.nilFunc]⟩,
 ⟨129, .other,1,8,false,[.nilFunc]⟩,
 ⟨263, .other,1,8,false,[(.pointer none)]⟩,
 ⟨405, .other,1,8,false,[(.pointer none)]⟩,
 ⟨491, .array 64 5,64,64,true,(List.replicate 64 (.int .u8 0))⟩,
 ⟨111, .slice 48,1,24,false,[(.slice none 0 0)]⟩,
 ⟨115, .struct [(0,111),(1,112),(2,113),(3,113),(4,22),(5,22),(6,3)],7,152,true,[(.slice none 0 0),(.slice none 0 0),(.slice none 0 0),(.slice none 0 0),(.slice none 0 0),(.slice none 0 0),(.int .i64 0)]⟩,
 ⟨336, .other,1,8,false,[(.pointer none)]⟩,
 ⟨411, .array 2 410,2,16,true,[(.map none),(.map none)]⟩,
 ⟨507, .slice 9,1,24,false,[(.slice none 0 0)]⟩,
 ⟨151, .other,1,8,false,[.nilFunc]⟩,
 ⟨197, .struct [(0,110),(24,22),(25,110)],49,1112,true,[(.slice none 0 0),(.int .u64 0),(.slice none 0 0),(.slice none 0 0),(.int .i64 0),(.slice none 0 0),(.slice none 0 0),(.slice none 0 0),(.slice none 0 0),(.slice none 0 0),(.slice none 0 0),(.slice none 0 0),(.slice none 0 0),(.slice none 0 0),(.slice none 0 0),(.slice none 0 0),(.slice none 0 0),(.slice none 0 0),(.slice none 0 0),(.slice none 0 0),(.slice none 0 0),(.slice none 0 0),(.slice none 0 0),(.slice none 0 0),(.slice none 0 0),(.slice none 0 0),(.int .u64 0),(.slice none 0 0),(.slice none 0 0),(.int .i64 0),(.slice none 0 0),(.slice none 0 0),(.slice none 0 0),(.slice none 0 0),(.slice none 0 0),(.slice none 0 0),(.slice none 0 0),(.slice none 0 0),(.slice none 0 0),(.slice none 0 0),(.slice none 0 0),(.slice none 0 0),(.slice none 0 0),(.slice none 0 0),(.slice none 0 0),(.slice none 0 0),(.slice none 0 0),(.slice none 0 0),(.slice none 0 0)]⟩,
 ⟨288, .other,1,8,false,[.nilFunc]⟩,
 ⟨365, .other,1,8,false,[.nilFunc]⟩,
 ⟨584, .other,1,8,false,[(.pointer none)]⟩,
 ⟨11, .str,1,16,false,[(.string ⟨#[]⟩)]⟩,
 ⟨178, .other,1,8,false,[.nilFunc]⟩,
 ⟨435, .slice 438,1,24,false,[(.slice none 0 0)]⟩,
 ⟨546, .array 5 545,10,80,true,(List.replicate 10 (.int .u64 0))⟩,
 ⟨10, .str,1,16,false,[(.string ⟨#[]⟩)]⟩,
 ⟨20, .other,1,16,false,[.nilIface]⟩,
 ⟨267, .other,1,8,false,[.nilFunc]⟩,
 ⟨453, .other,1,8,false,[.nilFunc]⟩,
 ⟨541, .other,1,8,false,[.nilFunc]⟩,
 ⟨477, .other,1,8,false,[.nilFunc]⟩,
 ⟨12, .int .u64,1,8,false,[(.int .u64 0)]⟩,
 ⟨244, .other,1,8,false,[.nilFunc]⟩,
 ⟨313, .other,1,8,false,[.nilFunc]⟩,
 ⟨350, .other,1,8,false,[.nilFunc]⟩,
 ⟨24, .other,1,8,false,[.nilFunc]⟩,
 ⟨269, .other,1,8,false,[.nilFunc]⟩,
 ⟨281, .other,1,8,false,[.nilFunc]⟩,
 ⟨324, .other,1,8,false,[.nilFunc]⟩,
 ⟨352, .other,1,8,false,[.nilFunc]⟩,
 ⟨370, .other,1,8,false,[.nilFunc]⟩,
 ⟨372, .other,1,8,false,[.nilFunc]⟩,
 ⟨418, .other,1,8,false,[(.pointer none)]⟩,
 ⟨479, .other,1,8,false,[.nilFunc]⟩,
 ⟨503, .slice 414,1,24,false,[(.slice none 0 0)]⟩,
 ⟨561, .other,1,8,false,[.nilFunc]⟩,
 ⟨17, .other,1,8,false,[(.pointer none)]⟩,
 ⟨469, .other,1,8,false,[.nilFunc]⟩,
 ⟨471, .other,1,8,false,[.nilFunc]⟩,
 ⟨540, .other,1,8,false,[.nilFunc]⟩,
 ⟨581, .other,1,8,false,[.nilFunc]⟩,
 ⟨32, .other,1,8,false,[.nilFunc]⟩,
 ⟨64, .struct [(0,57),(20,61),(24,22),(25,62),(26,63)],27,584,true,[(.slice none 0 0),(.int .u64 0),(.slice none 0 0),(.slice none 0 0),(.int .i64 0),(.slice none 0 0),(.slice none 0 0),(.slice none 0 0),(.slice none 0 0),(.slice none 0 0),(.slice none 0 0),(.slice none 0 0),(.slice none 0 0),(.slice none 0 0),(.slice none 0 0),(.slice none 0 0),(.slice none 0 0),(.slice none 0 0),(.slice none 0 0),(.slice none 0 0),(.int .i64 0),(.int .i64 0),(.slice none 0 0),(.slice none 0 0),(.slice none 0 0),(.slice none 0 0),(.slice none 0 0)]⟩,
 ⟨112, .slice 620,1,24,false,[(.slice none 0 0)]⟩,
 ⟨256, .other,1,8,false,[.nilFunc]⟩,
 ⟨620, .struct [(0,41),(8,260)],11,248,true,[(.slice none 0 0),(.slice none 0 0),(.slice none 0 0),(.slice none 0 0),(.int .u8 0),(.slice none 0 0),(.slice none 0 0),(.slice none 0 0),(.slice none 0 0),(.slice none 0 0),(.slice none 0 0)]⟩]
theorem z6m:mkT Tryz.prog [3,4,22,28,23,5,1,169,387,39,61,173,55,96,58,414,73,59,2,255,258,374,213,157,65,57,113,35,389,43,236,54,110,41,394,392,62,171,176,565,94,25,44,9,92,90,63,216,385,154,510,214,243,554,131,551,89,187,207,76,155,295,536,182,322,449,451,48,121,455,415,354,446,75,127,538,185,285,78,229,438,499,211,260,337,338,489,558,6,403,588,298,363,7,68,217,306,410,545,8,431,278,341,339,270,362,129,263,405,491,111,115,336,411,507,151,197,288,365,584,11,178,435,546,10,20,267,453,541,477,12,244,313,350,24,269,281,324,352,370,372,418,479,503,561,17,469,471,540,581,32,64,112,256,620]=Tab:=by kernel_rfl
theorem Tab_ok:TOk Tryz.prog Tab:=z6m▸zrr _
theorem mixed:Tryz.prog.follows .mixedOrders=true:=by kernel_rfl
end
section
structure Leaf where
 box:List UInt8
 sign:List UInt8
 ident:List UInt8
 src:UInt8
 parent:List UInt8
 sig:List UInt8
 deriving DecidableEq
structure Par where
 box:List UInt8
 hash:List UInt8
 late:List Int
 deriving DecidableEq
structure Node where
 kind:UInt8
 leaf:Leaf
 par:Par
 deriving DecidableEq
structure Spot where
 at_:Int
 node:Node
 deriving DecidableEq
structure Stub where
 at_:Int
 hash:List UInt8
 deriving DecidableEq
structure Lean_ where
 leaves:Int
 own:Int
 opn:List Spot
 shut:List Stub
 deriving DecidableEq
abbrev I(n:Int):RV:= .i .i64 n
abbrev U8(c:UInt8):RV:= .i .u8 (c.toNat:Int)
abbrev Er(e:Nat):RV:= .i .u8 (e:Int)
def bs(l:List UInt8):RV:= .sl 1 l.length (l.map U8)
def is(l:List Int):RV:= .sl 1 l.length (l.map I)
abbrev Leaf.c(l:Leaf):List RV:=[bs l.box,bs l.sign,bs l.ident,U8 l.src,bs l.parent,bs l.sig]
abbrev Par.c(p:Par):List RV:=[bs p.box,bs p.hash,is p.late]
abbrev Node.c(n:Node):List RV:=[U8 n.kind,bs n.leaf.box,bs n.leaf.sign,bs n.leaf.ident,U8 n.leaf.src,bs n.leaf.parent,bs n.leaf.sig,bs n.par.box,bs n.par.hash,is n.par.late]
abbrev Spot.c(s:Spot):List RV:=[I s.at_,U8 s.node.kind,bs s.node.leaf.box,bs s.node.leaf.sign,bs s.node.leaf.ident,U8 s.node.leaf.src,bs s.node.leaf.parent,bs s.node.leaf.sig,bs s.node.par.box,bs s.node.par.hash,is s.node.par.late]
abbrev Stub.c(s:Stub):List RV:=[I s.at_,bs s.hash]
def zp3(l:List Spot):RV:= .sl 11 l.length (l.flatMap Spot.c)
def zp4(l:List Stub):RV:= .sl 2 l.length (l.flatMap Stub.c)
abbrev Lean_.c(s:Lean_):List RV:=[I s.leaves,I s.own,zp3 s.opn,zp4 s.shut]
def i64(n:Int):Prop:= -9223372036854775808<=n/\n<=9223372036854775807
theorem zcu{α:Type}{f:α->RV}{l:List α}{i:Int}{j:Nat}(h:i=j)(hj:j<l.length):((l.map f).drop (i.toNat*1)).take 1=[f l[j]]:=by
 subst h
 simp only[Int.toNat_natCast,Nat.mul_one]
 rw[List.drop_eq_getElem_cons (by simpa using hj)]
 simp
theorem zon{α β:Type}{f:α->List β}{sz:Nat}(hf: ∀x,(f x).length=sz): ∀(l:List α) (j:Nat),(l.flatMap f).drop (j*sz)=(l.drop j).flatMap f
 |l,0=>by simp
 |[],j+1=>by simp
 |x::l,j+1=>by
  simp only[List.flatMap_cons,List.drop_succ_cons]
  rw[List.drop_append,hf,List.drop_eq_nil_of_le (by rw[hf,Nat.add_mul];omega),show(j+1)*sz-sz=j*sz by rw[Nat.add_mul];omega,zon hf l j]
  simp
theorem zgq{α β:Type}{f:α->List β}{sz:Nat}(hf: ∀x,(f x).length=sz){l:List α}{i:Int}{j:Nat}(h:i=j)(hj:j<l.length):((l.flatMap f).drop (i.toNat*sz)).take sz=f l[j]:=by
 subst h
 rw[Int.toNat_natCast,zon hf,List.drop_eq_getElem_cons hj,List.flatMap_cons,List.take_append,hf,Nat.sub_self,List.take_zero,List.append_nil,List.take_of_length_le (by rw[hf];omega)]
end
end Go.Proofs.YtlofklpckddkfaaGreat.Sx
