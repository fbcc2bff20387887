import Derived.Test.YtpcfoglfakeimaaGreatZSxO
import Derived.Deep.LoopGhost
import Derived.Test.YtpcfoglfakeimaaGreatZSxP
import Derived.Test.YtpcfoglfakeimaaGreatProg
import Derived.ProofKit
import Derived.Deep.Slices
import Derived.Deep.Fields
import Derived.SizedLaws
namespace Go.Proofs.YtpcfoglfakeimaaGreat.Sx
open Go.RowKit
section
variable {P:Program} {T:TT} {B:Bs} {N:Nat} {S:St} {a:Act} {w:World} {k:Kp} {g:Env} {o:Oper} {Q:Exit->Act->World->Prop}
def renv(ρ:List (Nat×Nat))(g:Env):Env:=λi=>match zax ρ i with
 |some j=>g j
 |none=>g i
theorem znt{ρ:List (Nat×Nat)}(hs:SatE B N S a w k g){f f':TF}{u:Value}(h:cvTF ρ S f f')(hf:f.at_ w k g u):f'.at_ w k (renv ρ g) u:=by
 cases f' with
 |r v=>
  unfold cvTF at h
  simp only at h
  split at h
  ·simp[TF.at_,RV.at_]
  ·split at h
   ·rename_i v' hv
    exact h w k u (zdm hs hv hf)
   ·exact h.elim
 |own id=>
  simp only[cvTF]at h
  split at h
  ·rename_i j i hj
   subst h
   simp only[TF.at_,renv,hj]at*
   exact hf
  ·exact h.elim
 |adr id off=>
  simp only[cvTF]at h
  split at h
  ·rename_i j i o hj
   obtain⟨rfl,rfl⟩:=h
   simp only[TF.at_,renv,hj]at*
   exact hf
  ·exact h.elim
 |cut id off n=>
  simp only[cvTF]at h
  split at h
  ·rename_i j i o m hj
   obtain⟨rfl,rfl,rfl⟩:=h
   simp only[TF.at_,renv,hj]at*
   exact hf
  ·exact h.elim
 |nm id v=>
  simp only[cvTF]at h
  split at h
  ·rename_i j i u hj
   obtain⟨rfl,rfl⟩:=h
   simp only[TF.at_,renv,hj]at*
   exact hf
  ·exact h.elim
theorem zkw{ρ:List (Nat×Nat)}(hs:SatE B N S a w k g): ∀{cs ds:List TF} {us:List Value},ze1 ρ S cs ds->AllAt (λf u=>u.oneCell'=true/\f.at_ w k g u) cs us->AllAt (λf u=>u.oneCell'=true/\f.at_ w k (renv ρ g) u) ds us
 |[],ds,us,h,hu=>by simp only[ze1]at h;subst h;exact⟨hu.1,λj f u hf=>by simp at hf⟩
 |f::cs,ds,us,h,hu=>by
  simp only[ze1]at h
  obtain⟨f',ds',rfl,h1,h2⟩:=h
  cases us with
  |nil=>have:=hu.1;simp at this
  |cons u us=>
   have h0:=hu.2 0 f u (by simp) (by simp)
   have ih:=zkw hs h2 ⟨by simpa using hu.1,λj f u hf hv=>hu.2 (j+1) f u (by simpa using hf) (by simpa using hv)⟩
   refine⟨by simp[ih.1],λj f2 v hf hv=>?_⟩
   cases j with
   |zero=>simp at hf hv;subst hf;subst hv;exact⟨h0.1,znt hs h1 h0.2⟩
   |succ j=>exact ih.2 j f2 v (by simpa using hf) (by simpa using hv)
theorem zjo{ρ:List (Nat×Nat)}: ∀{F:List (Nat×TF)} {t:Nat} {f:TF},zh4 ρ S F->fget F t=some f->(∃f',fget S.F t=some f'/\cvTF ρ S f' f)/\(t,f)∈F
 |[],t,f,_,h=>by simp[fget]at h
 |(u,f0)::r,t,f,hok,h=>by
  simp only[zh4]at hok
  rcases za5 h with⟨rfl,rfl⟩ |⟨_,h⟩
  ·refine⟨?_,by simp⟩
   have:=hok.1
   split at this
   ·rename_i f' hf';exact⟨f',hf',this⟩
   ·exact this.elim
  ·have:=zjo hok.2 h
   exact⟨this.1,List.mem_cons_of_mem _ this.2⟩
theorem zcb{ρ:List (Nat×Nat)}: ∀{O:List (Nat×Option Ow)} {id:Nat} {o:Ow},zix ρ S O->oget O id=some o->(∃j o',zax ρ id=some j/\oget S.O j=some o'/\cvOw ρ S o' o)/\(id,some o)∈O
 |[],id,o,_,h=>by simp[oget]at h
 |(u,o0)::r,id,o,hok,h=>by
  simp only[zix]at hok
  rcases zal h with⟨rfl,rfl⟩ |⟨_,h⟩
  ·refine⟨?_,by simp⟩
   have:=hok.1
   split at this
   ·rename_i o1 j he hj
    cases he
    split at this
    ·rename_i o' ho';exact⟨j,o',hj,ho',this⟩
    ·exact this.elim
   ·exact this.elim
  ·have:=zcb hok.2 h
   exact⟨this.1,List.mem_cons_of_mem _ this.2⟩
theorem zm1{n:Nat}: ∀{f:TF},ltB n f=true->f.lt n
 | .r _,_=>trivial
 | .own id,h=>by simp[ltB,Nat.blt]at h;simp[TF.lt];omega
 | .adr id _,h=>by simp[ltB,Nat.blt]at h;simp[TF.lt];omega
 | .nm id _,h=>by simp[ltB,Nat.blt]at h;simp[TF.lt];omega
 | .cut id _ _,h=>by simp[ltB,Nat.blt]at h;simp[TF.lt];omega
theorem zpm{n:Nat}: ∀{o:Ow},zdl n o=true->o.lt n
 | .box cells,h=>λf hf=>zm1 (by simp[zdl]at h;exact h f hf)
 | .ch ..,_=>trivial
 | .gen _,_=>trivial
theorem zfv: ∀{ρ:List (Nat×Nat)} {i j:Nat},zax ρ i=some j->(i,j)∈ρ
 |[],i,j,h=>by simp[zax]at h
 |(u,f)::r,i,j,h=>by
  simp only[zax]at h
  split at h
  ·rename_i hb;cases h;rw[<-Nat.eq_of_beq_eq_true hb];simp
  ·exact List.mem_cons_of_mem _ (zfv h)
theorem zbn: ∀{l:List Nat},zeu l=true->l.Nodup
 |[],_=>List.nodup_nil
 |x::r,h=>by
  simp only[zeu,Bool.and_eq_true,Bool.not_eq_true',List.any_eq_false]at h
  refine List.nodup_cons.2 ⟨λhx=>?_,zbn h.2⟩
  have:=h.1 x hx
  simp at this
theorem zwz: ∀{ρ:List (Nat×Nat)} {i i' j:Nat},(ρ.map (·.2)).Nodup->(i,j)∈ρ->(i',j)∈ρ->i=i'
 |[],_,_,_,_,m,_=>by cases m
 |x::r,i,i',j,hn,m,m'=>by
  simp only[List.map_cons,List.nodup_cons]at hn
  rcases List.mem_cons.1 m with e |m1
  ·rcases List.mem_cons.1 m' with e' |m1'
   ·rw[<-e]at e';cases e';rfl
   ·exact absurd (by rw[<-e];exact List.mem_map.2 ⟨(i',j),m1',rfl⟩) hn.1
  ·rcases List.mem_cons.1 m' with e' |m1'
   ·exact absurd (by rw[<-e'];exact List.mem_map.2 ⟨(i,j),m1,rfl⟩) hn.1
   ·exact zwz hn.2 m1 m1'
theorem zna{ρ:List (Nat×Nat)}(hn:(ρ.map (·.2)).Nodup){i i' j:Nat}(h:zax ρ i=some j)(h':zax ρ i'=some j):i=i':=
 zwz hn (zfv h) (zfv h')
theorem Cvs.length: ∀{cs ds:List RV},Cvs cs ds->ds.length=cs.length
 |[],ds,h=>by simp only[Cvs]at h;subst h;rfl
 |x::cs,ds,h=>by
  simp only[Cvs]at h
  obtain⟨g,r,rfl,_,h⟩:=h
  simp[Cvs.length h]
theorem zac(ρ:List (Nat×Nat)){S S':St}(h0:stOk ρ S'=true)(h1:zh4 ρ S S'.F)(h2:zix ρ S S'.O):Sub S S':=by
 intro B N a w k ⟨g,hs⟩
 simp only[stOk,Bool.and_eq_true,List.all_eq_true]at h0
 obtain⟨⟨⟨hF,hO⟩,hn2⟩,_⟩:=h0
 refine⟨k,renv ρ g,hs.size,hs.defers,hs.keep,hs.kk,λt f hf=>?_,λid o ho=>?_,λi j o o' b hi hj hne hbi hbj=>?_⟩
 ·obtain⟨⟨f',hf',hc⟩,hm⟩:=zjo h1 hf
  exact⟨zm1 (hF _ hm),znt hs hc (hs.facts t f' hf').2⟩
 ·obtain⟨⟨j,o',hj,ho',hc⟩,hm⟩:=zcb h2 ho
  have hlt:=hO _ hm
  obtain⟨q1,q2,q3,q4⟩:=hs.owns j o' ho'
  have hren:renv ρ g id=g j:=by simp[renv,hj]
  refine⟨by have:=hlt.1;simp[Nat.blt]at this;omega,zpm hlt.2,?_,by rw[hren];exact q4⟩
  rw[hren]
  cases o' with
  |box cs=>
   cases o with
   |box ds=>
    simp only[Ow.at_]at q3⊢
    obtain⟨b,cur,t,e,hh,hk,hsz,hall⟩:=q3
    have hds:=zkw (us:=cur.toList) hs hc ⟨by rw[Array.length_toList,hsz],λj f u hf hu=>hall j f u hf (by simpa using hu)⟩
    exact⟨b,cur,t,e,hh,hk,by rw[<-Array.length_toList,hds.1],λj f u hf hu=>hds.2 j f u hf (by simpa using hu)⟩
   |ch=>exact hc.elim
   |gen=>exact hc.elim
  |gen p=>
   cases o with
   |gen q=>exact hc w k _ q3
   |box=>exact hc.elim
   |ch=>exact hc.elim
  |ch e sz n cs pub=>
   cases o with
   |box=>exact hc.elim
   |gen=>exact hc.elim
   |ch e' sz' n' ds pub'=>
    obtain⟨rfl,rfl,rfl,rfl,hcs⟩:=hc
    simp only[Ow.at_]at q3⊢
    obtain⟨r1,r2⟩:=q3
    have hlen:ds.length=cs.length:=Cvs.length hcs
    refine⟨by rw[hlen];exact r1,?_⟩
    rcases r2 with⟨h0,r2 |⟨hn,hp,b,o,e,hm,hb,hc⟩⟩ |⟨b,cap,cur,e1,e2,hh,s1,s2,s3,s4,s5⟩
    ·exact .inl ⟨h0, .inl r2⟩
    ·exact .inl ⟨h0, .inr ⟨hn,hp,b,o,e,hm,hb,hcs.cells hc⟩⟩
    ·exact .inr ⟨b,cap,cur,e1,e2,hh,s1,s2,s3,s4,hcs.list s5⟩
 ·obtain⟨⟨i',oi,hi',hoi,_⟩,_⟩:=zcb h2 hi
  obtain⟨⟨j',oj,hj',hoj,_⟩,_⟩:=zcb h2 hj
  simp only[renv,hi']at hbi
  simp only[renv,hj']at hbj
  refine hs.apart i' j' oi oj b hoi hoj (λe=>?_) hbi hbj
  subst e
  exact hne (zna (zbn hn2) hi' hj')
theorem zav(hm:P.follows .mixedOrders=true)(hT:TOk P T): ∀(c:Code) (S:St) (Q:Exit->St->Prop),vcg P T c S Q->zy5 P c S Q
 | .skip,S,Q,h=>λB N a w k Q' hs _ hQ=>wp_skip (hQ _ S a w k h hs)
 | .region id ops draw,S,Q,h=>λB N a w k Q' hs hd hQ=>by
  have hN: ∀o∈ops.toList,∀d,o.dst=some d->d<N:=λo ho d hod=>by
   simp only[zau,List.all_eq_true]at hd
   have h1:=hd o ho
   simp only[hod]at h1
   exact Nat.le_of_ble_eq_true h1
  cases draw with
  |false=>
   simp only[vcg]at h
   split at h
   ·have:=zgf (Q:=Q') hT hN (λ_ h=>h) hs h λS' a' w' k' hq hs'=>hQ _ S' a' w' k' hq hs'
    exact wp_region_list this
   ·exact h.out B N a w k Q' hs hd hQ
  |true=>
   simp only[vcg]at h
   split at h
   ·obtain⟨hok,h⟩ |h |h:=h
    ·exact zuo hm hT hN hs hok h λS' a' w' k' hq hs'=>hQ _ S' a' w' k' hq hs'
    ·exact zyc hm hT hN hs h λS' a' w' k' hq hs'=>hQ _ S' a' w' k' hq hs'
    ·exact h.out B N a w k Q' hs hd hQ
   ·rename_i l d v hfree
    obtain⟨hok,h⟩ |h:=h
    case inr=>exact h.out B N a w k Q' hs hd hQ
    exact zup hm hT hN hs hfree hok h λS' a' w' k' hq hs'=>hQ _ S' a' w' k' hq hs'
 | .seq x y,S,Q,h=>λB N a w k Q' hs hd hQ=>by
  simp only[zau,Bool.and_eq_true]at hd
  simp only[vcg]at h
  refine wp_seq (zav hm hT x S _ h B N a w k _ hs hd.1 λe S' a' w' k' hq hs'=>?_)
  cases e with
  |normal=>exact zav hm hT y S' Q hq B N a' w' k' Q' hs' hd.2 hQ
  |_=>exact hQ _ S' a' w' k' hq hs'
 | .cond c x y,S,Q,h=>λB N a w k Q' hs hd hQ=>by
  simp only[zau,Bool.and_eq_true]at hd
  simp only[vcg]at h
  split at h
  ·rename_i β hc
   obtain⟨g,hs'⟩:=hs
   have hev:=(zag hs' hc).2
   simp only[TF.at_,RV.at_]at hev
   refine wp_cond_split hev (λht=>?_) λhf=>?_
   ·exact zav hm hT x S Q (h.out.1 ht) B N a w k Q' ⟨g,hs'⟩ hd.1 hQ
   ·exact zav hm hT y S Q (h.out.2 hf) B N a w k Q' ⟨g,hs'⟩ hd.2 hQ
  ·exact h.elim
 | .block id c,S,Q,h=>λB N a w k Q' hs hd hQ=>by
  simp only[vcg]at h
  refine wp_block (zav hm hT c S _ h B N a w k _ hs hd λe S' a' w' k' hq hs'=>?_)
  cases e with
  |exit id'=>
   simp only[Exit.inBlock]
   simp only[zp3]at hq
   split at hq
   ·rename_i hb;rw[if_pos (Nat.eq_of_beq_eq_true hb)];exact hQ _ S' a' w' k' hq hs'
   ·rename_i hb;rw[if_neg (Nat.ne_of_beq_eq_false hb)];exact hQ _ S' a' w' k' hq hs'
  |_=>exact hQ _ S' a' w' k' hq hs'
 | .loop c,S,Q,h=>λB N a w k Q' hs hd hQ=>by
  simp only[vcg]at h
  obtain⟨⟨ι,inv,R,μ,⟨i0,hR0,hsub⟩,hround⟩ |h⟩:=h
  case inr=>exact h.out B N a w k Q' hs hd hQ
  obtain⟨k0,hs0⟩:=hsub B N a w k hs
  refine wp_loop_ghost (λn a w=>∃i k,R i/\μ i=n/\Sat B N (inv i) a w k) (μ i0) ⟨i0,k0,hR0,rfl,hs0⟩ ?_
  rintro n a' w' ⟨i,k',hR,rfl,hs'⟩
  rcases hround with hround |hround
  ·refine zav hm hT c (inv i) _ (hround i hR) B N a' w' k' _ hs' hd λe S' a2 w2 k2 hq hs2=>?_
   cases e with
   |normal=>
    obtain⟨i',hR',hlt,hsub'⟩:=hq
    obtain⟨k3,hs3⟩:=hsub' B N a2 w2 k2 hs2
    exact⟨μ i',hlt,i',k3,hR',rfl,hs3⟩
   |_=>exact hQ _ S' a2 w2 k2 hq hs2
  ·refine zav hm hT c (inv i) _ (hround i hR) B N a' w' k' _ hs' hd λe S' a2 w2 k2 hq hs2=>?_
   cases e with
   |normal=>
    obtain⟨i',hR',hlt,hsub'⟩:=hq
    obtain⟨k3,hs3⟩:=hsub' B N a2 w2 k2 hs2
    exact⟨μ i',hlt,i',k3,hR',rfl,hs3⟩
   |_=>
    obtain⟨S2,hsub2,hq⟩:=hq
    obtain⟨k3,hs3⟩:=hsub2 B N a2 w2 k2 hs2
    exact hQ _ S2 a2 w2 k3 hq hs3
 | .exit id,S,Q,h=>λB N a w k Q' hs _ hQ=>wp_exit (hQ _ S a w k h hs)
 | .ret,S,Q,h=>λB N a w k Q' hs _ hQ=>wp_ret (hQ _ S a w k h hs)
 | .label l,S,Q,h=>λB N a w k Q' hs _ hQ=>wp_label (hQ _ S a w k h hs)
 | .goto l,S,Q,h=>λB N a w k Q' hs _ hQ=>wp_goto (hQ _ S a w k h hs)
 | .scope c,S,Q,h=>h.out
 | .rangeFunc _ _ _ _,S,Q,h=>h.out
 | .refuse _,S,Q,h=>h.elim
theorem Vrounds.step(hm:P.follows .mixedOrders=true)(hT:TOk P T){c:Code}{n:Nat}{Q:Exit->St->Prop}(h:vcg P T c S (seqK (λS' Q=>Vrounds P c n S' Q) Q)):Vrounds P c (n+1) S Q:=
 ⟨λB N a w k Q' hs hd hQ=>zav hm hT c S _ h B N a w k _ hs hd λe S' a' w' k' hq hs'=>by
  cases e with
  |normal=>exact hq.out B N a' w' k' Q' hs' hd hQ
  |_=>exact hQ _ S' a' w' k' hq hs'⟩
end
section
variable {P:Program} {T:TT} {B:Bs} {N:Nat} {S:St} {a:Act} {w:World} {k:Kp} {g:Env}
theorem zsq: ∀{l:List RV} {n t:Nat} {f:TF} {us:List Value},RV.partsAt w k l us->fget (zp2 n l) t=some f->∃v,f= .r v/\n<=t/\∃u,us[t-n]?=some u/\v.at_ w k u
 |[],_,_,_,_,_,h=>by simp[zp2,fget]at h
 |v::r,n,t,f,us,hp,h=>by
  simp only[RV.partsAt]at hp
  obtain⟨u,us',rfl,h1,h2⟩:=hp
  simp only[zp2]at h
  rcases za5 h with⟨rfl,rfl⟩ |⟨hne,h⟩
  ·exact⟨v,rfl,Nat.le_refl _,u,by simp,h1⟩
  ·obtain⟨v',e,hle,u',hu',h3⟩:=zsq h2 h
   refine⟨v',e,by omega,u',?_,h3⟩
   rw[show t-n=(t-(n+1))+1 by omega]
   simpa using hu'
theorem zos: ∀{l:List RV} {us:List Value},RV.partsAt w k l us->us.length=l.length
 |[],us,h=>by simp only[RV.partsAt]at h;subst h;rfl
 |v::r,us,h=>by
  simp only[RV.partsAt]at h
  obtain⟨u,us',rfl,_,h2⟩:=h
  simp[zos h2]
theorem zho{args:List RV}{vs:List Value}(hp:RV.partsAt w k args vs){n:Nat}(hn:args.length<=n):
  Sat ⟨w,k,[],[]⟩ n (St.args args) {tmps:=vs.toArray++Array.replicate (n-vs.toArray.size) undef,defers:=[]} w k:=by
 have hl:=zos hp
 refine⟨λ_=>(undef,none),by simp;omega,rfl,⟨rfl,rfl,rfl,Nat.le_refl _,λ_ _ _=>rfl⟩,λ_ _ _=>rfl,λt f hf=>?_,λid o ho=>by simp[St.args,oget]at ho,λi j o o' b hi=>by simp[St.args,oget]at hi⟩
 obtain⟨v,rfl,_,u,hu,hat⟩:=zsq hp hf
 rw[Nat.sub_zero]at hu
 refine⟨trivial,?_⟩
 have hlt:t<vs.length:=(List.getElem?_eq_some_iff.1 hu).1
 have:(vs.toArray++Array.replicate (n-vs.toArray.size) undef)[t]?=some u:=by
  rw[Array.getElem?_append_left (by simpa using hlt)]
  simpa using hu
 simp only[TF.at_,Array.getD_eq_getD_getElem?,this,Option.getD_some]
 exact hat
def zu0(tmps:Array Value)(x:ResultVar):Sem Value:=
 match x with
 | .tmp t=>pure (tmps.getD t undef)
 | .cell p t=>do loadVar t (<-asAddr (tmps.getD p undef))
theorem zh0(fn:Func)(tmps:Array Value):results fn tmps=(do
  let vs<-fn.results.mapM (zu0 tmps)
  pure (if h:vs.size=1 then vs[0]else .tuple vs)):=by
 unfold results
 congr 2
theorem zln(hT:TOk P T)(hs:SatE B N S a w k g){x:ResultVar}{K:TF->Prop}(h:resv T S x K):
  ∃f v,K f/\f.at_ w k g v/\(zu0 a.tmps x).run P w= .ok v w:=by
 cases x with
 |tmp t=>
  simp only[resv]at h
  split at h
  ·rename_i f hf
   exact⟨f,_,h,(hs.facts t f hf).2,rfl⟩
  ·exact h.elim
 |cell p t=>
  simp only[resv]at h
  split at h
  ·rename_i f ti hf hti
   obtain⟨q,hq⟩:=hT.get hti
   obtain⟨f',v,hK,_,hat,hr⟩:=ztk hs q hq (hs.facts p f hf).2 h
   refine⟨f',v,hK,hat,?_⟩
   cases hv:a.tmps.getD p undef with
   |pointer ad=>
    cases ad with
    |some ad=>rw[hv]at hr;simp only[Instr.loadAt,Instr.sureAddr,Sem.run_bind,Sem.run_pure,Result.andThen_ok]at hr;simp only[zu0,hv,asAddr,Sem.run_bind,Sem.run_pure,Result.andThen_ok];exact hr
    |none=>rw[hv]at hr;simp[Instr.loadAt,Instr.sureAddr]at hr
   |_=>rw[hv]at hr;simp[Instr.loadAt,Instr.sureAddr]at hr
  ·exact h.elim
theorem zjs(hT:TOk P T)(hs:SatE B N S a w k g): ∀{xs:List ResultVar} {K:List RV->Prop},zq8 T S xs K->
  ∃rs vs,K rs/\RV.partsAt w k rs vs/\vs.length=xs.length/\(xs.mapM (zu0 a.tmps)).run P w= .ok vs w
 |[],K,h=>⟨[],[],h,by simp[RV.partsAt],rfl,by simp⟩
 |x::r,K,h=>by
  simp only[zq8]at h
  obtain⟨f,v,h1,hat,hr⟩:=zln hT hs h
  split at h1
  ·rename_i rv hrv
   obtain⟨rs,vs,hK,hp,hlen,hr2⟩:=zjs hT hs h1
   refine⟨_,v::vs,hK,by simp only[RV.partsAt];exact⟨v,vs,rfl,zdm hs hrv hat,hp⟩,by simp[hlen],?_⟩
   rw[List.mapM_cons,Sem.run_bind,hr]
   simp[hr2]
  ·exact h1.elim
theorem zlu(hT:TOk P T){fn:Func}{res:Res}{e:Exit}{S':St}{a':Act}{w':World}{k':Kp}(hq:finv T fn.results res e S')(hs':Sat ⟨w,k,[],[]⟩ N S' a' w' k'):
  bodyPost P fn (λe w'=>∃v,e=Ending.returned v/\Ext w w'/\∃k':Kp,(∀b,b<w.heap.size->k' b=k b)/\res.at_ w.heap.size w' k' v) e a' w':=by
 have fin:finv T fn.results res .ret S'->a'.defers=[]/\∃v,(results fn a'.tmps).run P w'= .ok v w'/\
   (λe w'=>∃v,e=Ending.returned v/\Ext w w'/\∃k':Kp,(∀b,b<w.heap.size->k' b=k b)/\res.at_ w.heap.size w' k' v) (.returned v) w':=by
  intro hq
  obtain⟨g,hs'⟩:=hs'
  have hext:Ext w w':=⟨hs'.keep.os,hs'.keep.tape,hs'.keep.output,hs'.keep.size,λb hb=>hs'.keep.block b hb (by simp)⟩
  have hkk: ∀b,b<w.heap.size->k' b=k b:=λb hb=>hs'.kk b hb (by simp)
  refine⟨hs'.defers,?_⟩
  simp only[finv]at hq
  unfold retv at hq
  split at hq
  ·rename_i x hx
   obtain⟨fr,v,hret,hat,hr⟩:=zln hT hs' hq
   refine⟨v,?_,v,rfl,hext,k',hkk,?_⟩
   ·have hx':fn.results= #[x]:=by apply Array.ext';simpa using hx
    rw[zh0,hx',Array.mapM_eq_mapM_toList]
    simp only[Sem.run_bind,Sem.run_map,List.mapM_cons,List.mapM_nil,hr]
    simp
   ·unfold Vret at hret
    split at hret
    ·split at hret
     ·rename_i v' hv'
      exact hret w' k' v (zdm hs' hv' hat)
     ·exact hret.elim
    ·split at hret
     ·rename_i e sz n cells id
      have ho:=hs'.owns id _ hret
      simp only[Ow.at_]at ho
      simp only[TF.at_]at hat
      subst hat
      refine⟨_,ho.2.2.1,λb hb=>?_⟩
      rcases(ho.2.2.2 b hb).1 with h |h
      ·exact h
      ·simp at h
     ·exact hret.elim
    ·split at hret
     ·rename_i e sz n cells id
      have ho:=hs'.owns id _ hret
      simp only[Ow.at_]at ho
      simp only[TF.at_]at hat
      subst hat
      refine⟨_,ho.2.2.1,λb hb=>?_⟩
      rcases(ho.2.2.2 b hb).1 with h |h
      ·exact h
      ·simp at h
     ·exact hret.elim
    ·split at hret
     ·rename_i cells id
      have ho:=hs'.owns id _ hret
      simp only[Ow.at_]at ho
      obtain⟨q1,q2,⟨b,cur,t,e,hh,hkb,hsz,hc⟩,q4⟩:=ho
      simp only[TF.at_]at hat
      rw[e]at hat q4
      refine⟨b,cur,t,hat,?_,hh,hkb,by simpa using hsz,λj f u hf hu=>?_⟩
      ·rcases(q4 b rfl).1 with h |h
       ·exact h
       ·simp at h
      ·exact hc j (.r f) u (by rw[List.getElem?_map,hf];rfl) hu
     ·exact hret.elim
  ·rename_i hxs
   obtain⟨rs,vs,⟨rv,rfl,hcv⟩,hp',hlen,hr⟩:=zjs hT hs' hq
   refine⟨.tuple vs.toArray,?_, .tuple vs.toArray,rfl,hext,k',hkk,?_⟩
   ·rw[zh0,Array.mapM_eq_mapM_toList]
    simp only[Sem.run_bind,Sem.run_map,hr]
    have hne:vs.length≠1:=by
     intro he
     rw[hlen]at he
     obtain⟨x,hx⟩:=List.length_eq_one_iff.1 he
     exact hxs x hx
    simp[hne]
   ·exact hcv w' k' _ (by simp only[RV.at_];exact⟨vs.toArray,rfl,hp'⟩)
 cases e with
 |ret=>exact fin hq
 |normal=>exact fin hq
 |_=>exact hq.elim
theorem za1{f:FuncId}{fn:Func}{args:List RV}{res:Res}{c:Code}(hm:P.follows .mixedOrders=true)(hT:TOk P T)(hf:P.funcs[f]?=some fn)(hb:fn.body=some c)
  (hk:(Nat.ble args.length fn.ntmps&&(zau fn.ntmps c&& !(fn.name== "runtime.NumGoroutine")))=true)
  (h:vcg P T c (St.args args) λe S=>∃S',Sub S S'/\finv T fn.results res e S'):zab P f args res:=by
 simp only[Bool.and_eq_true,Nat.ble_eq,Bool.not_eq_true',beq_eq_false_iff_ne]at hk
 obtain⟨hn,hd,hname⟩:=hk
 refine⟨⟨fn,c,hf,hb,hname⟩,λw k vs hp=>?_⟩
 refine calls_of_wp hf hb ?_
 refine zav hm hT c _ _ h ⟨w,k,[],[]⟩ fn.ntmps _ w k _ (zho hp hn) hd λe S0 a' w' k0 ⟨S',hsub,hq⟩ hs0=>?_
 obtain⟨k',hs'⟩:=hsub _ _ _ _ _ hs0
 exact zlu hT hq hs'
theorem zaa{f:FuncId}{fn:Func}{args:List RV}{res:Res}{c:Code}(hm:P.follows .mixedOrders=true)(hT:TOk P T)(hf:P.funcs[f]?=some fn)(hb:fn.body=some c)
  (hk:(Nat.ble args.length fn.ntmps&&(zau fn.ntmps c&& !(fn.name== "runtime.NumGoroutine")))=true)
  (h:vcg P T c (St.args args) (finv T fn.results res)):zab P f args res:=by
 simp only[Bool.and_eq_true,Nat.ble_eq,Bool.not_eq_true',beq_eq_false_iff_ne]at hk
 obtain⟨hn,hd,hname⟩:=hk
 refine⟨⟨fn,c,hf,hb,hname⟩,λw k vs hp=>?_⟩
 refine calls_of_wp hf hb ?_
 refine zav hm hT c _ _ h ⟨w,k,[],[]⟩ fn.ntmps _ w k _ (zho hp hn) hd λe S' a' w' k' hq hs'=>?_
 exact zlu hT hq hs'
end
abbrev aN:Value:=.slice none 0 0
abbrev aU:Value:=.int .u64 0
abbrev aY:Value:=.int .u8 0
abbrev aI:Value:=.int .i64 0
def Tab:TT:=[
 ⟨3, .int .i64,1,8,false,[aI]⟩,
 ⟨4, .bool,1,1,false,[(.bool false)]⟩,
 ⟨25, .slice 5,1,24,false,[aN]⟩,
 ⟨170, .int .u64,1,8,false,[aU]⟩,
 ⟨23, .slice 3,1,24,false,[aN]⟩,
 ⟨5, .int .u8,1,1,false,[aY]⟩,
 ⟨185, .struct [(0,183)],5,40,true,[aU,aU,aU,aU,aU]⟩,
 ⟨1, .other,1,8,false,[.nilFunc]⟩,
 ⟨60, .struct [(0,5),(1,31),(7,58)],10,208,true,[aY,aN,aN,aN,aY,aN,aN,aN,aN,aN]⟩,
 ⟨31, .struct [(0,25),(1,25),(2,25),(3,5),(4,25),(5,25)],6,128,true,[aN,aN,aN,aY,aN,aN]⟩,
 ⟨22, .slice 60,1,24,false,[aN]⟩,
 ⟨41, .int .u8,1,1,false,[aY]⟩,
 ⟨236, .int .u32,1,4,false,[(.int .u32 0)]⟩,
 ⟨110, .slice 109,1,24,false,[aN]⟩,
 ⟨2, .int .i64,1,8,false,[aI]⟩,
 ⟨161, .int .u64,1,8,false,[aU]⟩,
 ⟨109, .struct [(0,3),(1,25)],2,32,true,[aI,aN]⟩,
 ⟨147, .struct [(0,3),(1,3),(2,144),(3,145)],4,64,true,[aI,aI,aN,aN]⟩,
 ⟨299, .slice 170,1,24,false,[aN]⟩,
 ⟨187, .struct [(0,185),(5,185),(10,185),(15,185),(20,4)],21,168,true,[aU,aU,aU,aU,aU,aU,aU,aU,aU,aU,aU,aU,aU,aU,aU,aU,aU,aU,aU,aU,(.bool false)]⟩,
 ⟨52, .slice 25,1,24,false,[aN]⟩,
 ⟨35, .struct [(0,5),(1,33),(9,31),(15,3)],16,320,true,[aY,aN,aN,aN,aN,aY,aN,aN,aN,aN,aN,aN,aY,aN,aN,aI]⟩,
 ⟨271, .struct [(0,3),(1,3),(2,268),(3,269)],4,32,true,[aI,aI,(.map none),(.map none)]⟩,
 ⟨40, .struct [(0,22),(1,38),(2,23),(3,4)],4,80,true,[aN,aN,aN,(.bool false)]⟩,
 ⟨58, .struct [(0,25),(1,25),(2,23)],3,72,true,[aN,aN,aN]⟩,
 ⟨192, .struct [(0,190)],4,32,true,[aU,aU,aU,aU]⟩,
 ⟨144, .slice 215,1,24,false,[aN]⟩,
 ⟨190, .array 4 170,4,32,true,[aU,aU,aU,aU]⟩,
 ⟨33, .struct [(0,25),(1,31),(7,25)],8,176,true,[aN,aN,aN,aN,aY,aN,aN,aN]⟩,
 ⟨405, .struct [(0,170),(1,170)],2,16,true,[aU,aU]⟩,
 ⟨48, .other,1,8,false,[(.pointer none)]⟩,
 ⟨37, .struct [(0,3),(1,35)],17,328,true,[aI,aY,aN,aN,aN,aN,aY,aN,aN,aN,aN,aN,aN,aY,aN,aN,aI]⟩,
 ⟨183, .array 5 170,5,40,true,[aU,aU,aU,aU,aU]⟩,
 ⟨150, .struct [(0,31),(6,148)],7,152,true,[aN,aN,aN,aY,aN,aN,aN]⟩,
 ⟨152, .struct [(0,147),(4,150),(11,110),(12,52),(13,25)],14,288,true,[aI,aI,aN,aN,aN,aN,aN,aY,aN,aN,aN,aN,aN,aN]⟩,
 ⟨9, .str,1,16,false,[(.string ⟨#[]⟩)]⟩,
 ⟨28, .slice 37,1,24,false,[aN]⟩,
 ⟨215, .struct [(0,3),(1,60)],11,216,true,[aI,aY,aN,aN,aN,aY,aN,aN,aN,aN,aN]⟩,
 ⟨54, .struct [(0,22),(1,51),(2,52),(3,3)],4,80,true,[aN,aN,aN,aI]⟩,
 ⟨350, .struct [(0,185),(5,185)],10,80,true,(List.replicate 10 aU)⟩,
 ⟨145, .slice 234,1,24,false,[aN]⟩,
 ⟨268, .other,1,8,false,[(.map none)]⟩,
 ⟨392, .int .u64,1,8,false,[aU]⟩,
 ⟨201, .slice 205,1,24,false,[aN]⟩,
 ⟨340, .array 8 170,8,64,true,[aU,aU,aU,aU,aU,aU,aU,aU]⟩,
 ⟨51, .slice 110,1,24,false,[aN]⟩,
 ⟨38, .slice 31,1,24,false,[aN]⟩,
 ⟨289, .other,1,8,false,[.nilFunc]⟩,
 ⟨148, .slice 208,1,24,false,[aN]⟩,
 ⟨177, .slice 133,1,24,false,[aN]⟩,
 ⟨217, .struct [(0,23),(1,144)],2,48,true,[aN,aN]⟩,
 ⟨366, .array 8 236,8,32,true,[(.int .u32 0),(.int .u32 0),(.int .u32 0),(.int .u32 0),(.int .u32 0),(.int .u32 0),(.int .u32 0),(.int .u32 0)]⟩,
 ⟨269, .other,1,8,false,[(.map none)]⟩,
 ⟨133, .struct [(0,3),(1,3),(2,3)],3,24,true,[aI,aI,aI]⟩,
 ⟨342, .array 80 170,80,640,true,(List.replicate 80 aU)⟩,
 ⟨372, .int .i64,1,8,false,[aI]⟩,
 ⟨234, .struct [(0,3),(1,25)],2,32,true,[aI,aN]⟩,
 ⟨387, .array 64 236,64,256,true,(List.replicate 64 (.int .u32 0))⟩,
 ⟨205, .struct [(0,3),(1,23),(2,25)],3,56,true,[aI,aN,aN]⟩,
 ⟨208, .struct [(0,25),(1,206)],2,48,true,[aN,aN]⟩,
 ⟨85, .other,1,8,false,[(.map none)]⟩,
 ⟨416, .array 256 5,256,256,true,(List.replicate 256 aY)⟩,
 ⟨62, .other,1,8,false,[(.map none)]⟩,
 ⟨361, .int .i64,1,8,false,[aI]⟩,
 ⟨99, .other,1,8,false,[(.map none)]⟩,
 ⟨206, .slice 267,1,24,false,[aN]⟩,
 ⟨210, .slice 58,1,24,false,[aN]⟩,
 ⟨309, .struct [(0,170),(1,170)],2,16,true,[aU,aU]⟩,
 ⟨330, .array 32 5,32,32,true,(List.replicate 32 aY)⟩,
 ⟨356, .struct [(0,25),(1,25)],2,48,true,[aN,aN]⟩,
 ⟨325, .other,1,8,false,[.nilFunc]⟩,
 ⟨360, .other,1,8,false,[.nilFunc]⟩,
 ⟨93, .other,1,8,false,[(.pointer none)]⟩,
 ⟨112, .other,1,8,false,[.nilFunc]⟩,
 ⟨301, .array 64 5,64,64,true,(List.replicate 64 aY)⟩,
 ⟨396, .other,1,8,false,[(.pointer none)]⟩,
 ⟨100, .array 2 99,2,16,true,[(.map none),(.map none)]⟩,
 ⟨306, .slice 9,1,24,false,[aN]⟩,
 ⟨338, .other,1,8,false,[.nilFunc]⟩,
 ⟨362, .other,1,8,false,[.nilFunc]⟩,
 ⟨413, .other,1,8,false,[(.pointer none)]⟩,
 ⟨24, .slice 35,1,24,false,[aN]⟩,
 ⟨310, .array 5 309,10,80,true,(List.replicate 10 aU)⟩,
 ⟨20, .other,1,16,false,[.nilIface]⟩,
 ⟨81, .struct [(0,5),(1,5)],2,2,true,[aY,aY]⟩,
 ⟨173, .other,1,8,false,[(.pointer none)]⟩,
 ⟨322, .other,1,8,false,[.nilFunc]⟩,
 ⟨345, .other,1,8,false,[.nilFunc]⟩,
 ⟨267, .struct [(0,25),(1,25)],2,48,true,[aN,aN]⟩,
 ⟨76, .slice 81,1,24,false,[aN]⟩,
 ⟨104, .other,1,8,false,[.nilFunc]⟩,
 ⟨123, .other,1,8,false,[.nilFunc]⟩,
 ⟨174, .slice 173,1,24,false,[aN]⟩,
 ⟨8, .struct [(0,2),(1,3),(2,4),(3,6)],4,24,true,[aI,aI,(.bool false),aY]⟩,
 ⟨56, .other,1,8,false,[.nilFunc]⟩,
 ⟨92, .other,1,8,false,[.nilFunc]⟩,
 ⟨279, .other,1,8,false,[.nilFunc]⟩,
 ⟨287, .other,1,8,false,[.nilFunc]⟩,
 ⟨324, .other,1,8,false,[.nilFunc]⟩,
 ⟨369, .other,1,8,false,[(.pointer none)]⟩,
 ⟨391, .slice 236,1,24,false,[aN]⟩,
 ⟨401, .other,1,8,false,[.nilFunc]⟩,
 ⟨344, .other,1,8,false,[.nilFunc]⟩,
 ⟨379, .other,1,8,false,[.nilFunc]⟩,
 ⟨6, .int .u8,1,1,false,[aY]⟩,
 ⟨32, .struct [(0,25),(1,31),(7,25)],8,176,true,[aN,aN,aN,aN,aY,aN,aN,aN]⟩,
 ⟨80, .struct [(0,5),(1,5)],2,2,true,[aY,aY]⟩,
 ⟨256, .other,1,8,false,[.nilFunc]⟩]
theorem zcub:mkT Tryz.prog [3,4,25,170,23,5,185,1,60,31,22,41,236,110,2,161,109,147,299,187,52,35,271,40,58,192,144,190,33,405,48,37,183,150,152,9,28,215,54,350,145,268,392,201,340,51,38,289,148,177,217,366,269,133,342,372,234,387,205,208,85,416,62,361,99,206,210,309,330,356,325,360,93,112,301,396,100,306,338,362,413,24,310,20,81,173,322,345,267,76,104,123,174,8,56,92,279,287,324,369,391,401,344,379,6,32,80,256]=Tab:=by kernel_rfl
theorem Tab_ok:TOk Tryz.prog Tab:=zcub▸zws _
theorem mixed:Tryz.prog.follows .mixedOrders=true:=by kernel_rfl
theorem aT{f:FuncId}{fn:Func}{args:List RV}{res:Res}{c:Code}(hf:Tryz.prog.funcs[f]?=some fn)(hb:fn.body=some c) (h:vcg Tryz.prog Tab c (St.args args) (finv Tab fn.results res))(hk:(Nat.ble args.length fn.ntmps&&(zau fn.ntmps c&& !(fn.name== "runtime.NumGoroutine")))=true:=by kernel_rfl):zab Tryz.prog f args res:=zaa (T:=Tab) mixed Tab_ok hf hb hk h
noncomputable abbrev aP:=Tryz.prog
abbrev aG:=@zab Tryz.prog
structure Leaf where
 box:List UInt8
 sign:List UInt8
 ident:List UInt8
 src:UInt8
 parent:List UInt8
 sig:List UInt8
 deriving DecidableEq
structure Par where
 box:List UInt8
 hash:List UInt8
 late:List Int
 deriving DecidableEq
structure Node where
 kind:UInt8
 leaf:Leaf
 par:Par
 deriving DecidableEq
structure Spot where
 at_:Int
 node:Node
 deriving DecidableEq
abbrev I(n:Int):RV:= .i .i64 n
abbrev U8(c:UInt8):RV:= .i .u8 (c.toNat:Int)
abbrev Er(e:Nat):RV:= .i .u8 (e:Int)
def bs(l:List UInt8):RV:= .sl 1 l.length (l.map U8)
def is(l:List Int):RV:= .sl 1 l.length (l.map I)
abbrev Leaf.c(l:Leaf):List RV:=[bs l.box,bs l.sign,bs l.ident,U8 l.src,bs l.parent,bs l.sig]
abbrev Par.c(p:Par):List RV:=[bs p.box,bs p.hash,is p.late]
abbrev Node.c(n:Node):List RV:=[U8 n.kind,bs n.leaf.box,bs n.leaf.sign,bs n.leaf.ident,U8 n.leaf.src,bs n.leaf.parent,bs n.leaf.sig,bs n.par.box,bs n.par.hash,is n.par.late]
def i64(n:Int):Prop:= -9223372036854775808<=n/\n<=9223372036854775807
abbrev maxL:Nat:=281474976710656
theorem zan{α:Type}{f:α->RV}{l:List α}{i:Int}{j:Nat}(h:i=j)(hj:j<l.length):((l.map f).drop (i.toNat*1)).take 1=[f l[j]]:=by
 subst h
 simp only[Int.toNat_natCast,Nat.mul_one]
 rw[List.drop_eq_getElem_cons (by simpa using hj)]
 simp
theorem zs3{α β:Type}{f:α->List β}{sz:Nat}(hf: ∀x,(f x).length=sz): ∀(l:List α) (j:Nat),(l.flatMap f).drop (j*sz)=(l.drop j).flatMap f
 |l,0=>by simp
 |[],j+1=>by simp
 |x::l,j+1=>by
  simp only[List.flatMap_cons,List.drop_succ_cons]
  rw[List.drop_append,hf,List.drop_eq_nil_of_le (by rw[hf,Nat.add_mul];omega),show(j+1)*sz-sz=j*sz by rw[Nat.add_mul];omega,zs3 hf l j]
  simp
theorem zgo{α β:Type}{f:α->List β}{sz:Nat}(hf: ∀x,(f x).length=sz){l:List α}{i:Int}{j:Nat}(h:i=j)(hj:j<l.length):((l.flatMap f).drop (i.toNat*sz)).take sz=f l[j]:=by
 subst h
 rw[Int.toNat_natCast,zs3 hf,List.drop_eq_getElem_cons hj,List.flatMap_cons,List.take_append,hf,Nat.sub_self,List.take_zero,List.append_nil,List.take_of_length_le (by rw[hf];omega)]
section
open Go.RowKit Go.ChangeShapes Go.WideShapes Go.Deep
def allK(w:World):Kp:=λb=>((w.heap[b]?).map λo=>match o with | .cells c _ _=>c.size |_=>0).getD 0
theorem zy6{w:World}{b o:Nat}{v:Value}(h:w.cell? ⟨b,o,none⟩=some v):o<allK w b/\b<w.heap.size:=by
 unfold World.cell? at h
 unfold allK
 cases hb:w.heap[b]? with
 |none=>simp[hb]at h
 |some ob=>
  have h1:b<w.heap.size:=(Array.getElem?_eq_some_iff.1 hb).1
  cases ob with
  |cells c t fr=>
   simp[hb]at h
   exact⟨by simpa[hb]using(Array.getElem?_eq_some_iff.1 h).1,h1⟩
  |_=>simp[hb]at h
theorem zbh{w:World}{k:Kp}: ∀{xs ys:List RV} {us vs:List Value},RV.listAt w k xs us->RV.listAt w k ys vs->RV.listAt w k (xs++ys) (us++vs)
 |[],_,us,_,h,g=>by
  simp only[RV.listAt]at h
  subst h
  exact g
 |x::xs,_,us,_,h,g=>by
  simp only[RV.listAt]at h
  obtain⟨u,r,rfl,h1,h2,h3⟩:=h
  simp only[List.cons_append,RV.listAt]
  exact⟨u,_,rfl,h1,h2,zbh h3 g⟩
theorem zoi{w:World}{k:Kp}{b:Nat}: ∀{xs ys:List RV} {o:Nat},RV.cellsAt w k b o xs->RV.cellsAt w k b (o+xs.length) ys->RV.cellsAt w k b o (xs++ys)
 |[],_,_,_,g=>g
 |x::xs,ys,o,h,g=>by
  simp only[List.cons_append,RV.cellsAt]at h⊢
  exact⟨h.1,zoi h.2 (by rwa[List.length_cons,show o+(xs.length+1)=o+1+xs.length by omega]at g)⟩
theorem zoj{w:World}{b:Nat}: ∀{fs:List RV} {cs:List Value} {o:Nat},RV.listAt w (allK w) fs cs->(∀j,j<cs.length->w.cell? ⟨b,o+j,none⟩=cs[j]?)->RV.cellsAt w (allK w) b o fs
 |[],_,_,_,_=>by simp[RV.cellsAt]
 |f::fs,cs,o,h,hc=>by
  simp only[RV.listAt]at h
  obtain⟨u,r,rfl,h1,h2,h3⟩:=h
  have h0:=hc 0 (by simp)
  simp only[Nat.add_zero,List.getElem?_cons_zero]at h0
  simp only[RV.cellsAt]
  refine⟨⟨(zy6 h0).1,u,h0,h1,h2⟩,zoj h3 λj hj=>?_⟩
  have:=hc (j+1) (by simpa using hj)
  rw[show o+1+j=o+(j+1)by omega]
  simpa using this
structure Rd (P:Program):Type 1 where
 H:Type
 enc:TypeId×Value->H
 w:World
 base:Nat
 spare:Nat->Bool
 held:Bool
def Rd.trod{P:Program}(r:Rd P)(fuel:Nat)(t:TypeId)(cs:List Value):Option (DataW r.H×List MemPlace):=DataW.trod r.enc P r.w r.base r.spare r.held fuel t cs
def Rd.Reads{P:Program}(r:Rd P){σ:Type}(c:σ->List RV)(ok:σ->Prop)(t:TypeId):Prop:=
 ∀fuel cs x,r.trod fuel t cs=some x->∃s,ok s/\RV.listAt r.w (allK r.w) (c s) cs
section
variable {P:Program} {r:Rd P} {t e:TypeId} {σ:Type} {c:σ->List RV} {ok:σ->Prop}
theorem Rd.i64(ht:P.underlying t=some (.int .i64)):r.Reads (λn:Int=>[I n]) i64 t:=λfuel cs x h=>by
 obtain⟨n,rfl,_,hw⟩:=DataW.trod_int ht h
 refine⟨n,?_,by simp only[RV.listAt,RV.at_];exact⟨_,[],rfl,rfl,rfl,rfl⟩⟩
 simp only[Lit.wf,Bool.and_eq_true,decide_eq_true_eq]at hw
 exact⟨hw.1,hw.2⟩
theorem Rd.u8(ht:P.underlying t=some (.int .u8)):r.Reads (λn:UInt8=>[U8 n]) (λ_=>True) t:=λfuel cs x h=>by
 obtain⟨n,rfl,_,hw⟩:=DataW.trod_int ht h
 have hn:0<=n/\n<256:=by
  simp only[Lit.wf,Bool.and_eq_true,decide_eq_true_eq]at hw
  have h1:(0:Int)<=n:=hw.1
  have h2:n<=255:=hw.2
  omega
 refine⟨UInt8.ofNat n.toNat,trivial,?_⟩
 have:((UInt8.ofNat n.toNat).toNat:Int)=n:=by
  rw[UInt8.toNat_ofNat']
  omega
 simp only[RV.listAt,RV.at_]
 exact⟨_,[],rfl,rfl,by rw[this],rfl⟩
theorem Rd.elems{b o:Nat}{sz:Nat}(hl: ∀s,(c s).length=sz): ∀(n i0:Nat),(∀i,i<n->∃cs,(∀j,j<cs.length->r.w.cell? ⟨b,o+(i0+i)*sz+j,none⟩=cs[j]?)/\∃s,ok s/\RV.listAt r.w (allK r.w) (c s) cs)->
  ∃l:List σ,l.length=n/\(∀x∈l,ok x)/\RV.cellsAt r.w (allK r.w) b (o+i0*sz) (l.flatMap c)
 |0,_,_=>⟨[],rfl,by simp,by simp[RV.cellsAt]⟩
 |n+1,i0,h=>by
  obtain⟨cs,hc,s,hs,hq⟩:=h 0 (by omega)
  obtain⟨l,h1,h2,h3⟩:=Rd.elems hl n (i0+1) λi hi=>by
   have:=h (i+1) (by omega)
   rwa[show i0+(i+1)=i0+1+i by omega]at this
  refine⟨s::l,by simp[h1],λx hx=>?_,?_⟩
  ·rcases List.mem_cons.1 hx with rfl |hx
   ·exact hs
   ·exact h2 x hx
  ·rw[List.flatMap_cons]
   refine zoi (zoj hq (by simpa using hc)) ?_
   rw[hl,show o+i0*sz+sz=o+(i0+1)*sz by rw[Nat.add_mul];omega]
   exact h3
theorem Rd.slice{sz:Nat}(ht:P.underlying t=some (.slice e))(hC:P.cellsOf e=sz)(h0:0<sz)(hl: ∀s,(c s).length=sz)(h:r.Reads c ok e)
  {fuel:Nat} {cs:List Value} {x:DataW r.H×List MemPlace} (hx:r.trod fuel t cs=some x):
  ∃l:List σ,(∀y∈l,ok y)/\RV.listAt r.w (allK r.w) [.sl sz l.length (l.flatMap c)] cs/\(l=[]\/∃E Sp,x.1= .slice E Sp/\E.length=l.length):=by
 have hlen: ∀l:List σ,(l.flatMap c).length=l.length*sz:=λl=>by
  induction l with
  |nil=>simp
  |cons y l ih=>rw[List.flatMap_cons,aL,hl,ih,List.length_cons,Nat.add_mul];omega
 rcases open_slice ht hx with⟨rfl,_⟩ |⟨a,len,cap,m,n,D,Pl,rfl,hb,hlc,hcm,hm,hd,hi⟩
 ·refine⟨[],by simp,?_, .inl rfl⟩
  simp only[RV.listAt,RV.at_]
  exact⟨_,[],rfl,rfl,⟨none,0,rfl,by simp,by simp,by simp,λh=>absurd h (by simp)⟩,rfl⟩
 ·have hlm:len<=m:=by rw[hm];split<;>omega
  rw[hC]at hi
  by_cases hz:len=0
  ·subst hz
   refine⟨[],by simp,?_, .inl rfl⟩
   simp only[RV.listAt,RV.at_]
   exact⟨_,[],rfl,rfl,⟨some a,cap,rfl,by simp,hcm,by simp,λh=>absurd h (by simp)⟩,rfl⟩
  ·obtain⟨b,o,spot⟩:=a
   obtain⟨cs0,hc0,_⟩:=hi 0 (by omega)
   obtain⟨_,hl0,ha0⟩:=World.cells?_some hc0
   have hs0:=ha0 0 h0
   rw[List.getElem?_eq_getElem (by omega)]at hs0
   have hspot:spot=none:=by simpa[Addr.add]using World.cell?_spot hs0
   subst hspot
   have hblk:b<r.w.heap.size:=by
    have:=hs0
    rw[Nat.zero_mul,add_plain,add_plain]at this
    exact(zy6 this).2
   obtain⟨l,h1,h2,h3⟩:=Rd.elems (r:=r) (b:=b) (o:=o) (ok:=ok) hl len 0 λi hil=>by
    obtain⟨cs',hc,ht'⟩:=hi i (by omega)
    obtain⟨_,hcl,hat⟩:=World.cells?_some hc
    refine⟨cs',λj hj=>?_,h n cs' _ ht'⟩
    have:=hat j (by omega)
    rw[add_plain,add_plain]at this
    simpa using this
   refine⟨l,h2,?_, .inr ⟨_,_,by rw[hd],by simp[h1]⟩⟩
   simp only[RV.listAt,RV.at_]
   refine⟨_,[],rfl,rfl,⟨_,cap,by rw[h1],by omega,hcm,hlen l,λ_=>⟨b,o,rfl,hblk,by simpa using h3⟩⟩,rfl⟩
theorem zo7{α β:Type}(f:α->β)(l:List α):(l.flatMap λx=>[f x])=l.map f:=by
 induction l with
 |nil=>rfl
 |cons x l ih=>rw[List.flatMap_cons,ih];rfl
theorem Rd.bytes(ht:P.underlying t=some (.slice e))(he:P.underlying e=some (.int .u8))(hC:P.cellsOf e=1):r.Reads (λl:List UInt8=>[bs l]) (λ_=>True) t:=λfuel cs x hx=>by
 obtain⟨l,_,h,_⟩:=Rd.slice ht hC (by omega) (λ_=>rfl) (Rd.u8 he) hx
 refine⟨l,trivial,?_⟩
 rw[zo7]at h
 exact h
theorem Rd.ints(ht:P.underlying t=some (.slice e))(he:P.underlying e=some (.int .i64))(hC:P.cellsOf e=1):r.Reads (λl:List Int=>[is l]) (λl=>∀x∈l,Sx.i64 x) t:=λfuel cs x hx=>by
 obtain⟨l,h1,h,_⟩:=Rd.slice ht hC (by omega) (λ_=>rfl) (Rd.i64 he) hx
 refine⟨l,h1,?_⟩
 rw[zo7]at h
 exact h
theorem Rd.struct{fs:Array Field}{fuel C:Nat}{cs:List Value}{x:DataW r.H×List MemPlace}(ht:P.underlying t=some (.struct fs))(hC:P.cellsOf t=C)(h:r.trod fuel t cs=some x):
  cs.length=C/\∃(xs:List (DataW r.H×List MemPlace)) (n:Nat),x.1= .agg (xs.map (·.1))/\xs.length=fs.size/\∀(i:Nat) (f:Field),fs[i]?=some f->∀m,P.cellsOf f.type=m->r.trod n f.type ((cs.drop f.offset).take m)=xs[i]?:=by
 obtain⟨xs,n,_,hx,hl,hn,hf⟩:=DataW.trod_struct ht h
 exact⟨hl.trans hC,xs,n,by rw[hx],hn,λi f hi m hm=>hm▸hf i f hi⟩
end
end
end Go.Proofs.YtpcfoglfakeimaaGreat.Sx
