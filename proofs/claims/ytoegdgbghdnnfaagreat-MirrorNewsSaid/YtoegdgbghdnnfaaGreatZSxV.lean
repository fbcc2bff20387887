import Derived.Test.YtoegdgbghdnnfaaGreatZSxO
import Derived.Deep.LoopGhost
import Derived.Test.YtoegdgbghdnnfaaGreatZSxP
import Derived.Test.YtoegdgbghdnnfaaGreatProg
namespace Go.Proofs.YtoegdgbghdnnfaaGreat.Sx
open Go.RowKit
section
variable {P:Program} {T:TT} {B:Bs} {N:Nat} {S:St} {a:Act} {w:World} {k:Kp} {g:Env} {o:Oper} {Q:Exit->Act->World->Prop}
def renv(ρ:List (Nat×Nat))(g:Env):Env:=λi=>match zcv ρ i with
 |some j=>g j
 |none=>g i
theorem ztl{ρ:List (Nat×Nat)}(hs:SatE B N S a w k g){f f':TF}{u:Value}(h:cvTF ρ S f f')(hf:f.at_ w k g u):f'.at_ w k (renv ρ g) u:=by
 cases f' with
 |r v=>
  unfold cvTF at h
  simp only at h
  split at h
  ·simp[TF.at_,RV.at_]
  ·split at h
   ·rename_i v' hv
    exact h w k u (zgm hs hv hf)
   ·exact h.elim
 |own id=>
  simp only[cvTF]at h
  split at h
  ·rename_i j i hj
   subst h
   simp only[TF.at_,renv,hj]at*
   exact hf
  ·exact h.elim
 |adr id off=>
  simp only[cvTF]at h
  split at h
  ·rename_i j i o hj
   obtain⟨rfl,rfl⟩:=h
   simp only[TF.at_,renv,hj]at*
   exact hf
  ·exact h.elim
 |cut id off n=>
  simp only[cvTF]at h
  split at h
  ·rename_i j i o m hj
   obtain⟨rfl,rfl,rfl⟩:=h
   simp only[TF.at_,renv,hj]at*
   exact hf
  ·exact h.elim
 |nm id v=>
  simp only[cvTF]at h
  split at h
  ·rename_i j i u hj
   obtain⟨rfl,rfl⟩:=h
   simp only[TF.at_,renv,hj]at*
   exact hf
  ·exact h.elim
theorem zlp{ρ:List (Nat×Nat)}(hs:SatE B N S a w k g): ∀{cs ds:List TF} {us:List Value},zgv ρ S cs ds->AllAt (λf u=>u.oneCell'=true/\f.at_ w k g u) cs us->AllAt (λf u=>u.oneCell'=true/\f.at_ w k (renv ρ g) u) ds us
 |[],ds,us,h,hu=>by simp only[zgv]at h;subst h;exact⟨hu.1,λj f u hf=>by simp at hf⟩
 |f::cs,ds,us,h,hu=>by
  simp only[zgv]at h
  obtain⟨f',ds',rfl,h1,h2⟩:=h
  cases us with
  |nil=>have:=hu.1;simp at this
  |cons u us=>
   have h0:=hu.2 0 f u (by simp) (by simp)
   have ih:=zlp hs h2 ⟨by simpa using hu.1,λj f u hf hv=>hu.2 (j+1) f u (by simpa using hf) (by simpa using hv)⟩
   refine⟨by simp[ih.1],λj f2 v hf hv=>?_⟩
   cases j with
   |zero=>simp at hf hv;subst hf;subst hv;exact⟨h0.1,ztl hs h1 h0.2⟩
   |succ j=>exact ih.2 j f2 v (by simpa using hf) (by simpa using hv)
theorem zp3{ρ:List (Nat×Nat)}: ∀{F:List (Nat×TF)} {t:Nat} {f:TF},zky ρ S F->fget F t=some f->(∃f',fget S.F t=some f'/\cvTF ρ S f' f)/\(t,f)∈F
 |[],t,f,_,h=>by simp[fget]at h
 |(u,f0)::r,t,f,hok,h=>by
  simp only[zky]at hok
  rcases zbd h with⟨rfl,rfl⟩ |⟨_,h⟩
  ·refine⟨?_,by simp⟩
   have:=hok.1
   split at this
   ·rename_i f' hf';exact⟨f',hf',this⟩
   ·exact this.elim
  ·have:=zp3 hok.2 h
   exact⟨this.1,List.mem_cons_of_mem _ this.2⟩
theorem zdw{ρ:List (Nat×Nat)}: ∀{O:List (Nat×Option Ow)} {id:Nat} {o:Ow},zld ρ S O->oget O id=some o->(∃j o',zcv ρ id=some j/\oget S.O j=some o'/\cvOw ρ S o' o)/\(id,some o)∈O
 |[],id,o,_,h=>by simp[oget]at h
 |(u,o0)::r,id,o,hok,h=>by
  simp only[zld]at hok
  rcases zav h with⟨rfl,rfl⟩ |⟨_,h⟩
  ·refine⟨?_,by simp⟩
   have:=hok.1
   split at this
   ·rename_i o1 j he hj
    cases he
    split at this
    ·rename_i o' ho';exact⟨j,o',hj,ho',this⟩
    ·exact this.elim
   ·exact this.elim
  ·have:=zdw hok.2 h
   exact⟨this.1,List.mem_cons_of_mem _ this.2⟩
theorem zsk{n:Nat}: ∀{f:TF},ltB n f=true->f.lt n
 | .r _,_=>trivial
 | .own id,h=>by simp[ltB,Nat.blt]at h;simp[TF.lt];omega
 | .adr id _,h=>by simp[ltB,Nat.blt]at h;simp[TF.lt];omega
 | .nm id _,h=>by simp[ltB,Nat.blt]at h;simp[TF.lt];omega
 | .cut id _ _,h=>by simp[ltB,Nat.blt]at h;simp[TF.lt];omega
theorem zyt{n:Nat}: ∀{o:Ow},zeo n o=true->o.lt n
 | .box cells,h=>λf hf=>zsk (by simp[zeo]at h;exact h f hf)
 | .ch ..,_=>trivial
 | .gen _,_=>trivial
theorem zki: ∀{ρ:List (Nat×Nat)} {i j:Nat},zcv ρ i=some j->(i,j)∈ρ
 |[],i,j,h=>by simp[zcv]at h
 |(u,f)::r,i,j,h=>by
  simp only[zcv]at h
  split at h
  ·rename_i hb;cases h;rw[<-Nat.eq_of_beq_eq_true hb];simp
  ·exact List.mem_cons_of_mem _ (zki h)
theorem zc0: ∀{l:List Nat},zgi l=true->l.Nodup
 |[],_=>List.nodup_nil
 |x::r,h=>by
  simp only[zgi,Bool.and_eq_true,Bool.not_eq_true',List.any_eq_false]at h
  refine List.nodup_cons.2 ⟨λhx=>?_,zc0 h.2⟩
  have:=h.1 x hx
  simp at this
theorem zyv: ∀{ρ:List (Nat×Nat)} {i i' j:Nat},(ρ.map (·.2)).Nodup->(i,j)∈ρ->(i',j)∈ρ->i=i'
 |[],_,_,_,_,m,_=>by cases m
 |x::r,i,i',j,hn,m,m'=>by
  simp only[List.map_cons,List.nodup_cons]at hn
  rcases List.mem_cons.1 m with e |m1
  ·rcases List.mem_cons.1 m' with e' |m1'
   ·rw[<-e]at e';cases e';rfl
   ·exact absurd (by rw[<-e];exact List.mem_map.2 ⟨(i',j),m1',rfl⟩) hn.1
  ·rcases List.mem_cons.1 m' with e' |m1'
   ·exact absurd (by rw[<-e'];exact List.mem_map.2 ⟨(i,j),m1,rfl⟩) hn.1
   ·exact zyv hn.2 m1 m1'
theorem zvx{ρ:List (Nat×Nat)}(hn:(ρ.map (·.2)).Nodup){i i' j:Nat}(h:zcv ρ i=some j)(h':zcv ρ i'=some j):i=i':=
 zyv hn (zki h) (zki h')
theorem Cvs.length: ∀{cs ds:List RV},Cvs cs ds->ds.length=cs.length
 |[],ds,h=>by simp only[Cvs]at h;subst h;rfl
 |x::cs,ds,h=>by
  simp only[Cvs]at h
  obtain⟨g,r,rfl,_,h⟩:=h
  simp[Cvs.length h]
theorem zac(ρ:List (Nat×Nat)){S S':St}(h0:stOk ρ S'=true)(h1:zky ρ S S'.F)(h2:zld ρ S S'.O):Sub S S':=by
 intro B N a w k ⟨g,hs⟩
 simp only[stOk,Bool.and_eq_true,List.all_eq_true]at h0
 obtain⟨⟨⟨hF,hO⟩,hn2⟩,_⟩:=h0
 refine⟨k,renv ρ g,hs.size,hs.defers,hs.keep,hs.kk,λt f hf=>?_,λid o ho=>?_,λi j o o' b hi hj hne hbi hbj=>?_⟩
 ·obtain⟨⟨f',hf',hc⟩,hm⟩:=zp3 h1 hf
  exact⟨zsk (hF _ hm),ztl hs hc (hs.facts t f' hf').2⟩
 ·obtain⟨⟨j,o',hj,ho',hc⟩,hm⟩:=zdw h2 ho
  have hlt:=hO _ hm
  obtain⟨q1,q2,q3,q4⟩:=hs.owns j o' ho'
  have hren:renv ρ g id=g j:=by simp[renv,hj]
  refine⟨by have:=hlt.1;simp[Nat.blt]at this;omega,zyt hlt.2,?_,by rw[hren];exact q4⟩
  rw[hren]
  cases o' with
  |box cs=>
   cases o with
   |box ds=>
    simp only[Ow.at_]at q3⊢
    obtain⟨b,cur,t,e,hh,hk,hsz,hall⟩:=q3
    have hds:=zlp (us:=cur.toList) hs hc ⟨by rw[Array.length_toList,hsz],λj f u hf hu=>hall j f u hf (by simpa using hu)⟩
    exact⟨b,cur,t,e,hh,hk,by rw[<-Array.length_toList,hds.1],λj f u hf hu=>hds.2 j f u hf (by simpa using hu)⟩
   |ch=>exact hc.elim
   |gen=>exact hc.elim
  |gen p=>
   cases o with
   |gen q=>exact hc w k _ q3
   |box=>exact hc.elim
   |ch=>exact hc.elim
  |ch e sz n cs pub=>
   cases o with
   |box=>exact hc.elim
   |gen=>exact hc.elim
   |ch e' sz' n' ds pub'=>
    obtain⟨rfl,rfl,rfl,rfl,hcs⟩:=hc
    simp only[Ow.at_]at q3⊢
    obtain⟨r1,r2⟩:=q3
    have hlen:ds.length=cs.length:=Cvs.length hcs
    refine⟨by rw[hlen];exact r1,?_⟩
    rcases r2 with⟨h0,r2 |⟨hn,hp,b,o,e,hm,hb,hc⟩⟩ |⟨b,cap,cur,e1,e2,hh,s1,s2,s3,s4,s5⟩
    ·exact .inl ⟨h0, .inl r2⟩
    ·exact .inl ⟨h0, .inr ⟨hn,hp,b,o,e,hm,hb,hcs.cells hc⟩⟩
    ·exact .inr ⟨b,cap,cur,e1,e2,hh,s1,s2,s3,s4,hcs.list s5⟩
 ·obtain⟨⟨i',oi,hi',hoi,_⟩,_⟩:=zdw h2 hi
  obtain⟨⟨j',oj,hj',hoj,_⟩,_⟩:=zdw h2 hj
  simp only[renv,hi']at hbi
  simp only[renv,hj']at hbj
  refine hs.apart i' j' oi oj b hoi hoj (λe=>?_) hbi hbj
  subst e
  exact hne (zvx (zc0 hn2) hi' hj')
theorem za3(hm:P.follows .mixedOrders=true)(hT:TOk P T): ∀(c:Code) (S:St) (Q:Exit->St->Prop),vcg P T c S Q->z0t P c S Q
 | .skip,S,Q,h=>λB N a w k Q' hs _ hQ=>wp_skip (hQ _ S a w k h hs)
 | .region id ops draw,S,Q,h=>λB N a w k Q' hs hd hQ=>by
  have hN: ∀o∈ops.toList,∀d,o.dst=some d->d<N:=λo ho d hod=>by
   simp only[zbe,List.all_eq_true]at hd
   have h1:=hd o ho
   simp only[hod]at h1
   exact Nat.le_of_ble_eq_true h1
  cases draw with
  |false=>
   simp only[vcg]at h
   split at h
   ·have:=zhi (Q:=Q') hT hN (λ_ h=>h) hs h λS' a' w' k' hq hs'=>hQ _ S' a' w' k' hq hs'
    exact wp_region_list this
   ·exact h.out B N a w k Q' hs hd hQ
  |true=>
   simp only[vcg]at h
   split at h
   ·obtain⟨hok,h⟩ |h |h:=h
    ·exact zwm hm hT hN hs hok h λS' a' w' k' hq hs'=>hQ _ S' a' w' k' hq hs'
    ·exact zzz hm hT hN hs h λS' a' w' k' hq hs'=>hQ _ S' a' w' k' hq hs'
    ·exact h.out B N a w k Q' hs hd hQ
   ·rename_i l d v hfree
    obtain⟨hok,h⟩ |h:=h
    case inr=>exact h.out B N a w k Q' hs hd hQ
    exact zwn hm hT hN hs hfree hok h λS' a' w' k' hq hs'=>hQ _ S' a' w' k' hq hs'
 | .seq x y,S,Q,h=>λB N a w k Q' hs hd hQ=>by
  simp only[zbe,Bool.and_eq_true]at hd
  simp only[vcg]at h
  refine wp_seq (za3 hm hT x S _ h B N a w k _ hs hd.1 λe S' a' w' k' hq hs'=>?_)
  cases e with
  |normal=>exact za3 hm hT y S' Q hq B N a' w' k' Q' hs' hd.2 hQ
  |_=>exact hQ _ S' a' w' k' hq hs'
 | .cond c x y,S,Q,h=>λB N a w k Q' hs hd hQ=>by
  simp only[zbe,Bool.and_eq_true]at hd
  simp only[vcg]at h
  split at h
  ·rename_i β hc
   obtain⟨g,hs'⟩:=hs
   have hev:=(zah hs' hc).2
   simp only[TF.at_,RV.at_]at hev
   refine wp_cond_split hev (λht=>?_) λhf=>?_
   ·exact za3 hm hT x S Q (h.out.1 ht) B N a w k Q' ⟨g,hs'⟩ hd.1 hQ
   ·exact za3 hm hT y S Q (h.out.2 hf) B N a w k Q' ⟨g,hs'⟩ hd.2 hQ
  ·exact h.elim
 | .block id c,S,Q,h=>λB N a w k Q' hs hd hQ=>by
  simp only[vcg]at h
  refine wp_block (za3 hm hT c S _ h B N a w k _ hs hd λe S' a' w' k' hq hs'=>?_)
  cases e with
  |exit id'=>
   simp only[Exit.inBlock]
   simp only[z5m]at hq
   split at hq
   ·rename_i hb;rw[if_pos (Nat.eq_of_beq_eq_true hb)];exact hQ _ S' a' w' k' hq hs'
   ·rename_i hb;rw[if_neg (Nat.ne_of_beq_eq_false hb)];exact hQ _ S' a' w' k' hq hs'
  |_=>exact hQ _ S' a' w' k' hq hs'
 | .loop c,S,Q,h=>λB N a w k Q' hs hd hQ=>by
  simp only[vcg]at h
  obtain⟨⟨ι,inv,R,μ,⟨i0,hR0,hsub⟩,hround⟩ |h⟩:=h
  case inr=>exact h.out B N a w k Q' hs hd hQ
  obtain⟨k0,hs0⟩:=hsub B N a w k hs
  refine wp_loop_ghost (λn a w=>∃i k,R i/\μ i=n/\Sat B N (inv i) a w k) (μ i0) ⟨i0,k0,hR0,rfl,hs0⟩ ?_
  rintro n a' w' ⟨i,k',hR,rfl,hs'⟩
  rcases hround with hround |hround
  ·refine za3 hm hT c (inv i) _ (hround i hR) B N a' w' k' _ hs' hd λe S' a2 w2 k2 hq hs2=>?_
   cases e with
   |normal=>
    obtain⟨i',hR',hlt,hsub'⟩:=hq
    obtain⟨k3,hs3⟩:=hsub' B N a2 w2 k2 hs2
    exact⟨μ i',hlt,i',k3,hR',rfl,hs3⟩
   |_=>exact hQ _ S' a2 w2 k2 hq hs2
  ·refine za3 hm hT c (inv i) _ (hround i hR) B N a' w' k' _ hs' hd λe S' a2 w2 k2 hq hs2=>?_
   cases e with
   |normal=>
    obtain⟨i',hR',hlt,hsub'⟩:=hq
    obtain⟨k3,hs3⟩:=hsub' B N a2 w2 k2 hs2
    exact⟨μ i',hlt,i',k3,hR',rfl,hs3⟩
   |_=>
    obtain⟨S2,hsub2,hq⟩:=hq
    obtain⟨k3,hs3⟩:=hsub2 B N a2 w2 k2 hs2
    exact hQ _ S2 a2 w2 k3 hq hs3
 | .exit id,S,Q,h=>λB N a w k Q' hs _ hQ=>wp_exit (hQ _ S a w k h hs)
 | .ret,S,Q,h=>λB N a w k Q' hs _ hQ=>wp_ret (hQ _ S a w k h hs)
 | .label l,S,Q,h=>λB N a w k Q' hs _ hQ=>wp_label (hQ _ S a w k h hs)
 | .goto l,S,Q,h=>λB N a w k Q' hs _ hQ=>wp_goto (hQ _ S a w k h hs)
 | .scope c,S,Q,h=>h.out
 | .rangeFunc _ _ _ _,S,Q,h=>h.out
 | .refuse _,S,Q,h=>h.elim
theorem Vrounds.step(hm:P.follows .mixedOrders=true)(hT:TOk P T){c:Code}{n:Nat}{Q:Exit->St->Prop}(h:vcg P T c S (seqK (λS' Q=>Vrounds P c n S' Q) Q)):Vrounds P c (n+1) S Q:=
 ⟨λB N a w k Q' hs hd hQ=>za3 hm hT c S _ h B N a w k _ hs hd λe S' a' w' k' hq hs'=>by
  cases e with
  |normal=>exact hq.out B N a' w' k' Q' hs' hd hQ
  |_=>exact hQ _ S' a' w' k' hq hs'⟩
end
section
variable {P:Program} {T:TT} {B:Bs} {N:Nat} {S:St} {a:Act} {w:World} {k:Kp} {g:Env}
theorem zuo: ∀{l:List RV} {n t:Nat} {f:TF} {us:List Value},RV.partsAt w k l us->fget (zrh n l) t=some f->∃v,f= .r v/\n<=t/\∃u,us[t-n]?=some u/\v.at_ w k u
 |[],_,_,_,_,_,h=>by simp[zrh,fget]at h
 |v::r,n,t,f,us,hp,h=>by
  simp only[RV.partsAt]at hp
  obtain⟨u,us',rfl,h1,h2⟩:=hp
  simp only[zrh]at h
  rcases zbd h with⟨rfl,rfl⟩ |⟨hne,h⟩
  ·exact⟨v,rfl,Nat.le_refl _,u,by simp,h1⟩
  ·obtain⟨v',e,hle,u',hu',h3⟩:=zuo h2 h
   refine⟨v',e,by omega,u',?_,h3⟩
   rw[show t-n=(t-(n+1))+1 by omega]
   simpa using hu'
theorem zp8: ∀{l:List RV} {us:List Value},RV.partsAt w k l us->us.length=l.length
 |[],us,h=>by simp only[RV.partsAt]at h;subst h;rfl
 |v::r,us,h=>by
  simp only[RV.partsAt]at h
  obtain⟨u,us',rfl,_,h2⟩:=h
  simp[zp8 h2]
theorem zkl{args:List RV}{vs:List Value}(hp:RV.partsAt w k args vs){n:Nat}(hn:args.length<=n):
  Sat ⟨w,k,[],[]⟩ n (St.args args) {tmps:=vs.toArray++Array.replicate (n-vs.toArray.size) undef,defers:=[]} w k:=by
 have hl:=zp8 hp
 refine⟨λ_=>(undef,none),by simp;omega,rfl,⟨rfl,rfl,rfl,Nat.le_refl _,λ_ _ _=>rfl⟩,λ_ _ _=>rfl,λt f hf=>?_,λid o ho=>by simp[St.args,oget]at ho,λi j o o' b hi=>by simp[St.args,oget]at hi⟩
 obtain⟨v,rfl,_,u,hu,hat⟩:=zuo hp hf
 rw[Nat.sub_zero]at hu
 refine⟨trivial,?_⟩
 have hlt:t<vs.length:=(List.getElem?_eq_some_iff.1 hu).1
 have:(vs.toArray++Array.replicate (n-vs.toArray.size) undef)[t]?=some u:=by
  rw[Array.getElem?_append_left (by simpa using hlt)]
  simpa using hu
 simp only[TF.at_,Array.getD_eq_getD_getElem?,this,Option.getD_some]
 exact hat
def zpm(tmps:Array Value)(x:ResultVar):Sem Value:=
 match x with
 | .tmp t=>pure (tmps.getD t undef)
 | .cell p t=>do loadVar t (<-asAddr (tmps.getD p undef))
theorem zhe(fn:Func)(tmps:Array Value):results fn tmps=(do
  let vs<-fn.results.mapM (zpm tmps)
  pure (if h:vs.size=1 then vs[0]else .tuple vs)):=by
 unfold results
 congr 2
theorem zi7(hT:TOk P T)(hs:SatE B N S a w k g){x:ResultVar}{K:TF->Prop}(h:resv T S x K):
  ∃f v,K f/\f.at_ w k g v/\(zpm a.tmps x).run P w= .ok v w:=by
 cases x with
 |tmp t=>
  simp only[resv]at h
  split at h
  ·rename_i f hf
   exact⟨f,_,h,(hs.facts t f hf).2,rfl⟩
  ·exact h.elim
 |cell p t=>
  simp only[resv]at h
  split at h
  ·rename_i f ti hf hti
   obtain⟨q,hq⟩:=hT.get hti
   obtain⟨f',v,hK,_,hat,hr⟩:=zvi hs q hq (hs.facts p f hf).2 h
   refine⟨f',v,hK,hat,?_⟩
   cases hv:a.tmps.getD p undef with
   |pointer ad=>
    cases ad with
    |some ad=>rw[hv]at hr;simp only[Instr.loadAt,Instr.sureAddr,Sem.run_bind,Sem.run_pure,Result.andThen_ok]at hr;simp only[zpm,hv,asAddr,Sem.run_bind,Sem.run_pure,Result.andThen_ok];exact hr
    |none=>rw[hv]at hr;simp[Instr.loadAt,Instr.sureAddr]at hr
   |_=>rw[hv]at hr;simp[Instr.loadAt,Instr.sureAddr]at hr
  ·exact h.elim
theorem zia(hT:TOk P T)(hs:SatE B N S a w k g): ∀{xs:List ResultVar} {K:List RV->Prop},zpj T S xs K->
  ∃rs vs,K rs/\RV.partsAt w k rs vs/\vs.length=xs.length/\(xs.mapM (zpm a.tmps)).run P w= .ok vs w
 |[],K,h=>⟨[],[],h,by simp[RV.partsAt],rfl,by simp⟩
 |x::r,K,h=>by
  simp only[zpj]at h
  obtain⟨f,v,h1,hat,hr⟩:=zi7 hT hs h
  split at h1
  ·rename_i rv hrv
   obtain⟨rs,vs,hK,hp,hlen,hr2⟩:=zia hT hs h1
   refine⟨_,v::vs,hK,by simp only[RV.partsAt];exact⟨v,vs,rfl,zgm hs hrv hat,hp⟩,by simp[hlen],?_⟩
   rw[List.mapM_cons,Sem.run_bind,hr]
   simp[hr2]
  ·exact h1.elim
theorem zre(hT:TOk P T){fn:Func}{res:Res}{e:Exit}{S':St}{a':Act}{w':World}{k':Kp}(hq:finv T fn.results res e S')(hs':Sat ⟨w,k,[],[]⟩ N S' a' w' k'):
  bodyPost P fn (λe w'=>∃v,e=Ending.returned v/\Ext w w'/\∃k':Kp,(∀b,b<w.heap.size->k' b=k b)/\res.at_ w.heap.size w' k' v) e a' w':=by
 have fin:finv T fn.results res .ret S'->a'.defers=[]/\∃v,(results fn a'.tmps).run P w'= .ok v w'/\
   (λe w'=>∃v,e=Ending.returned v/\Ext w w'/\∃k':Kp,(∀b,b<w.heap.size->k' b=k b)/\res.at_ w.heap.size w' k' v) (.returned v) w':=by
  intro hq
  obtain⟨g,hs'⟩:=hs'
  have hext:Ext w w':=⟨hs'.keep.os,hs'.keep.tape,hs'.keep.output,hs'.keep.size,λb hb=>hs'.keep.block b hb (by simp)⟩
  have hkk: ∀b,b<w.heap.size->k' b=k b:=λb hb=>hs'.kk b hb (by simp)
  refine⟨hs'.defers,?_⟩
  simp only[finv]at hq
  unfold retv at hq
  split at hq
  ·rename_i x hx
   obtain⟨fr,v,hret,hat,hr⟩:=zi7 hT hs' hq
   refine⟨v,?_,v,rfl,hext,k',hkk,?_⟩
   ·have hx':fn.results= #[x]:=by apply Array.ext';simpa using hx
    rw[zhe,hx',Array.mapM_eq_mapM_toList]
    simp only[Sem.run_bind,Sem.run_map,List.mapM_cons,List.mapM_nil,hr]
    simp
   ·unfold Vret at hret
    split at hret
    ·split at hret
     ·rename_i v' hv'
      exact hret w' k' v (zgm hs' hv' hat)
     ·exact hret.elim
    ·split at hret
     ·rename_i e sz n cells id
      have ho:=hs'.owns id _ hret
      simp only[Ow.at_]at ho
      simp only[TF.at_]at hat
      subst hat
      refine⟨_,ho.2.2.1,λb hb=>?_⟩
      rcases(ho.2.2.2 b hb).1 with h |h
      ·exact h
      ·simp at h
     ·exact hret.elim
    ·split at hret
     ·rename_i e sz n cells id
      have ho:=hs'.owns id _ hret
      simp only[Ow.at_]at ho
      simp only[TF.at_]at hat
      subst hat
      refine⟨_,ho.2.2.1,λb hb=>?_⟩
      rcases(ho.2.2.2 b hb).1 with h |h
      ·exact h
      ·simp at h
     ·exact hret.elim
    ·split at hret
     ·rename_i cells id
      have ho:=hs'.owns id _ hret
      simp only[Ow.at_]at ho
      obtain⟨q1,q2,⟨b,cur,t,e,hh,hkb,hsz,hc⟩,q4⟩:=ho
      simp only[TF.at_]at hat
      rw[e]at hat q4
      refine⟨b,cur,t,hat,?_,hh,hkb,by simpa using hsz,λj f u hf hu=>?_⟩
      ·rcases(q4 b rfl).1 with h |h
       ·exact h
       ·simp at h
      ·exact hc j (.r f) u (by rw[List.getElem?_map,hf];rfl) hu
     ·exact hret.elim
  ·rename_i hxs
   obtain⟨rs,vs,⟨rv,rfl,hcv⟩,hp',hlen,hr⟩:=zia hT hs' hq
   refine⟨.tuple vs.toArray,?_, .tuple vs.toArray,rfl,hext,k',hkk,?_⟩
   ·rw[zhe,Array.mapM_eq_mapM_toList]
    simp only[Sem.run_bind,Sem.run_map,hr]
    have hne:vs.length≠1:=by
     intro he
     rw[hlen]at he
     obtain⟨x,hx⟩:=List.length_eq_one_iff.1 he
     exact hxs x hx
    simp[hne]
   ·exact hcv w' k' _ (by simp only[RV.at_];exact⟨vs.toArray,rfl,hp'⟩)
 cases e with
 |ret=>exact fin hq
 |normal=>exact fin hq
 |_=>exact hq.elim
theorem zar{f:FuncId}{fn:Func}{args:List RV}{res:Res}{c:Code}(hm:P.follows .mixedOrders=true)(hT:TOk P T)(hf:P.funcs[f]?=some fn)(hb:fn.body=some c)
  (hk:(Nat.ble args.length fn.ntmps&&(zbe fn.ntmps c&& !(fn.name== "runtime.NumGoroutine")))=true)
  (h:vcg P T c (St.args args) λe S=>∃S',Sub S S'/\finv T fn.results res e S'):zab P f args res:=by
 simp only[Bool.and_eq_true,Nat.ble_eq,Bool.not_eq_true',beq_eq_false_iff_ne]at hk
 obtain⟨hn,hd,hname⟩:=hk
 refine⟨⟨fn,c,hf,hb,hname⟩,λw k vs hp=>?_⟩
 refine calls_of_wp hf hb ?_
 refine za3 hm hT c _ _ h ⟨w,k,[],[]⟩ fn.ntmps _ w k _ (zkl hp hn) hd λe S0 a' w' k0 ⟨S',hsub,hq⟩ hs0=>?_
 obtain⟨k',hs'⟩:=hsub _ _ _ _ _ hs0
 exact zre hT hq hs'
theorem zaa{f:FuncId}{fn:Func}{args:List RV}{res:Res}{c:Code}(hm:P.follows .mixedOrders=true)(hT:TOk P T)(hf:P.funcs[f]?=some fn)(hb:fn.body=some c)
  (hk:(Nat.ble args.length fn.ntmps&&(zbe fn.ntmps c&& !(fn.name== "runtime.NumGoroutine")))=true)
  (h:vcg P T c (St.args args) (finv T fn.results res)):zab P f args res:=by
 simp only[Bool.and_eq_true,Nat.ble_eq,Bool.not_eq_true',beq_eq_false_iff_ne]at hk
 obtain⟨hn,hd,hname⟩:=hk
 refine⟨⟨fn,c,hf,hb,hname⟩,λw k vs hp=>?_⟩
 refine calls_of_wp hf hb ?_
 refine za3 hm hT c _ _ h ⟨w,k,[],[]⟩ fn.ntmps _ w k _ (zkl hp hn) hd λe S' a' w' k' hq hs'=>?_
 exact zre hT hq hs'
end
abbrev bN:Value:=.slice none 0 0
abbrev bU:Value:=.int .u64 0
abbrev bY:Value:=.int .u8 0
abbrev bI:Value:=.int .i64 0
def Tab:TT:=[
 ⟨3, .int .i64,1,8,false,[bI]⟩,
 ⟨4, .bool,1,1,false,[(.bool false)]⟩,
 ⟨22, .slice 5,1,24,false,[bN]⟩,
 ⟨23, .int .u64,1,8,false,[bU]⟩,
 ⟨57, .slice 3,1,24,false,[bN]⟩,
 ⟨5, .int .u8,1,1,false,[bY]⟩,
 ⟨257, .struct [(0,255)],5,40,true,[bU,bU,bU,bU,bU]⟩,
 ⟨32, .int .u8,1,1,false,[bY]⟩,
 ⟨1, .other,1,8,false,[.nilFunc]⟩,
 ⟨61, .struct [(0,5),(1,56),(7,59)],10,208,true,[bY,bN,bN,bN,bY,bN,bN,bN,bN,bN]⟩,
 ⟨298, .int .u32,1,4,false,[(.int .u32 0)]⟩,
 ⟨56, .struct [(0,22),(1,22),(2,22),(3,5),(4,22),(5,22)],6,128,true,[bN,bN,bN,bY,bN,bN]⟩,
 ⟨83, .struct [(0,3),(1,3),(2,80),(3,81)],4,64,true,[bI,bI,bN,bN]⟩,
 ⟨2, .int .i64,1,8,false,[bI]⟩,
 ⟨26, .slice 61,1,24,false,[bN]⟩,
 ⟨252, .int .u64,1,8,false,[bU]⟩,
 ⟨170, .slice 23,1,24,false,[bN]⟩,
 ⟨80, .slice 132,1,24,false,[bN]⟩,
 ⟨139, .struct [(0,3),(1,3),(2,136),(3,137)],4,32,true,[bI,bI,(.map none),(.map none)]⟩,
 ⟨81, .slice 134,1,24,false,[bN]⟩,
 ⟨226, .struct [(0,22),(1,23),(2,3),(3,5),(4,218),(20,224),(29,22),(30,22),(31,22)],32,624,true,[bN,bU,bI,bY,bY,bN,bN,bN,bN,bY,bN,bN,bN,bN,bN,bN,bY,bN,bN,bI,bN,(.bool false),bN,bN,bN,bY,bN,bN,bN,bN,bN,bN]⟩,
 ⟨25, .struct [(0,22),(1,23),(2,22),(3,22)],4,80,true,[bN,bU,bN,bN]⟩,
 ⟨59, .struct [(0,22),(1,22),(2,57)],3,72,true,[bN,bN,bN]⟩,
 ⟨259, .struct [(0,257),(5,257),(10,257),(15,257),(20,4)],21,168,true,[bU,bU,bU,bU,bU,bU,bU,bU,bU,bU,bU,bU,bU,bU,bU,bU,bU,bU,bU,bU,(.bool false)]⟩,
 ⟨320, .other,1,8,false,[(.pointer none)]⟩,
 ⟨262, .array 4 23,4,32,true,[bU,bU,bU,bU]⟩,
 ⟨152, .struct [(0,22),(1,56),(7,22)],8,176,true,[bN,bN,bN,bN,bY,bN,bN,bN]⟩,
 ⟨357, .other,1,8,false,[(.pointer none)]⟩,
 ⟨264, .struct [(0,262)],4,32,true,[bU,bU,bU,bU]⟩,
 ⟨31, .other,1,8,false,[(.pointer none)]⟩,
 ⟨96, .slice 22,1,24,false,[bN]⟩,
 ⟨132, .struct [(0,3),(1,61)],11,216,true,[bI,bY,bN,bN,bN,bY,bN,bN,bN,bN,bN]⟩,
 ⟨255, .array 5 23,5,40,true,[bU,bU,bU,bU,bU]⟩,
 ⟨134, .struct [(0,3),(1,22)],2,32,true,[bI,bN]⟩,
 ⟨218, .struct [(0,5),(1,152),(9,56),(15,3)],16,320,true,[bY,bN,bN,bN,bN,bY,bN,bN,bN,bN,bN,bN,bY,bN,bN,bI]⟩,
 ⟨9, .str,1,16,false,[(.string ⟨#[]⟩)]⟩,
 ⟨104, .struct [(0,22),(1,22),(2,22),(3,22),(4,22),(5,22),(6,22),(7,22),(8,22),(9,22),(10,22),(11,22)],12,288,true,(List.replicate 12 bN)⟩,
 ⟨374, .struct [(0,257),(5,257)],10,80,true,(List.replicate 10 bU)⟩,
 ⟨110, .struct [(0,107),(20,26),(21,22),(22,38),(23,108)],24,544,true,[bN,bU,bN,bN,bI,bN,bN,bN,bN,bN,bN,bN,bN,bN,bN,bN,bN,bN,bN,bN,bN,bN,bN,bN]⟩,
 ⟨378, .array 8 23,8,64,true,[bU,bU,bU,bU,bU,bU,bU,bU]⟩,
 ⟨224, .struct [(0,219),(1,4),(2,222)],9,184,true,[bN,(.bool false),bN,bN,bN,bY,bN,bN,bN]⟩,
 ⟨367, .int .u64,1,8,false,[bU]⟩,
 ⟨136, .other,1,8,false,[(.map none)]⟩,
 ⟨168, .slice 117,1,24,false,[bN]⟩,
 ⟨312, .array 8 298,8,32,true,[(.int .u32 0),(.int .u32 0),(.int .u32 0),(.int .u32 0),(.int .u32 0),(.int .u32 0),(.int .u32 0),(.int .u32 0)]⟩,
 ⟨117, .struct [(0,3),(1,3),(2,3)],3,24,true,[bI,bI,bI]⟩,
 ⟨137, .other,1,8,false,[(.map none)]⟩,
 ⟨380, .array 80 23,80,640,true,(List.replicate 80 bU)⟩,
 ⟨107, .struct [(0,25),(4,3),(5,22),(6,22),(7,104),(19,105)],20,448,true,[bN,bU,bN,bN,bI,bN,bN,bN,bN,bN,bN,bN,bN,bN,bN,bN,bN,bN,bN,bN]⟩,
 ⟨360, .struct [(0,357),(1,32)],2,16,true,[(.pointer none),bY]⟩,
 ⟨71, .slice 70,1,24,false,[bN]⟩,
 ⟨389, .struct [(0,22),(1,218)],17,344,true,[bN,bY,bN,bN,bN,bN,bY,bN,bN,bN,bN,bN,bN,bY,bN,bN,bI]⟩,
 ⟨278, .struct [(0,9),(1,233)],2,24,true,[(.string ⟨#[]⟩),(.pointer none)]⟩,
 ⟨350, .array 64 298,64,256,true,(List.replicate 64 (.int .u32 0))⟩,
 ⟨154, .struct [(0,22),(1,22),(2,22)],3,72,true,[bN,bN,bN]⟩,
 ⟨402, .struct [(0,22),(1,400)],2,48,true,[bN,bN]⟩,
 ⟨219, .slice 389,1,24,false,[bN]⟩,
 ⟨220, .slice 402,1,24,false,[bN]⟩,
 ⟨105, .slice 162,1,24,false,[bN]⟩,
 ⟨233, .other,1,8,false,[(.pointer none)]⟩,
 ⟨240, .int .i64,1,8,false,[bI]⟩,
 ⟨36, .slice 25,1,24,false,[bN]⟩,
 ⟨70, .struct [(0,25),(4,26)],5,104,true,[bN,bU,bN,bN,bN]⟩,
 ⟨281, .array 32 5,32,32,true,(List.replicate 32 bY)⟩,
 ⟨335, .struct [(0,23),(1,23)],2,16,true,[bU,bU]⟩,
 ⟨413, .struct [(0,22),(1,22)],2,48,true,[bN,bN]⟩,
 ⟨400, .slice 413,1,24,false,[bN]⟩,
 ⟨99, .other,1,8,false,[(.pointer none)]⟩,
 ⟨47, .other,1,8,false,[(.pointer none)]⟩,
 ⟨222, .struct [(0,56),(6,220)],7,152,true,[bN,bN,bN,bY,bN,bN,bN]⟩,
 ⟨325, .int .i64,1,8,false,[bI]⟩,
 ⟨395, .struct [(0,22),(1,32)],2,32,true,[bN,bY]⟩,
 ⟨40, .struct [(0,36),(1,37),(2,22),(3,38)],4,96,true,[bN,bN,bN,bN]⟩,
 ⟨37, .slice 26,1,24,false,[bN]⟩,
 ⟨74, .struct [(0,71),(1,22),(2,38)],3,72,true,[bN,bN,bN]⟩,
 ⟨194, .other,1,8,false,[.nilFunc]⟩,
 ⟨239, .other,1,8,false,[.nilFunc]⟩,
 ⟨157, .other,1,8,false,[(.pointer none)]⟩,
 ⟨162, .struct [(0,3),(1,22)],2,32,true,[bI,bN]⟩,
 ⟨344, .array 64 5,64,64,true,(List.replicate 64 bY)⟩,
 ⟨38, .slice 226,1,24,false,[bN]⟩,
 ⟨75, .other,1,8,false,[(.pointer none)]⟩,
 ⟨108, .slice 229,1,24,false,[bN]⟩,
 ⟨234, .slice 233,1,24,false,[bN]⟩,
 ⟨276, .other,1,8,false,[(.pointer none)]⟩,
 ⟨6, .int .u8,1,1,false,[bY]⟩,
 ⟨8, .struct [(0,2),(1,3),(2,4),(3,6)],4,24,true,[bI,bI,(.bool false),bY]⟩,
 ⟨98, .struct [(0,94),(1,95),(2,96),(3,96),(4,22),(5,22),(6,3)],7,152,true,[bN,bN,bN,bN,bN,bN,bI]⟩,
 ⟨229, .struct [(0,22),(1,22)],2,48,true,[bN,bN]⟩,
 ⟨241, .other,1,8,false,[.nilFunc]⟩,
 ⟨364, .other,1,8,false,[.nilFunc]⟩,
 ⟨404, .other,1,8,false,[(.pointer none)]⟩,
 ⟨7, .struct [(0,2),(1,3),(2,4),(3,6)],4,24,true,[bI,bI,(.bool false),bY]⟩,
 ⟨94, .slice 99,1,24,false,[bN]⟩,
 ⟨203, .other,1,8,false,[.nilFunc]⟩,
 ⟨274, .slice 278,1,24,false,[bN]⟩,
 ⟨322, .other,1,8,false,[.nilFunc]⟩,
 ⟨331, .slice 9,1,24,false,[bN]⟩,
 ⟨336, .array 5 335,10,80,true,(List.replicate 10 bU)⟩,
 ⟨20, .other,1,16,false,[.nilIface]⟩,
 ⟨191, .other,1,8,false,[.nilFunc]⟩,
 ⟨371, .other,1,8,false,[(.pointer none)]⟩,
 ⟨164, .struct [(0,110),(24,22),(25,110)],49,1112,true,[bN,bU,bN,bN,bI,bN,bN,bN,bN,bN,bN,bN,bN,bN,bN,bN,bN,bN,bN,bN,bN,bN,bN,bN,bN,bN,bU,bN,bN,bI,bN,bN,bN,bN,bN,bN,bN,bN,bN,bN,bN,bN,bN,bN,bN,bN,bN,bN,bN]⟩,
 ⟨283, .other,1,8,false,[(.pointer none)]⟩,
 ⟨414, .other,1,8,false,[.nilFunc]⟩,
 ⟨102, .other,1,8,false,[.nilFunc]⟩,
 ⟨383, .other,1,8,false,[.nilFunc]⟩,
 ⟨10, .str,1,16,false,[(.string ⟨#[]⟩)]⟩,
 ⟨11, .str,1,16,false,[(.string ⟨#[]⟩)]⟩,
 ⟨27, .other,1,8,false,[.nilFunc]⟩,
 ⟨54, .other,1,8,false,[.nilFunc]⟩,
 ⟨193, .other,1,8,false,[.nilFunc]⟩,
 ⟨248, .other,1,8,false,[.nilFunc]⟩,
 ⟨250, .other,1,8,false,[.nilFunc]⟩,
 ⟨315, .other,1,8,false,[(.pointer none)]⟩,
 ⟨354, .slice 298,1,24,false,[bN]⟩,
 ⟨390, .other,1,8,false,[.nilFunc]⟩,
 ⟨416, .other,1,8,false,[.nilFunc]⟩,
 ⟨12, .int .u64,1,8,false,[bU]⟩,
 ⟨64, .other,1,8,false,[.nilFunc]⟩,
 ⟨294, .other,1,8,false,[.nilFunc]⟩,
 ⟨296, .other,1,8,false,[.nilFunc]⟩,
 ⟨382, .other,1,8,false,[.nilFunc]⟩,
 ⟨408, .other,1,8,false,[.nilFunc]⟩,
 ⟨95, .slice 442,1,24,false,[bN]⟩,
 ⟨442, .struct [(0,152),(8,154)],11,248,true,[bN,bN,bN,bN,bY,bN,bN,bN,bN,bN,bN]⟩]
theorem zf2b:mkT Tryz.prog [3,4,22,23,57,5,257,32,1,61,298,56,83,2,26,252,170,80,139,81,226,25,59,259,320,262,152,357,264,31,96,132,255,134,218,9,104,374,110,378,224,367,136,168,312,117,137,380,107,360,71,389,278,350,154,402,219,220,105,233,240,36,70,281,335,413,400,99,47,222,325,395,40,37,74,194,239,157,162,344,38,75,108,234,276,6,8,98,229,241,364,404,7,94,203,274,322,331,336,20,191,371,164,283,414,102,383,10,11,27,54,193,248,250,315,354,390,416,12,64,294,296,382,408,95,442]=Tab:=by kernel_rfl
theorem Tab_ok:TOk Tryz.prog Tab:=zf2b▸zym _
theorem mixed:Tryz.prog.follows .mixedOrders=true:=by kernel_rfl
theorem bT{f:FuncId}{fn:Func}{args:List RV}{res:Res}{c:Code}(hf:Tryz.prog.funcs[f]?=some fn)(hb:fn.body=some c) (h:vcg Tryz.prog Tab c (St.args args) (finv Tab fn.results res))(hk:(Nat.ble args.length fn.ntmps&&(zbe fn.ntmps c&& !(fn.name== "runtime.NumGoroutine")))=true:=by kernel_rfl):zab Tryz.prog f args res:=zaa (T:=Tab) mixed Tab_ok hf hb hk h
noncomputable abbrev bP:=Tryz.prog
abbrev bG:=@zab Tryz.prog
structure Leaf where
 box:List UInt8
 sign:List UInt8
 ident:List UInt8
 src:UInt8
 parent:List UInt8
 sig:List UInt8
 deriving DecidableEq
structure Par where
 box:List UInt8
 hash:List UInt8
 late:List Int
 deriving DecidableEq
structure Node where
 kind:UInt8
 leaf:Leaf
 par:Par
 deriving DecidableEq
structure Spot where
 at_:Int
 node:Node
 deriving DecidableEq
structure Stub where
 at_:Int
 hash:List UInt8
 deriving DecidableEq
structure Lean_ where
 leaves:Int
 own:Int
 opn:List Spot
 shut:List Stub
 deriving DecidableEq
abbrev I(n:Int):RV:= .i .i64 n
abbrev U8(c:UInt8):RV:= .i .u8 (c.toNat:Int)
abbrev Er(e:Nat):RV:= .i .u8 (e:Int)
def bs(l:List UInt8):RV:= .sl 1 l.length (l.map U8)
def is(l:List Int):RV:= .sl 1 l.length (l.map I)
abbrev Leaf.c(l:Leaf):List RV:=[bs l.box,bs l.sign,bs l.ident,U8 l.src,bs l.parent,bs l.sig]
abbrev Par.c(p:Par):List RV:=[bs p.box,bs p.hash,is p.late]
abbrev Node.c(n:Node):List RV:=[U8 n.kind,bs n.leaf.box,bs n.leaf.sign,bs n.leaf.ident,U8 n.leaf.src,bs n.leaf.parent,bs n.leaf.sig,bs n.par.box,bs n.par.hash,is n.par.late]
abbrev Spot.c(s:Spot):List RV:=[I s.at_,U8 s.node.kind,bs s.node.leaf.box,bs s.node.leaf.sign,bs s.node.leaf.ident,U8 s.node.leaf.src,bs s.node.leaf.parent,bs s.node.leaf.sig,bs s.node.par.box,bs s.node.par.hash,is s.node.par.late]
abbrev Stub.c(s:Stub):List RV:=[I s.at_,bs s.hash]
def zcw(l:List Spot):RV:= .sl 11 l.length (l.flatMap Spot.c)
def zcwb(l:List Stub):RV:= .sl 2 l.length (l.flatMap Stub.c)
abbrev Lean_.c(s:Lean_):List RV:=[I s.leaves,I s.own,zcw s.opn,zcwb s.shut]
def i64(n:Int):Prop:= -9223372036854775808<=n/\n<=9223372036854775807
abbrev maxL:Nat:=281474976710656
theorem zaj{α:Type}{f:α->RV}{l:List α}{i:Int}{j:Nat}(h:i=j)(hj:j<l.length):((l.map f).drop (i.toNat*1)).take 1=[f l[j]]:=by
 subst h
 simp only[Int.toNat_natCast,Nat.mul_one]
 rw[List.drop_eq_getElem_cons (by simpa using hj)]
 simp
theorem zuv{α β:Type}{f:α->List β}{sz:Nat}(hf: ∀x,(f x).length=sz): ∀(l:List α) (j:Nat),(l.flatMap f).drop (j*sz)=(l.drop j).flatMap f
 |l,0=>by simp
 |[],j+1=>by simp
 |x::l,j+1=>by
  simp only[List.flatMap_cons,List.drop_succ_cons]
  rw[List.drop_append,hf,List.drop_eq_nil_of_le (by rw[hf,Nat.add_mul];omega),show(j+1)*sz-sz=j*sz by rw[Nat.add_mul];omega,zuv hf l j]
  simp
theorem zhp{α β:Type}{f:α->List β}{sz:Nat}(hf: ∀x,(f x).length=sz){l:List α}{i:Int}{j:Nat}(h:i=j)(hj:j<l.length):((l.flatMap f).drop (i.toNat*sz)).take sz=f l[j]:=by
 subst h
 rw[Int.toNat_natCast,zuv hf,List.drop_eq_getElem_cons hj,List.flatMap_cons,List.take_append,hf,Nat.sub_self,List.take_zero,List.append_nil,List.take_of_length_le (by rw[hf];omega)]
end Go.Proofs.YtoegdgbghdnnfaaGreat.Sx
