import Derived.Test.YtebhngeddnnpkaaGreatZSxO
import Derived.Deep.LoopGhost
import Derived.Test.YtebhngeddnnpkaaGreatZSxP
import Derived.Test.YtebhngeddnnpkaaGreatProg
namespace Go.Proofs.YtebhngeddnnpkaaGreat.Sx
open Go.RowKit
section
section
variable {P:Program} {T:TT} {B:Bs} {N:Nat} {S:St} {a:Act} {w:World} {k:Kp} {g:Env} {o:Oper} {Q:Exit->Act->World->Prop}
def renv(ρ:List (Nat×Nat))(g:Env):Env:=λi=>match zbu ρ i with
 |some j=>g j
 |none=>g i
theorem znw{ρ:List (Nat×Nat)}(hs:SatE B N S a w k g){f f':TF}{u:Value}(h:cvTF ρ S f f')(hf:f.at_ w k g u):f'.at_ w k (renv ρ g) u:=by
 cases f' with
 |r v=>
  unfold cvTF at h
  simp only at h
  split at h
  ·simp[TF.at_,RV.at_]
  ·split at h
   ·rename_i v' hv
    exact h w k u (zfa hs hv hf)
   ·exact h.elim
 |own id=>
  simp only[cvTF]at h
  split at h
  ·rename_i j i hj
   subst h
   simp only[TF.at_,renv,hj]at*
   exact hf
  ·exact h.elim
 |adr id off=>
  simp only[cvTF]at h
  split at h
  ·rename_i j i o hj
   obtain⟨rfl,rfl⟩:=h
   simp only[TF.at_,renv,hj]at*
   exact hf
  ·exact h.elim
 |cut id off n=>
  simp only[cvTF]at h
  split at h
  ·rename_i j i o m hj
   obtain⟨rfl,rfl,rfl⟩:=h
   simp only[TF.at_,renv,hj]at*
   exact hf
  ·exact h.elim
 |nm id v=>
  simp only[cvTF]at h
  split at h
  ·rename_i j i u hj
   obtain⟨rfl,rfl⟩:=h
   simp only[TF.at_,renv,hj]at*
   exact hf
  ·exact h.elim
theorem zh8{ρ:List (Nat×Nat)}(hs:SatE B N S a w k g): ∀{cs ds:List TF} {us:List Value},zeo ρ S cs ds->AllAt (λf u=>u.oneCell'=true/\f.at_ w k g u) cs us->AllAt (λf u=>u.oneCell'=true/\f.at_ w k (renv ρ g) u) ds us
 |[],ds,us,h,hu=>by simp only[zeo]at h;subst h;exact⟨hu.1,λj f u hf=>by simp at hf⟩
 |f::cs,ds,us,h,hu=>by
  simp only[zeo]at h
  obtain⟨f',ds',rfl,h1,h2⟩:=h
  cases us with
  |nil=>have:=hu.1;simp at this
  |cons u us=>
   have h0:=hu.2 0 f u (by simp) (by simp)
   have ih:=zh8 hs h2 ⟨by simpa using hu.1,λj f u hf hv=>hu.2 (j+1) f u (by simpa using hf) (by simpa using hv)⟩
   refine⟨by simp[ih.1],λj f2 v hf hv=>?_⟩
   cases j with
   |zero=>simp at hf hv;subst hf;subst hv;exact⟨h0.1,znw hs h1 h0.2⟩
   |succ j=>exact ih.2 j f2 v (by simpa using hf) (by simpa using hv)
theorem zk2{ρ:List (Nat×Nat)}: ∀{F:List (Nat×TF)} {t:Nat} {f:TF},zhp ρ S F->fget F t=some f->(∃f',fget S.F t=some f'/\cvTF ρ S f' f)/\(t,f)∈F
 |[],t,f,_,h=>by simp[fget]at h
 |(u,f0)::r,t,f,hok,h=>by
  simp only[zhp]at hok
  rcases zav h with⟨rfl,rfl⟩ |⟨_,h⟩
  ·refine⟨?_,by simp⟩
   have:=hok.1
   split at this
   ·rename_i f' hf';exact⟨f',hf',this⟩
   ·exact this.elim
  ·have:=zk2 hok.2 h
   exact⟨this.1,List.mem_cons_of_mem _ this.2⟩
theorem zck{ρ:List (Nat×Nat)}: ∀{O:List (Nat×Option Ow)} {id:Nat} {o:Ow},zhx ρ S O->oget O id=some o->(∃j o',zbu ρ id=some j/\oget S.O j=some o'/\cvOw ρ S o' o)/\(id,some o)∈O
 |[],id,o,_,h=>by simp[oget]at h
 |(u,o0)::r,id,o,hok,h=>by
  simp only[zhx]at hok
  rcases zal h with⟨rfl,rfl⟩ |⟨_,h⟩
  ·refine⟨?_,by simp⟩
   have:=hok.1
   split at this
   ·rename_i o1 j he hj
    cases he
    split at this
    ·rename_i o' ho';exact⟨j,o',hj,ho',this⟩
    ·exact this.elim
   ·exact this.elim
  ·have:=zck hok.2 h
   exact⟨this.1,List.mem_cons_of_mem _ this.2⟩
theorem zm2{n:Nat}: ∀{f:TF},ltB n f=true->f.lt n
 | .r _,_=>trivial
 | .own id,h=>by simp[ltB,Nat.blt]at h;simp[TF.lt];omega
 | .adr id _,h=>by simp[ltB,Nat.blt]at h;simp[TF.lt];omega
 | .nm id _,h=>by simp[ltB,Nat.blt]at h;simp[TF.lt];omega
 | .cut id _ _,h=>by simp[ltB,Nat.blt]at h;simp[TF.lt];omega
theorem zrx{n:Nat}: ∀{o:Ow},zdy n o=true->o.lt n
 | .box cells,h=>λf hf=>zm2 (by simp[zdy]at h;exact h f hf)
 | .ch ..,_=>trivial
 | .gen _,_=>trivial
theorem zg8: ∀{ρ:List (Nat×Nat)} {i j:Nat},zbu ρ i=some j->(i,j)∈ρ
 |[],i,j,h=>by simp[zbu]at h
 |(u,f)::r,i,j,h=>by
  simp only[zbu]at h
  split at h
  ·rename_i hb;cases h;rw[<-Nat.eq_of_beq_eq_true hb];simp
  ·exact List.mem_cons_of_mem _ (zg8 h)
theorem zby: ∀{l:List Nat},zed l=true->l.Nodup
 |[],_=>List.nodup_nil
 |x::r,h=>by
  simp only[zed,Bool.and_eq_true,Bool.not_eq_true',List.any_eq_false]at h
  refine List.nodup_cons.2 ⟨λhx=>?_,zby h.2⟩
  have:=h.1 x hx
  simp at this
theorem zry: ∀{ρ:List (Nat×Nat)} {i i' j:Nat},(ρ.map (·.2)).Nodup->(i,j)∈ρ->(i',j)∈ρ->i=i'
 |[],_,_,_,_,m,_=>by cases m
 |x::r,i,i',j,hn,m,m'=>by
  simp only[List.map_cons,List.nodup_cons]at hn
  rcases List.mem_cons.1 m with e |m1
  ·rcases List.mem_cons.1 m' with e' |m1'
   ·rw[<-e]at e';cases e';rfl
   ·exact absurd (by rw[<-e];exact List.mem_map.2 ⟨(i',j),m1',rfl⟩) hn.1
  ·rcases List.mem_cons.1 m' with e' |m1'
   ·exact absurd (by rw[<-e'];exact List.mem_map.2 ⟨(i,j),m1,rfl⟩) hn.1
   ·exact zry hn.2 m1 m1'
theorem zpc{ρ:List (Nat×Nat)}(hn:(ρ.map (·.2)).Nodup){i i' j:Nat}(h:zbu ρ i=some j)(h':zbu ρ i'=some j):i=i':=
 zry hn (zg8 h) (zg8 h')
theorem Cvs.length: ∀{cs ds:List RV},Cvs cs ds->ds.length=cs.length
 |[],ds,h=>by simp only[Cvs]at h;subst h;rfl
 |x::cs,ds,h=>by
  simp only[Cvs]at h
  obtain⟨g,r,rfl,_,h⟩:=h
  simp[Cvs.length h]
theorem zad(ρ:List (Nat×Nat)){S S':St}(h0:stOk ρ S'=true)(h1:zhp ρ S S'.F)(h2:zhx ρ S S'.O):Sub S S':=by
 intro B N a w k ⟨g,hs⟩
 simp only[stOk,Bool.and_eq_true,List.all_eq_true]at h0
 obtain⟨⟨⟨hF,hO⟩,hn2⟩,_⟩:=h0
 refine⟨k,renv ρ g,hs.size,hs.defers,hs.keep,hs.kk,λt f hf=>?_,λid o ho=>?_,λi j o o' b hi hj hne hbi hbj=>?_⟩
 ·obtain⟨⟨f',hf',hc⟩,hm⟩:=zk2 h1 hf
  exact⟨zm2 (hF _ hm),znw hs hc (hs.facts t f' hf').2⟩
 ·obtain⟨⟨j,o',hj,ho',hc⟩,hm⟩:=zck h2 ho
  have hlt:=hO _ hm
  obtain⟨q1,q2,q3,q4⟩:=hs.owns j o' ho'
  have hren:renv ρ g id=g j:=by simp[renv,hj]
  refine⟨by have:=hlt.1;simp[Nat.blt]at this;omega,zrx hlt.2,?_,by rw[hren];exact q4⟩
  rw[hren]
  cases o' with
  |box cs=>
   cases o with
   |box ds=>
    simp only[Ow.at_]at q3⊢
    obtain⟨b,cur,t,e,hh,hk,hsz,hall⟩:=q3
    have hds:=zh8 (us:=cur.toList) hs hc ⟨by rw[Array.length_toList,hsz],λj f u hf hu=>hall j f u hf (by simpa using hu)⟩
    exact⟨b,cur,t,e,hh,hk,by rw[<-Array.length_toList,hds.1],λj f u hf hu=>hds.2 j f u hf (by simpa using hu)⟩
   |ch=>exact hc.elim
   |gen=>exact hc.elim
  |gen p=>
   cases o with
   |gen q=>exact hc w k _ q3
   |box=>exact hc.elim
   |ch=>exact hc.elim
  |ch e sz n cs pub=>
   cases o with
   |box=>exact hc.elim
   |gen=>exact hc.elim
   |ch e' sz' n' ds pub'=>
    obtain⟨rfl,rfl,rfl,rfl,hcs⟩:=hc
    simp only[Ow.at_]at q3⊢
    obtain⟨r1,r2⟩:=q3
    have hlen:ds.length=cs.length:=Cvs.length hcs
    refine⟨by rw[hlen];exact r1,?_⟩
    rcases r2 with⟨h0,r2 |⟨hn,hp,b,o,e,hm,hb,hc⟩⟩ |⟨b,cap,cur,e1,e2,hh,s1,s2,s3,s4,s5⟩
    ·exact .inl ⟨h0, .inl r2⟩
    ·exact .inl ⟨h0, .inr ⟨hn,hp,b,o,e,hm,hb,hcs.cells hc⟩⟩
    ·exact .inr ⟨b,cap,cur,e1,e2,hh,s1,s2,s3,s4,hcs.list s5⟩
 ·obtain⟨⟨i',oi,hi',hoi,_⟩,_⟩:=zck h2 hi
  obtain⟨⟨j',oj,hj',hoj,_⟩,_⟩:=zck h2 hj
  simp only[renv,hi']at hbi
  simp only[renv,hj']at hbj
  refine hs.apart i' j' oi oj b hoi hoj (λe=>?_) hbi hbj
  subst e
  exact hne (zpc (zby hn2) hi' hj')
theorem zao(hm:P.follows .mixedOrders=true)(hT:TOk P T): ∀(c:Code) (S:St) (Q:Exit->St->Prop),vcg P T c S Q->ztk P c S Q
 | .skip,S,Q,h=>λB N a w k Q' hs _ hQ=>wp_skip (hQ _ S a w k h hs)
 | .region id ops draw,S,Q,h=>λB N a w k Q' hs hd hQ=>by
  have hN: ∀o∈ops.toList,∀d,o.dst=some d->d<N:=λo ho d hod=>by
   simp only[zaw,List.all_eq_true]at hd
   have h1:=hd o ho
   simp only[hod]at h1
   exact Nat.le_of_ble_eq_true h1
  cases draw with
  |false=>
   simp only[vcg]at h
   split at h
   ·have:=ze9 (Q:=Q') hT hN (λ_ h=>h) hs h λS' a' w' k' hq hs'=>hQ _ S' a' w' k' hq hs'
    exact wp_region_list this
   ·exact h.out B N a w k Q' hs hd hQ
  |true=>
   simp only[vcg]at h
   split at h
   ·obtain⟨hok,h⟩ |h |h:=h
    ·exact zp6 hm hT hN hs hok h λS' a' w' k' hq hs'=>hQ _ S' a' w' k' hq hs'
    ·exact zst hm hT hN hs h λS' a' w' k' hq hs'=>hQ _ S' a' w' k' hq hs'
    ·exact h.out B N a w k Q' hs hd hQ
   ·rename_i l d v hfree
    obtain⟨hok,h⟩ |h:=h
    case inr=>exact h.out B N a w k Q' hs hd hQ
    exact zp7 hm hT hN hs hfree hok h λS' a' w' k' hq hs'=>hQ _ S' a' w' k' hq hs'
 | .seq x y,S,Q,h=>λB N a w k Q' hs hd hQ=>by
  simp only[zaw,Bool.and_eq_true]at hd
  simp only[vcg]at h
  refine wp_seq (zao hm hT x S _ h B N a w k _ hs hd.1 λe S' a' w' k' hq hs'=>?_)
  cases e with
  |normal=>exact zao hm hT y S' Q hq B N a' w' k' Q' hs' hd.2 hQ
  |_=>exact hQ _ S' a' w' k' hq hs'
 | .cond c x y,S,Q,h=>λB N a w k Q' hs hd hQ=>by
  simp only[zaw,Bool.and_eq_true]at hd
  simp only[vcg]at h
  split at h
  ·rename_i β hc
   obtain⟨g,hs'⟩:=hs
   have hev:=(zaf hs' hc).2
   simp only[TF.at_,RV.at_]at hev
   refine wp_cond_split hev (λht=>?_) λhf=>?_
   ·exact zao hm hT x S Q (h.out.1 ht) B N a w k Q' ⟨g,hs'⟩ hd.1 hQ
   ·exact zao hm hT y S Q (h.out.2 hf) B N a w k Q' ⟨g,hs'⟩ hd.2 hQ
  ·exact h.elim
 | .block id c,S,Q,h=>λB N a w k Q' hs hd hQ=>by
  simp only[vcg]at h
  refine wp_block (zao hm hT c S _ h B N a w k _ hs hd λe S' a' w' k' hq hs'=>?_)
  cases e with
  |exit id'=>
   simp only[Exit.inBlock]
   simp only[zw4]at hq
   split at hq
   ·rename_i hb;rw[if_pos (Nat.eq_of_beq_eq_true hb)];exact hQ _ S' a' w' k' hq hs'
   ·rename_i hb;rw[if_neg (Nat.ne_of_beq_eq_false hb)];exact hQ _ S' a' w' k' hq hs'
  |_=>exact hQ _ S' a' w' k' hq hs'
 | .loop c,S,Q,h=>λB N a w k Q' hs hd hQ=>by
  simp only[vcg]at h
  obtain⟨⟨ι,inv,R,μ,⟨i0,hR0,hsub⟩,hround⟩ |h⟩:=h
  case inr=>exact h.out B N a w k Q' hs hd hQ
  obtain⟨k0,hs0⟩:=hsub B N a w k hs
  refine wp_loop_ghost (λn a w=>∃i k,R i/\μ i=n/\Sat B N (inv i) a w k) (μ i0) ⟨i0,k0,hR0,rfl,hs0⟩ ?_
  rintro n a' w' ⟨i,k',hR,rfl,hs'⟩
  rcases hround with hround |hround
  ·refine zao hm hT c (inv i) _ (hround i hR) B N a' w' k' _ hs' hd λe S' a2 w2 k2 hq hs2=>?_
   cases e with
   |normal=>
    obtain⟨i',hR',hlt,hsub'⟩:=hq
    obtain⟨k3,hs3⟩:=hsub' B N a2 w2 k2 hs2
    exact⟨μ i',hlt,i',k3,hR',rfl,hs3⟩
   |_=>exact hQ _ S' a2 w2 k2 hq hs2
  ·refine zao hm hT c (inv i) _ (hround i hR) B N a' w' k' _ hs' hd λe S' a2 w2 k2 hq hs2=>?_
   cases e with
   |normal=>
    obtain⟨i',hR',hlt,hsub'⟩:=hq
    obtain⟨k3,hs3⟩:=hsub' B N a2 w2 k2 hs2
    exact⟨μ i',hlt,i',k3,hR',rfl,hs3⟩
   |_=>
    obtain⟨S2,hsub2,hq⟩:=hq
    obtain⟨k3,hs3⟩:=hsub2 B N a2 w2 k2 hs2
    exact hQ _ S2 a2 w2 k3 hq hs3
 | .exit id,S,Q,h=>λB N a w k Q' hs _ hQ=>wp_exit (hQ _ S a w k h hs)
 | .ret,S,Q,h=>λB N a w k Q' hs _ hQ=>wp_ret (hQ _ S a w k h hs)
 | .label l,S,Q,h=>λB N a w k Q' hs _ hQ=>wp_label (hQ _ S a w k h hs)
 | .goto l,S,Q,h=>λB N a w k Q' hs _ hQ=>wp_goto (hQ _ S a w k h hs)
 | .scope c,S,Q,h=>h.out
 | .rangeFunc _ _ _ _,S,Q,h=>h.out
 | .refuse _,S,Q,h=>h.elim
theorem Vrounds.step(hm:P.follows .mixedOrders=true)(hT:TOk P T){c:Code}{n:Nat}{Q:Exit->St->Prop}(h:vcg P T c S (seqK (λS' Q=>Vrounds P c n S' Q) Q)):Vrounds P c (n+1) S Q:=
 ⟨λB N a w k Q' hs hd hQ=>zao hm hT c S _ h B N a w k _ hs hd λe S' a' w' k' hq hs'=>by
  cases e with
  |normal=>exact hq.out B N a' w' k' Q' hs' hd hQ
  |_=>exact hQ _ S' a' w' k' hq hs'⟩
end
section
variable {P:Program} {T:TT} {B:Bs} {N:Nat} {S:St} {a:Act} {w:World} {k:Kp} {g:Env}
theorem zoj: ∀{l:List RV} {n t:Nat} {f:TF} {us:List Value},RV.partsAt w k l us->fget (zmb n l) t=some f->∃v,f= .r v/\n<=t/\∃u,us[t-n]?=some u/\v.at_ w k u
 |[],_,_,_,_,_,h=>by simp[zmb,fget]at h
 |v::r,n,t,f,us,hp,h=>by
  simp only[RV.partsAt]at hp
  obtain⟨u,us',rfl,h1,h2⟩:=hp
  simp only[zmb]at h
  rcases zav h with⟨rfl,rfl⟩ |⟨hne,h⟩
  ·exact⟨v,rfl,Nat.le_refl _,u,by simp,h1⟩
  ·obtain⟨v',e,hle,u',hu',h3⟩:=zoj h2 h
   refine⟨v',e,by omega,u',?_,h3⟩
   rw[show t-n=(t-(n+1))+1 by omega]
   simpa using hu'
theorem zk9: ∀{l:List RV} {us:List Value},RV.partsAt w k l us->us.length=l.length
 |[],us,h=>by simp only[RV.partsAt]at h;subst h;rfl
 |v::r,us,h=>by
  simp only[RV.partsAt]at h
  obtain⟨u,us',rfl,_,h2⟩:=h
  simp[zk9 h2]
theorem zhc{args:List RV}{vs:List Value}(hp:RV.partsAt w k args vs){n:Nat}(hn:args.length<=n):
  Sat ⟨w,k,[],[]⟩ n (St.args args) {tmps:=vs.toArray++Array.replicate (n-vs.toArray.size) undef,defers:=[]} w k:=by
 have hl:=zk9 hp
 refine⟨λ_=>(undef,none),by simp;omega,rfl,⟨rfl,rfl,rfl,Nat.le_refl _,λ_ _ _=>rfl⟩,λ_ _ _=>rfl,λt f hf=>?_,λid o ho=>by simp[St.args,oget]at ho,λi j o o' b hi=>by simp[St.args,oget]at hi⟩
 obtain⟨v,rfl,_,u,hu,hat⟩:=zoj hp hf
 rw[Nat.sub_zero]at hu
 refine⟨trivial,?_⟩
 have hlt:t<vs.length:=(List.getElem?_eq_some_iff.1 hu).1
 have:(vs.toArray++Array.replicate (n-vs.toArray.size) undef)[t]?=some u:=by
  rw[Array.getElem?_append_left (by simpa using hlt)]
  simpa using hu
 simp only[TF.at_,Array.getD_eq_getD_getElem?,this,Option.getD_some]
 exact hat
def zha(tmps:Array Value)(x:ResultVar):Sem Value:=
 match x with
 | .tmp t=>pure (tmps.getD t undef)
 | .cell p t=>do loadVar t (<-asAddr (tmps.getD p undef))
theorem zd4(fn:Func)(tmps:Array Value):results fn tmps=(do
  let vs<-fn.results.mapM (zha tmps)
  pure (if h:vs.size=1 then vs[0]else .tuple vs)):=by
 unfold results
 congr 2
theorem zgc(hT:TOk P T)(hs:SatE B N S a w k g){x:ResultVar}{K:TF->Prop}(h:resv T S x K):
  ∃f v,K f/\f.at_ w k g v/\(zha a.tmps x).run P w= .ok v w:=by
 cases x with
 |tmp t=>
  simp only[resv]at h
  split at h
  ·rename_i f hf
   exact⟨f,_,h,(hs.facts t f hf).2,rfl⟩
  ·exact h.elim
 |cell p t=>
  simp only[resv]at h
  split at h
  ·rename_i f ti hf hti
   obtain⟨q,hq⟩:=hT.get hti
   obtain⟨f',v,hK,_,hat,hr⟩:=zo2 hs q hq (hs.facts p f hf).2 h
   refine⟨f',v,hK,hat,?_⟩
   cases hv:a.tmps.getD p undef with
   |pointer ad=>
    cases ad with
    |some ad=>rw[hv]at hr;simp only[Instr.loadAt,Instr.sureAddr,Sem.run_bind,Sem.run_pure,Result.andThen_ok]at hr;simp only[zha,hv,asAddr,Sem.run_bind,Sem.run_pure,Result.andThen_ok];exact hr
    |none=>rw[hv]at hr;simp[Instr.loadAt,Instr.sureAddr]at hr
   |_=>rw[hv]at hr;simp[Instr.loadAt,Instr.sureAddr]at hr
  ·exact h.elim
theorem zfr(hT:TOk P T)(hs:SatE B N S a w k g): ∀{xs:List ResultVar} {K:List RV->Prop},zkr T S xs K->
  ∃rs vs,K rs/\RV.partsAt w k rs vs/\vs.length=xs.length/\(xs.mapM (zha a.tmps)).run P w= .ok vs w
 |[],K,h=>⟨[],[],h,by simp[RV.partsAt],rfl,by simp⟩
 |x::r,K,h=>by
  simp only[zkr]at h
  obtain⟨f,v,h1,hat,hr⟩:=zgc hT hs h
  split at h1
  ·rename_i rv hrv
   obtain⟨rs,vs,hK,hp,hlen,hr2⟩:=zfr hT hs h1
   refine⟨_,v::vs,hK,by simp only[RV.partsAt];exact⟨v,vs,rfl,zfa hs hrv hat,hp⟩,by simp[hlen],?_⟩
   rw[List.mapM_cons,Sem.run_bind,hr]
   simp[hr2]
  ·exact h1.elim
theorem zl8(hT:TOk P T){fn:Func}{res:Res}{e:Exit}{S':St}{a':Act}{w':World}{k':Kp}(hq:finv T fn.results res e S')(hs':Sat ⟨w,k,[],[]⟩ N S' a' w' k'):
  bodyPost P fn (λe w'=>∃v,e=Ending.returned v/\Ext w w'/\∃k':Kp,(∀b,b<w.heap.size->k' b=k b)/\res.at_ w.heap.size w' k' v) e a' w':=by
 have fin:finv T fn.results res .ret S'->a'.defers=[]/\∃v,(results fn a'.tmps).run P w'= .ok v w'/\
   (λe w'=>∃v,e=Ending.returned v/\Ext w w'/\∃k':Kp,(∀b,b<w.heap.size->k' b=k b)/\res.at_ w.heap.size w' k' v) (.returned v) w':=by
  intro hq
  obtain⟨g,hs'⟩:=hs'
  have hext:Ext w w':=⟨hs'.keep.os,hs'.keep.tape,hs'.keep.output,hs'.keep.size,λb hb=>hs'.keep.block b hb (by simp)⟩
  have hkk: ∀b,b<w.heap.size->k' b=k b:=λb hb=>hs'.kk b hb (by simp)
  refine⟨hs'.defers,?_⟩
  simp only[finv]at hq
  unfold retv at hq
  split at hq
  ·rename_i x hx
   obtain⟨fr,v,hret,hat,hr⟩:=zgc hT hs' hq
   refine⟨v,?_,v,rfl,hext,k',hkk,?_⟩
   ·have hx':fn.results= #[x]:=by apply Array.ext';simpa using hx
    rw[zd4,hx',Array.mapM_eq_mapM_toList]
    simp only[Sem.run_bind,Sem.run_map,List.mapM_cons,List.mapM_nil,hr]
    simp
   ·unfold Vret at hret
    split at hret
    ·split at hret
     ·rename_i v' hv'
      exact hret w' k' v (zfa hs' hv' hat)
     ·exact hret.elim
    ·split at hret
     ·rename_i e sz n cells id
      have ho:=hs'.owns id _ hret
      simp only[Ow.at_]at ho
      simp only[TF.at_]at hat
      subst hat
      refine⟨_,ho.2.2.1,λb hb=>?_⟩
      rcases(ho.2.2.2 b hb).1 with h |h
      ·exact h
      ·simp at h
     ·exact hret.elim
    ·split at hret
     ·rename_i e sz n cells id
      have ho:=hs'.owns id _ hret
      simp only[Ow.at_]at ho
      simp only[TF.at_]at hat
      subst hat
      refine⟨_,ho.2.2.1,λb hb=>?_⟩
      rcases(ho.2.2.2 b hb).1 with h |h
      ·exact h
      ·simp at h
     ·exact hret.elim
    ·split at hret
     ·rename_i cells id
      have ho:=hs'.owns id _ hret
      simp only[Ow.at_]at ho
      obtain⟨q1,q2,⟨b,cur,t,e,hh,hkb,hsz,hc⟩,q4⟩:=ho
      simp only[TF.at_]at hat
      rw[e]at hat q4
      refine⟨b,cur,t,hat,?_,hh,hkb,by simpa using hsz,λj f u hf hu=>?_⟩
      ·rcases(q4 b rfl).1 with h |h
       ·exact h
       ·simp at h
      ·exact hc j (.r f) u (by rw[List.getElem?_map,hf];rfl) hu
     ·exact hret.elim
  ·rename_i hxs
   obtain⟨rs,vs,⟨rv,rfl,hcv⟩,hp',hlen,hr⟩:=zfr hT hs' hq
   refine⟨.tuple vs.toArray,?_, .tuple vs.toArray,rfl,hext,k',hkk,?_⟩
   ·rw[zd4,Array.mapM_eq_mapM_toList]
    simp only[Sem.run_bind,Sem.run_map,hr]
    have hne:vs.length≠1:=by
     intro he
     rw[hlen]at he
     obtain⟨x,hx⟩:=List.length_eq_one_iff.1 he
     exact hxs x hx
    simp[hne]
   ·exact hcv w' k' _ (by simp only[RV.at_];exact⟨vs.toArray,rfl,hp'⟩)
 cases e with
 |ret=>exact fin hq
 |normal=>exact fin hq
 |_=>exact hq.elim
theorem zax{f:FuncId}{fn:Func}{args:List RV}{res:Res}{c:Code}(hm:P.follows .mixedOrders=true)(hT:TOk P T)(hf:P.funcs[f]?=some fn)(hb:fn.body=some c)
  (hk:(Nat.ble args.length fn.ntmps&&(zaw fn.ntmps c&& !(fn.name== "runtime.NumGoroutine")))=true)
  (h:vcg P T c (St.args args) λe S=>∃S',Sub S S'/\finv T fn.results res e S'):zab P f args res:=by
 simp only[Bool.and_eq_true,Nat.ble_eq,Bool.not_eq_true',beq_eq_false_iff_ne]at hk
 obtain⟨hn,hd,hname⟩:=hk
 refine⟨⟨fn,c,hf,hb,hname⟩,λw k vs hp=>?_⟩
 refine calls_of_wp hf hb ?_
 refine zao hm hT c _ _ h ⟨w,k,[],[]⟩ fn.ntmps _ w k _ (zhc hp hn) hd λe S0 a' w' k0 ⟨S',hsub,hq⟩ hs0=>?_
 obtain⟨k',hs'⟩:=hsub _ _ _ _ _ hs0
 exact zl8 hT hq hs'
theorem zaa{f:FuncId}{fn:Func}{args:List RV}{res:Res}{c:Code}(hm:P.follows .mixedOrders=true)(hT:TOk P T)(hf:P.funcs[f]?=some fn)(hb:fn.body=some c)
  (hk:(Nat.ble args.length fn.ntmps&&(zaw fn.ntmps c&& !(fn.name== "runtime.NumGoroutine")))=true)
  (h:vcg P T c (St.args args) (finv T fn.results res)):zab P f args res:=by
 simp only[Bool.and_eq_true,Nat.ble_eq,Bool.not_eq_true',beq_eq_false_iff_ne]at hk
 obtain⟨hn,hd,hname⟩:=hk
 refine⟨⟨fn,c,hf,hb,hname⟩,λw k vs hp=>?_⟩
 refine calls_of_wp hf hb ?_
 refine zao hm hT c _ _ h ⟨w,k,[],[]⟩ fn.ntmps _ w k _ (zhc hp hn) hd λe S' a' w' k' hq hs'=>?_
 exact zl8 hT hq hs'
end
end
section
def Tab:TT:=[
 ⟨3, .int .i64,1,8,false,[(.int .i64 0)]⟩,
 ⟨22, .slice 5,1,24,false,[(.slice none 0 0)]⟩,
 ⟨4, .bool,1,1,false,[(.bool false)]⟩,
 ⟨23, .int .u64,1,8,false,[(.int .u64 0)]⟩,
 ⟨28, .int .u8,1,1,false,[(.int .u8 0)]⟩,
 ⟨5, .int .u8,1,1,false,[(.int .u8 0)]⟩,
 ⟨1, .other,1,8,false,[.nilFunc]⟩,
 ⟨49, .slice 3,1,24,false,[(.slice none 0 0)]⟩,
 ⟨218, .struct [(0,216)],5,40,true,[(.int .u64 0),(.int .u64 0),(.int .u64 0),(.int .u64 0),(.int .u64 0)]⟩,
 ⟨42, .struct [(0,22),(1,22),(2,22),(3,5),(4,22),(5,22)],6,128,true,[(.slice none 0 0),(.slice none 0 0),(.slice none 0 0),(.int .u8 0),(.slice none 0 0),(.slice none 0 0)]⟩,
 ⟨58, .slice 57,1,24,false,[(.slice none 0 0)]⟩,
 ⟨53, .struct [(0,5),(1,42),(7,51)],10,208,true,[(.int .u8 0),(.slice none 0 0),(.slice none 0 0),(.slice none 0 0),(.int .u8 0),(.slice none 0 0),(.slice none 0 0),(.slice none 0 0),(.slice none 0 0),(.slice none 0 0)]⟩,
 ⟨54, .slice 53,1,24,false,[(.slice none 0 0)]⟩,
 ⟨116, .struct [(0,22),(1,23),(2,3),(3,5),(4,77),(20,114),(29,22),(30,22),(31,22)],32,624,true,[(.slice none 0 0),(.int .u64 0),(.int .i64 0),(.int .u8 0),(.int .u8 0),(.slice none 0 0),(.slice none 0 0),(.slice none 0 0),(.slice none 0 0),(.int .u8 0),(.slice none 0 0),(.slice none 0 0),(.slice none 0 0),(.slice none 0 0),(.slice none 0 0),(.slice none 0 0),(.int .u8 0),(.slice none 0 0),(.slice none 0 0),(.int .i64 0),(.slice none 0 0),(.bool false),(.slice none 0 0),(.slice none 0 0),(.slice none 0 0),(.int .u8 0),(.slice none 0 0),(.slice none 0 0),(.slice none 0 0),(.slice none 0 0),(.slice none 0 0),(.slice none 0 0)]⟩,
 ⟨368, .int .u32,1,4,false,[(.int .u32 0)]⟩,
 ⟨2, .int .i64,1,8,false,[(.int .i64 0)]⟩,
 ⟨101, .struct [(0,3),(1,3),(2,98),(3,99)],4,64,true,[(.int .i64 0),(.int .i64 0),(.slice none 0 0),(.slice none 0 0)]⟩,
 ⟨57, .struct [(0,3),(1,22)],2,32,true,[(.int .i64 0),(.slice none 0 0)]⟩,
 ⟨373, .int .u64,1,8,false,[(.int .u64 0)]⟩,
 ⟨73, .struct [(0,62),(20,54),(21,22),(22,70),(23,71)],24,544,true,[(.slice none 0 0),(.int .u64 0),(.slice none 0 0),(.slice none 0 0),(.int .i64 0),(.slice none 0 0),(.slice none 0 0),(.slice none 0 0),(.slice none 0 0),(.slice none 0 0),(.slice none 0 0),(.slice none 0 0),(.slice none 0 0),(.slice none 0 0),(.slice none 0 0),(.slice none 0 0),(.slice none 0 0),(.slice none 0 0),(.slice none 0 0),(.slice none 0 0),(.slice none 0 0),(.slice none 0 0),(.slice none 0 0),(.slice none 0 0)]⟩,
 ⟨62, .struct [(0,35),(4,3),(5,22),(6,22),(7,60),(19,58)],20,448,true,[(.slice none 0 0),(.int .u64 0),(.slice none 0 0),(.slice none 0 0),(.int .i64 0),(.slice none 0 0),(.slice none 0 0),(.slice none 0 0),(.slice none 0 0),(.slice none 0 0),(.slice none 0 0),(.slice none 0 0),(.slice none 0 0),(.slice none 0 0),(.slice none 0 0),(.slice none 0 0),(.slice none 0 0),(.slice none 0 0),(.slice none 0 0),(.slice none 0 0)]⟩,
 ⟨35, .struct [(0,22),(1,23),(2,22),(3,22)],4,80,true,[(.slice none 0 0),(.int .u64 0),(.slice none 0 0),(.slice none 0 0)]⟩,
 ⟨145, .slice 22,1,24,false,[(.slice none 0 0)]⟩,
 ⟨240, .slice 23,1,24,false,[(.slice none 0 0)]⟩,
 ⟨77, .struct [(0,5),(1,44),(9,42),(15,3)],16,320,true,[(.int .u8 0),(.slice none 0 0),(.slice none 0 0),(.slice none 0 0),(.slice none 0 0),(.int .u8 0),(.slice none 0 0),(.slice none 0 0),(.slice none 0 0),(.slice none 0 0),(.slice none 0 0),(.slice none 0 0),(.int .u8 0),(.slice none 0 0),(.slice none 0 0),(.int .i64 0)]⟩,
 ⟨220, .struct [(0,218),(5,218),(10,218),(15,218),(20,4)],21,168,true,[(.int .u64 0),(.int .u64 0),(.int .u64 0),(.int .u64 0),(.int .u64 0),(.int .u64 0),(.int .u64 0),(.int .u64 0),(.int .u64 0),(.int .u64 0),(.int .u64 0),(.int .u64 0),(.int .u64 0),(.int .u64 0),(.int .u64 0),(.int .u64 0),(.int .u64 0),(.int .u64 0),(.int .u64 0),(.int .u64 0),(.bool false)]⟩,
 ⟨188, .struct [(0,3),(1,3),(2,185),(3,186)],4,32,true,[(.int .i64 0),(.int .i64 0),(.map none),(.map none)]⟩,
 ⟨60, .struct [(0,22),(1,22),(2,22),(3,22),(4,22),(5,22),(6,22),(7,22),(8,22),(9,22),(10,22),(11,22)],12,288,true,(List.replicate 12 (.slice none 0 0))⟩,
 ⟨44, .struct [(0,22),(1,42),(7,22)],8,176,true,[(.slice none 0 0),(.slice none 0 0),(.slice none 0 0),(.slice none 0 0),(.int .u8 0),(.slice none 0 0),(.slice none 0 0),(.slice none 0 0)]⟩,
 ⟨38, .other,1,8,false,[(.pointer none)]⟩,
 ⟨225, .struct [(0,223)],4,32,true,[(.int .u64 0),(.int .u64 0),(.int .u64 0),(.int .u64 0)]⟩,
 ⟨223, .array 4 23,4,32,true,[(.int .u64 0),(.int .u64 0),(.int .u64 0),(.int .u64 0)]⟩,
 ⟨268, .struct [(0,3),(1,53)],11,216,true,[(.int .i64 0),(.int .u8 0),(.slice none 0 0),(.slice none 0 0),(.slice none 0 0),(.int .u8 0),(.slice none 0 0),(.slice none 0 0),(.slice none 0 0),(.slice none 0 0),(.slice none 0 0)]⟩,
 ⟨202, .other,1,8,false,[(.pointer none)]⟩,
 ⟨114, .struct [(0,109),(1,4),(2,112)],9,184,true,[(.slice none 0 0),(.bool false),(.slice none 0 0),(.slice none 0 0),(.slice none 0 0),(.int .u8 0),(.slice none 0 0),(.slice none 0 0),(.slice none 0 0)]⟩,
 ⟨9, .str,1,16,false,[(.string ⟨#[]⟩)]⟩,
 ⟨162, .struct [(0,54),(1,160),(2,49),(3,4)],4,80,true,[(.slice none 0 0),(.slice none 0 0),(.slice none 0 0),(.bool false)]⟩,
 ⟨560, .struct [(0,23),(1,23)],2,16,true,[(.int .u64 0),(.int .u64 0)]⟩,
 ⟨25, .other,1,8,false,[(.pointer none)]⟩,
 ⟨98, .slice 268,1,24,false,[(.slice none 0 0)]⟩,
 ⟨112, .struct [(0,42),(6,110)],7,152,true,[(.slice none 0 0),(.slice none 0 0),(.slice none 0 0),(.int .u8 0),(.slice none 0 0),(.slice none 0 0),(.slice none 0 0)]⟩,
 ⟨110, .slice 334,1,24,false,[(.slice none 0 0)]⟩,
 ⟨51, .struct [(0,22),(1,22),(2,49)],3,72,true,[(.slice none 0 0),(.slice none 0 0),(.slice none 0 0)]⟩,
 ⟨314, .other,1,8,false,[(.pointer none)]⟩,
 ⟨70, .slice 116,1,24,false,[(.slice none 0 0)]⟩,
 ⟨334, .struct [(0,22),(1,332)],2,48,true,[(.slice none 0 0),(.slice none 0 0)]⟩,
 ⟨109, .slice 252,1,24,false,[(.slice none 0 0)]⟩,
 ⟨275, .struct [(0,35),(4,22),(5,3),(6,22)],7,136,true,[(.slice none 0 0),(.int .u64 0),(.slice none 0 0),(.slice none 0 0),(.slice none 0 0),(.int .i64 0),(.slice none 0 0)]⟩,
 ⟨166, .struct [(0,112),(7,54),(8,22),(9,58),(10,58)],11,248,true,[(.slice none 0 0),(.slice none 0 0),(.slice none 0 0),(.int .u8 0),(.slice none 0 0),(.slice none 0 0),(.slice none 0 0),(.slice none 0 0),(.slice none 0 0),(.slice none 0 0),(.slice none 0 0)]⟩,
 ⟨216, .array 5 23,5,40,true,[(.int .u64 0),(.int .u64 0),(.int .u64 0),(.int .u64 0),(.int .u64 0)]⟩,
 ⟨304, .struct [(0,3),(1,22)],2,32,true,[(.int .i64 0),(.slice none 0 0)]⟩,
 ⟨254, .struct [(0,3),(1,77)],17,328,true,[(.int .i64 0),(.int .u8 0),(.slice none 0 0),(.slice none 0 0),(.slice none 0 0),(.slice none 0 0),(.int .u8 0),(.slice none 0 0),(.slice none 0 0),(.slice none 0 0),(.slice none 0 0),(.slice none 0 0),(.slice none 0 0),(.int .u8 0),(.slice none 0 0),(.slice none 0 0),(.int .i64 0)]⟩,
 ⟨332, .slice 401,1,24,false,[(.slice none 0 0)]⟩,
 ⟨99, .slice 304,1,24,false,[(.slice none 0 0)]⟩,
 ⟨252, .struct [(0,22),(1,77)],17,344,true,[(.slice none 0 0),(.int .u8 0),(.slice none 0 0),(.slice none 0 0),(.slice none 0 0),(.slice none 0 0),(.int .u8 0),(.slice none 0 0),(.slice none 0 0),(.slice none 0 0),(.slice none 0 0),(.slice none 0 0),(.slice none 0 0),(.int .u8 0),(.slice none 0 0),(.slice none 0 0),(.int .i64 0)]⟩,
 ⟨185, .other,1,8,false,[(.map none)]⟩,
 ⟨264, .struct [(0,101),(4,112),(11,58),(12,145),(13,22)],14,288,true,[(.int .i64 0),(.int .i64 0),(.slice none 0 0),(.slice none 0 0),(.slice none 0 0),(.slice none 0 0),(.slice none 0 0),(.int .u8 0),(.slice none 0 0),(.slice none 0 0),(.slice none 0 0),(.slice none 0 0),(.slice none 0 0),(.slice none 0 0)]⟩,
 ⟨538, .struct [(0,218),(5,218)],10,80,true,(List.replicate 10 (.int .u64 0))⟩,
 ⟨71, .slice 152,1,24,false,[(.slice none 0 0)]⟩,
 ⟨590, .int .u64,1,8,false,[(.int .u64 0)]⟩,
 ⟨327, .slice 331,1,24,false,[(.slice none 0 0)]⟩,
 ⟨92, .slice 91,1,24,false,[(.slice none 0 0)]⟩,
 ⟨157, .slice 254,1,24,false,[(.slice none 0 0)]⟩,
 ⟨541, .array 8 23,8,64,true,[(.int .u64 0),(.int .u64 0),(.int .u64 0),(.int .u64 0),(.int .u64 0),(.int .u64 0),(.int .u64 0),(.int .u64 0)]⟩,
 ⟨495, .other,1,8,false,[.nilFunc]⟩,
 ⟨133, .struct [(0,73),(24,22),(25,73)],49,1112,true,[(.slice none 0 0),(.int .u64 0),(.slice none 0 0),(.slice none 0 0),(.int .i64 0),(.slice none 0 0),(.slice none 0 0),(.slice none 0 0),(.slice none 0 0),(.slice none 0 0),(.slice none 0 0),(.slice none 0 0),(.slice none 0 0),(.slice none 0 0),(.slice none 0 0),(.slice none 0 0),(.slice none 0 0),(.slice none 0 0),(.slice none 0 0),(.slice none 0 0),(.slice none 0 0),(.slice none 0 0),(.slice none 0 0),(.slice none 0 0),(.slice none 0 0),(.slice none 0 0),(.int .u64 0),(.slice none 0 0),(.slice none 0 0),(.int .i64 0),(.slice none 0 0),(.slice none 0 0),(.slice none 0 0),(.slice none 0 0),(.slice none 0 0),(.slice none 0 0),(.slice none 0 0),(.slice none 0 0),(.slice none 0 0),(.slice none 0 0),(.slice none 0 0),(.slice none 0 0),(.slice none 0 0),(.slice none 0 0),(.slice none 0 0),(.slice none 0 0),(.slice none 0 0),(.slice none 0 0),(.slice none 0 0)]⟩,
 ⟨186, .other,1,8,false,[(.map none)]⟩,
 ⟨506, .struct [(0,49),(1,98)],2,48,true,[(.slice none 0 0),(.slice none 0 0)]⟩,
 ⟨284, .struct [(0,282),(1,22)],2,48,true,[(.slice none 0 0),(.slice none 0 0)]⟩,
 ⟨369, .array 8 368,8,32,true,[(.int .u32 0),(.int .u32 0),(.int .u32 0),(.int .u32 0),(.int .u32 0),(.int .u32 0),(.int .u32 0),(.int .u32 0)]⟩,
 ⟨401, .struct [(0,22),(1,22)],2,48,true,[(.slice none 0 0),(.slice none 0 0)]⟩,
 ⟨46, .struct [(0,22),(1,22),(2,22)],3,72,true,[(.slice none 0 0),(.slice none 0 0),(.slice none 0 0)]⟩,
 ⟨91, .struct [(0,35),(4,54)],5,104,true,[(.slice none 0 0),(.int .u64 0),(.slice none 0 0),(.slice none 0 0),(.slice none 0 0)]⟩,
 ⟨160, .slice 42,1,24,false,[(.slice none 0 0)]⟩,
 ⟨411, .struct [(0,22),(1,401)],3,72,true,[(.slice none 0 0),(.slice none 0 0),(.slice none 0 0)]⟩,
 ⟨543, .array 80 23,80,640,true,(List.replicate 80 (.int .u64 0))⟩,
 ⟨317, .struct [(0,314),(1,28)],2,16,true,[(.pointer none),(.int .u8 0)]⟩,
 ⟨567, .int .i64,1,8,false,[(.int .i64 0)]⟩,
 ⟨94, .struct [(0,92),(1,22),(2,70)],3,72,true,[(.slice none 0 0),(.slice none 0 0),(.slice none 0 0)]⟩,
 ⟨348, .struct [(0,9),(1,346)],2,24,true,[(.string ⟨#[]⟩),(.pointer none)]⟩,
 ⟨484, .array 64 368,64,256,true,(List.replicate 64 (.int .u32 0))⟩,
 ⟨331, .struct [(0,3),(1,49),(2,22)],3,56,true,[(.int .i64 0),(.slice none 0 0),(.slice none 0 0)]⟩,
 ⟨346, .other,1,8,false,[(.pointer none)]⟩,
 ⟨152, .struct [(0,22),(1,22)],2,48,true,[(.slice none 0 0),(.slice none 0 0)]⟩,
 ⟨383, .other,1,8,false,[(.map none)]⟩,
 ⟨585, .array 256 5,256,256,true,(List.replicate 256 (.int .u8 0))⟩,
 ⟨6, .int .u8,1,1,false,[(.int .u8 0)]⟩,
 ⟨8, .struct [(0,2),(1,3),(2,4),(3,6)],4,24,true,[(.int .i64 0),(.int .i64 0),(.bool false),(.int .u8 0)]⟩,
 ⟨257, .other,1,8,false,[(.map none)]⟩,
 ⟨280, .struct [(0,44),(8,22)],9,200,true,[(.slice none 0 0),(.slice none 0 0),(.slice none 0 0),(.slice none 0 0),(.int .u8 0),(.slice none 0 0),(.slice none 0 0),(.slice none 0 0),(.slice none 0 0)]⟩,
 ⟨282, .slice 411,1,24,false,[(.slice none 0 0)]⟩,
 ⟨420, .int .i64,1,8,false,[(.int .i64 0)]⟩,
 ⟨237, .array 32 5,32,32,true,(List.replicate 32 (.int .u8 0))⟩,
 ⟨336, .slice 51,1,24,false,[(.slice none 0 0)]⟩,
 ⟨390, .other,1,8,false,[(.map none)]⟩,
 ⟨465, .struct [(0,23),(1,23)],2,16,true,[(.int .u64 0),(.int .u64 0)]⟩,
 ⟨481, .struct [(0,3),(1,3),(2,3)],3,24,true,[(.int .i64 0),(.int .i64 0),(.int .i64 0)]⟩,
 ⟨549, .slice 481,1,24,false,[(.slice none 0 0)]⟩,
 ⟨7, .struct [(0,2),(1,3),(2,4),(3,6)],4,24,true,[(.int .i64 0),(.int .i64 0),(.bool false),(.int .u8 0)]⟩,
 ⟨278, .slice 280,1,24,false,[(.slice none 0 0)]⟩,
 ⟨555, .struct [(0,22),(1,22)],2,48,true,[(.slice none 0 0),(.slice none 0 0)]⟩,
 ⟨85, .other,1,8,false,[(.pointer none)]⟩,
 ⟨437, .struct [(0,22),(1,28)],2,32,true,[(.slice none 0 0),(.int .u8 0)]⟩,
 ⟨66, .other,1,8,false,[.nilFunc]⟩,
 ⟨360, .slice 346,1,24,false,[(.slice none 0 0)]⟩,
 ⟨300, .other,1,8,false,[.nilFunc]⟩,
 ⟨419, .other,1,8,false,[.nilFunc]⟩,
 ⟨127, .other,1,8,false,[(.pointer none)]⟩,
 ⟨309, .other,1,8,false,[.nilFunc]⟩,
 ⟨385, .other,1,8,false,[(.pointer none)]⟩,
 ⟨474, .array 64 5,64,64,true,(List.replicate 64 (.int .u8 0))⟩,
 ⟨594, .other,1,8,false,[(.pointer none)]⟩,
 ⟨345, .other,1,8,false,[(.pointer none)]⟩,
 ⟨182, .struct [(0,179),(1,180),(2,145),(3,145),(4,22),(5,22),(6,3)],7,152,true,[(.slice none 0 0),(.slice none 0 0),(.slice none 0 0),(.slice none 0 0),(.slice none 0 0),(.slice none 0 0),(.int .i64 0)]⟩,
 ⟨380, .other,1,8,false,[(.pointer none)]⟩,
 ⟨391, .array 2 390,2,16,true,[(.map none),(.map none)]⟩,
 ⟨461, .slice 9,1,24,false,[(.slice none 0 0)]⟩,
 ⟨321, .other,1,8,false,[.nilFunc]⟩,
 ⟨421, .other,1,8,false,[.nilFunc]⟩,
 ⟨604, .other,1,8,false,[(.pointer none)]⟩,
 ⟨179, .slice 38,1,24,false,[(.slice none 0 0)]⟩,
 ⟨204, .other,1,8,false,[.nilFunc]⟩,
 ⟨205, .other,1,8,false,[.nilFunc]⟩,
 ⟨343, .slice 348,1,24,false,[(.slice none 0 0)]⟩,
 ⟨466, .array 5 465,10,80,true,(List.replicate 10 (.int .u64 0))⟩,
 ⟨11, .str,1,16,false,[(.string ⟨#[]⟩)]⟩,
 ⟨20, .other,1,16,false,[.nilIface]⟩,
 ⟨82, .slice 77,1,24,false,[(.slice none 0 0)]⟩,
 ⟨297, .other,1,8,false,[.nilFunc]⟩,
 ⟨394, .other,1,8,false,[.nilFunc]⟩,
 ⟨500, .other,1,8,false,[.nilFunc]⟩,
 ⟨546, .other,1,8,false,[.nilFunc]⟩,
 ⟨10, .str,1,16,false,[(.string ⟨#[]⟩)]⟩,
 ⟨503, .other,1,8,false,[.nilFunc]⟩,
 ⟨530, .other,1,8,false,[.nilFunc]⟩,
 ⟨12, .int .u64,1,8,false,[(.int .u64 0)]⟩,
 ⟨228, .other,1,8,false,[.nilFunc]⟩,
 ⟨291, .other,1,8,false,[.nilFunc]⟩,
 ⟨408, .other,1,8,false,[.nilFunc]⟩,
 ⟨24, .other,1,8,false,[.nilFunc]⟩,
 ⟨299, .other,1,8,false,[.nilFunc]⟩,
 ⟨311, .other,1,8,false,[.nilFunc]⟩,
 ⟨372, .other,1,8,false,[(.pointer none)]⟩,
 ⟨416, .other,1,8,false,[.nilFunc]⟩,
 ⟨429, .other,1,8,false,[.nilFunc]⟩,
 ⟨431, .other,1,8,false,[.nilFunc]⟩,
 ⟨444, .other,1,8,false,[.nilFunc]⟩,
 ⟨458, .other,1,8,false,[.nilFunc]⟩,
 ⟨488, .slice 368,1,24,false,[(.slice none 0 0)]⟩,
 ⟨532, .other,1,8,false,[.nilFunc]⟩,
 ⟨601, .other,1,8,false,[.nilFunc]⟩,
 ⟨64, .other,1,8,false,[.nilFunc]⟩,
 ⟨407, .other,1,8,false,[.nilFunc]⟩,
 ⟨501, .other,1,8,false,[.nilFunc]⟩,
 ⟨517, .other,1,8,false,[.nilFunc]⟩,
 ⟨519, .other,1,8,false,[.nilFunc]⟩,
 ⟨545, .other,1,8,false,[.nilFunc]⟩,
 ⟨578, .other,1,8,false,[.nilFunc]⟩,
 ⟨32, .other,1,8,false,[.nilFunc]⟩,
 ⟨180, .slice 623,1,24,false,[(.slice none 0 0)]⟩,
 ⟨256, .other,1,8,false,[.nilFunc]⟩,
 ⟨623, .struct [(0,44),(8,46)],11,248,true,[(.slice none 0 0),(.slice none 0 0),(.slice none 0 0),(.slice none 0 0),(.int .u8 0),(.slice none 0 0),(.slice none 0 0),(.slice none 0 0),(.slice none 0 0),(.slice none 0 0),(.slice none 0 0)]⟩]
theorem z6q:mkT Tryz.prog [3,22,4,23,28,5,1,49,218,42,58,53,54,116,368,2,101,57,373,73,62,35,145,240,77,220,188,60,44,38,225,223,268,202,114,9,162,560,25,98,112,110,51,314,70,334,109,275,166,216,304,254,332,99,252,185,264,538,71,590,327,92,157,541,495,133,186,506,284,369,401,46,91,160,411,543,317,567,94,348,484,331,346,152,383,585,6,8,257,280,282,420,237,336,390,465,481,549,7,278,555,85,437,66,360,300,419,127,309,385,474,594,345,182,380,391,461,321,421,604,179,204,205,343,466,11,20,82,297,394,500,546,10,503,530,12,228,291,408,24,299,311,372,416,429,431,444,458,488,532,601,64,407,501,517,519,545,578,32,180,256,623]=Tab:=by kernel_rfl
theorem Tab_ok:TOk Tryz.prog Tab:=z6q▸zrs _
theorem mixed:Tryz.prog.follows .mixedOrders=true:=by kernel_rfl
end
section
structure Leaf where
 box:List UInt8
 sign:List UInt8
 ident:List UInt8
 src:UInt8
 parent:List UInt8
 sig:List UInt8
 deriving DecidableEq
structure Par where
 box:List UInt8
 hash:List UInt8
 late:List Int
 deriving DecidableEq
structure Node where
 kind:UInt8
 leaf:Leaf
 par:Par
 deriving DecidableEq
structure Spot where
 at_:Int
 node:Node
 deriving DecidableEq
structure Stub where
 at_:Int
 hash:List UInt8
 deriving DecidableEq
structure Lean_ where
 leaves:Int
 own:Int
 opn:List Spot
 shut:List Stub
 deriving DecidableEq
abbrev I(n:Int):RV:= .i .i64 n
abbrev U8(c:UInt8):RV:= .i .u8 (c.toNat:Int)
abbrev Er(e:Nat):RV:= .i .u8 (e:Int)
def bs(l:List UInt8):RV:= .sl 1 l.length (l.map U8)
def is(l:List Int):RV:= .sl 1 l.length (l.map I)
abbrev Leaf.c(l:Leaf):List RV:=[bs l.box,bs l.sign,bs l.ident,U8 l.src,bs l.parent,bs l.sig]
abbrev Par.c(p:Par):List RV:=[bs p.box,bs p.hash,is p.late]
abbrev Node.c(n:Node):List RV:=[U8 n.kind,bs n.leaf.box,bs n.leaf.sign,bs n.leaf.ident,U8 n.leaf.src,bs n.leaf.parent,bs n.leaf.sig,bs n.par.box,bs n.par.hash,is n.par.late]
abbrev Spot.c(s:Spot):List RV:=[I s.at_,U8 s.node.kind,bs s.node.leaf.box,bs s.node.leaf.sign,bs s.node.leaf.ident,U8 s.node.leaf.src,bs s.node.leaf.parent,bs s.node.leaf.sig,bs s.node.par.box,bs s.node.par.hash,is s.node.par.late]
abbrev Stub.c(s:Stub):List RV:=[I s.at_,bs s.hash]
def z3g(l:List Spot):RV:= .sl 11 l.length (l.flatMap Spot.c)
def z3h(l:List Stub):RV:= .sl 2 l.length (l.flatMap Stub.c)
abbrev Lean_.c(s:Lean_):List RV:=[I s.leaves,I s.own,z3g s.opn,z3h s.shut]
def i64(n:Int):Prop:= -9223372036854775808<=n/\n<=9223372036854775807
theorem zca{α:Type}{f:α->RV}{l:List α}{i:Int}{j:Nat}(h:i=j)(hj:j<l.length):((l.map f).drop (i.toNat*1)).take 1=[f l[j]]:=by
 subst h
 simp only[Int.toNat_natCast,Nat.mul_one]
 rw[List.drop_eq_getElem_cons (by simpa using hj)]
 simp
theorem zoo{α β:Type}{f:α->List β}{sz:Nat}(hf: ∀x,(f x).length=sz): ∀(l:List α) (j:Nat),(l.flatMap f).drop (j*sz)=(l.drop j).flatMap f
 |l,0=>by simp
 |[],j+1=>by simp
 |x::l,j+1=>by
  simp only[List.flatMap_cons,List.drop_succ_cons]
  rw[List.drop_append,hf,List.drop_eq_nil_of_le (by rw[hf,Nat.add_mul];omega),show(j+1)*sz-sz=j*sz by rw[Nat.add_mul];omega,zoo hf l j]
  simp
theorem zlp{α β:Type}{f:α->List β}{sz:Nat}(hf: ∀x,(f x).length=sz){l:List α}{i:Int}{j:Nat}(h:i=j)(hj:j<l.length):((l.flatMap f).drop (i.toNat*sz)).take sz=f l[j]:=by
 subst h
 rw[Int.toNat_natCast,zoo hf,List.drop_eq_getElem_cons hj,List.flatMap_cons,List.take_append,hf,Nat.sub_self,List.take_zero,List.append_nil,List.take_of_length_le (by rw[hf];omega)]
end
end Go.Proofs.YtebhngeddnnpkaaGreat.Sx
