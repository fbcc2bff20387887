import Derived.Test.YtfjkblpnbgfkeaaGreatZSxO
import Derived.Deep.LoopGhost
import Derived.Test.YtfjkblpnbgfkeaaGreatZSxP
import Derived.Test.YtfjkblpnbgfkeaaGreatProg
import Derived.ProofKit
import Derived.Deep.Slices
import Derived.Deep.Fields
import Derived.SizedLaws
import Derived.Test.YtfjkblpnbgfkeaaGreatRows
import Derived.Below
import Derived.ChangeOld
import Derived.OpenShut
import Derived.RangeFuncNested
import Derived.RangeFuncBound
import Derived.RangeFuncCalls
import Derived.RangeFuncLeaves
import Derived.Shelf.Abstract
import Derived.Shelf.RegionOpen
import Derived.WalkKit
import Derived.OwnWalkIn
import Derived.TacticsInMore
import Derived.LoopNIn
import Derived.LoopIn
import Derived.StillTactics
namespace Go.Proofs.YtfjkblpnbgfkeaaGreat.Sx
open Go.RowKit
section
section
variable {P:Program} {T:TT} {B:Bs} {N:Nat} {S:St} {a:Act} {w:World} {k:Kp} {g:Env} {o:Oper} {Q:Exit->Act->World->Prop}
def renv(ρ:List (Nat×Nat))(g:Env):Env:=λi=>match zbc ρ i with
 |some j=>g j
 |none=>g i
theorem zru{ρ:List (Nat×Nat)}(hs:SatE B N S a w k g){f f':TF}{u:Value}(h:cvTF ρ S f f')(hf:f.at_ w k g u):f'.at_ w k (renv ρ g) u:=by
 cases f' with
 |r v=>
  unfold cvTF at h
  simp only at h
  split at h
  ·simp[TF.at_,RV.at_]
  ·split at h
   ·rename_i v' hv
    exact h w k u (zgy hs hv hf)
   ·exact h.elim
 |own id=>
  simp only[cvTF]at h
  split at h
  ·rename_i j i hj
   subst h
   simp only[TF.at_,renv,hj]at*
   exact hf
  ·exact h.elim
 |adr id off=>
  simp only[cvTF]at h
  split at h
  ·rename_i j i o hj
   obtain⟨rfl,rfl⟩:=h
   simp only[TF.at_,renv,hj]at*
   exact hf
  ·exact h.elim
 |cut id off n=>
  simp only[cvTF]at h
  split at h
  ·rename_i j i o m hj
   obtain⟨rfl,rfl,rfl⟩:=h
   simp only[TF.at_,renv,hj]at*
   exact hf
  ·exact h.elim
 |nm id v=>
  simp only[cvTF]at h
  split at h
  ·rename_i j i u hj
   obtain⟨rfl,rfl⟩:=h
   simp only[TF.at_,renv,hj]at*
   exact hf
  ·exact h.elim
theorem zkv{ρ:List (Nat×Nat)}(hs:SatE B N S a w k g): ∀{cs ds:List TF} {us:List Value},zf3 ρ S cs ds->AllAt (λf u=>u.oneCell'=true/\f.at_ w k g u) cs us->AllAt (λf u=>u.oneCell'=true/\f.at_ w k (renv ρ g) u) ds us
 |[],ds,us,h,hu=>by simp only[zf3]at h;subst h;exact⟨hu.1,λj f u hf=>by simp at hf⟩
 |f::cs,ds,us,h,hu=>by
  simp only[zf3]at h
  obtain⟨f',ds',rfl,h1,h2⟩:=h
  cases us with
  |nil=>have:=hu.1;simp at this
  |cons u us=>
   have h0:=hu.2 0 f u (by simp) (by simp)
   have ih:=zkv hs h2 ⟨by simpa using hu.1,λj f u hf hv=>hu.2 (j+1) f u (by simpa using hf) (by simpa using hv)⟩
   refine⟨by simp[ih.1],λj f2 v hf hv=>?_⟩
   cases j with
   |zero=>simp at hf hv;subst hf;subst hv;exact⟨h0.1,zru hs h1 h0.2⟩
   |succ j=>exact ih.2 j f2 v (by simpa using hf) (by simpa using hv)
theorem zn8{ρ:List (Nat×Nat)}: ∀{F:List (Nat×TF)} {t:Nat} {f:TF},zj3 ρ S F->fget F t=some f->(∃f',fget S.F t=some f'/\cvTF ρ S f' f)/\(t,f)∈F
 |[],t,f,_,h=>by simp[fget]at h
 |(u,f0)::r,t,f,hok,h=>by
  simp only[zj3]at hok
  rcases zbf h with⟨rfl,rfl⟩ |⟨_,h⟩
  ·refine⟨?_,by simp⟩
   have:=hok.1
   split at this
   ·rename_i f' hf';exact⟨f',hf',this⟩
   ·exact this.elim
  ·have:=zn8 hok.2 h
   exact⟨this.1,List.mem_cons_of_mem _ this.2⟩
theorem zdj{ρ:List (Nat×Nat)}: ∀{O:List (Nat×Option Ow)} {id:Nat} {o:Ow},zkh ρ S O->oget O id=some o->(∃j o',zbc ρ id=some j/\oget S.O j=some o'/\cvOw ρ S o' o)/\(id,some o)∈O
 |[],id,o,_,h=>by simp[oget]at h
 |(u,o0)::r,id,o,hok,h=>by
  simp only[zkh]at hok
  rcases zao h with⟨rfl,rfl⟩ |⟨_,h⟩
  ·refine⟨?_,by simp⟩
   have:=hok.1
   split at this
   ·rename_i o1 j he hj
    cases he
    split at this
    ·rename_i o' ho';exact⟨j,o',hj,ho',this⟩
    ·exact this.elim
   ·exact this.elim
  ·have:=zdj hok.2 h
   exact⟨this.1,List.mem_cons_of_mem _ this.2⟩
theorem zqj{n:Nat}: ∀{f:TF},ltB n f=true->f.lt n
 | .r _,_=>trivial
 | .own id,h=>by simp[ltB,Nat.blt]at h;simp[TF.lt];omega
 | .adr id _,h=>by simp[ltB,Nat.blt]at h;simp[TF.lt];omega
 | .nm id _,h=>by simp[ltB,Nat.blt]at h;simp[TF.lt];omega
 | .cut id _ _,h=>by simp[ltB,Nat.blt]at h;simp[TF.lt];omega
theorem zwk{n:Nat}: ∀{o:Ow},zeu n o=true->o.lt n
 | .box cells,h=>λf hf=>zqj (by simp[zeu]at h;exact h f hf)
 | .ch ..,_=>trivial
 | .gen _,_=>trivial
theorem zji: ∀{ρ:List (Nat×Nat)} {i j:Nat},zbc ρ i=some j->(i,j)∈ρ
 |[],i,j,h=>by simp[zbc]at h
 |(u,f)::r,i,j,h=>by
  simp only[zbc]at h
  split at h
  ·rename_i hb;cases h;rw[<-Nat.eq_of_beq_eq_true hb];simp
  ·exact List.mem_cons_of_mem _ (zji h)
theorem zcc: ∀{l:List Nat},ze1 l=true->l.Nodup
 |[],_=>List.nodup_nil
 |x::r,h=>by
  simp only[ze1,Bool.and_eq_true,Bool.not_eq_true',List.any_eq_false]at h
  refine List.nodup_cons.2 ⟨λhx=>?_,zcc h.2⟩
  have:=h.1 x hx
  simp at this
theorem zwm: ∀{ρ:List (Nat×Nat)} {i i' j:Nat},(ρ.map (·.2)).Nodup->(i,j)∈ρ->(i',j)∈ρ->i=i'
 |[],_,_,_,_,m,_=>by cases m
 |x::r,i,i',j,hn,m,m'=>by
  simp only[List.map_cons,List.nodup_cons]at hn
  rcases List.mem_cons.1 m with e |m1
  ·rcases List.mem_cons.1 m' with e' |m1'
   ·rw[<-e]at e';cases e';rfl
   ·exact absurd (by rw[<-e];exact List.mem_map.2 ⟨(i',j),m1',rfl⟩) hn.1
  ·rcases List.mem_cons.1 m' with e' |m1'
   ·exact absurd (by rw[<-e'];exact List.mem_map.2 ⟨(i,j),m1,rfl⟩) hn.1
   ·exact zwm hn.2 m1 m1'
theorem ztt{ρ:List (Nat×Nat)}(hn:(ρ.map (·.2)).Nodup){i i' j:Nat}(h:zbc ρ i=some j)(h':zbc ρ i'=some j):i=i':=
 zwm hn (zji h) (zji h')
theorem Cvs.length: ∀{cs ds:List RV},Cvs cs ds->ds.length=cs.length
 |[],ds,h=>by simp only[Cvs]at h;subst h;rfl
 |x::cs,ds,h=>by
  simp only[Cvs]at h
  obtain⟨g,r,rfl,_,h⟩:=h
  simp[Cvs.length h]
theorem zac(ρ:List (Nat×Nat)){S S':St}(h0:stOk ρ S'=true)(h1:zj3 ρ S S'.F)(h2:zkh ρ S S'.O):Sub S S':=by
 intro B N a w k ⟨g,hs⟩
 simp only[stOk,Bool.and_eq_true,List.all_eq_true]at h0
 obtain⟨⟨⟨hF,hO⟩,hn2⟩,_⟩:=h0
 refine⟨k,renv ρ g,hs.size,hs.defers,hs.keep,hs.kk,λt f hf=>?_,λid o ho=>?_,λi j o o' b hi hj hne hbi hbj=>?_⟩
 ·obtain⟨⟨f',hf',hc⟩,hm⟩:=zn8 h1 hf
  exact⟨zqj (hF _ hm),zru hs hc (hs.facts t f' hf').2⟩
 ·obtain⟨⟨j,o',hj,ho',hc⟩,hm⟩:=zdj h2 ho
  have hlt:=hO _ hm
  obtain⟨q1,q2,q3,q4⟩:=hs.owns j o' ho'
  have hren:renv ρ g id=g j:=by simp[renv,hj]
  refine⟨by have:=hlt.1;simp[Nat.blt]at this;omega,zwk hlt.2,?_,by rw[hren];exact q4⟩
  rw[hren]
  cases o' with
  |box cs=>
   cases o with
   |box ds=>
    simp only[Ow.at_]at q3⊢
    obtain⟨b,cur,t,e,hh,hk,hsz,hall⟩:=q3
    have hds:=zkv (us:=cur.toList) hs hc ⟨by rw[Array.length_toList,hsz],λj f u hf hu=>hall j f u hf (by simpa using hu)⟩
    exact⟨b,cur,t,e,hh,hk,by rw[<-Array.length_toList,hds.1],λj f u hf hu=>hds.2 j f u hf (by simpa using hu)⟩
   |ch=>exact hc.elim
   |gen=>exact hc.elim
  |gen p=>
   cases o with
   |gen q=>exact hc w k _ q3
   |box=>exact hc.elim
   |ch=>exact hc.elim
  |ch e sz n cs pub=>
   cases o with
   |box=>exact hc.elim
   |gen=>exact hc.elim
   |ch e' sz' n' ds pub'=>
    obtain⟨rfl,rfl,rfl,rfl,hcs⟩:=hc
    simp only[Ow.at_]at q3⊢
    obtain⟨r1,r2⟩:=q3
    have hlen:ds.length=cs.length:=Cvs.length hcs
    refine⟨by rw[hlen];exact r1,?_⟩
    rcases r2 with⟨h0,r2 |⟨hn,hp,b,o,e,hm,hb,hc⟩⟩ |⟨b,cap,cur,e1,e2,hh,s1,s2,s3,s4,s5⟩
    ·exact .inl ⟨h0, .inl r2⟩
    ·exact .inl ⟨h0, .inr ⟨hn,hp,b,o,e,hm,hb,hcs.cells hc⟩⟩
    ·exact .inr ⟨b,cap,cur,e1,e2,hh,s1,s2,s3,s4,hcs.list s5⟩
 ·obtain⟨⟨i',oi,hi',hoi,_⟩,_⟩:=zdj h2 hi
  obtain⟨⟨j',oj,hj',hoj,_⟩,_⟩:=zdj h2 hj
  simp only[renv,hi']at hbi
  simp only[renv,hj']at hbj
  refine hs.apart i' j' oi oj b hoi hoj (λe=>?_) hbi hbj
  subst e
  exact hne (ztt (zcc hn2) hi' hj')
theorem zav(hm:P.follows .mixedOrders=true)(hT:TOk P T): ∀(c:Code) (S:St) (Q:Exit->St->Prop),vcg P T c S Q->zyh P c S Q
 | .skip,S,Q,h=>λB N a w k Q' hs _ hQ=>wp_skip (hQ _ S a w k h hs)
 | .region id ops draw,S,Q,h=>λB N a w k Q' hs hd hQ=>by
  have hN: ∀o∈ops.toList,∀d,o.dst=some d->d<N:=λo ho d hod=>by
   simp only[za2,List.all_eq_true]at hd
   have h1:=hd o ho
   simp only[hod]at h1
   exact Nat.le_of_ble_eq_true h1
  cases draw with
  |false=>
   simp only[vcg]at h
   split at h
   ·have:=zgx (Q:=Q') hT hN (λ_ h=>h) hs h λS' a' w' k' hq hs'=>hQ _ S' a' w' k' hq hs'
    exact wp_region_list this
   ·exact h.out B N a w k Q' hs hd hQ
  |true=>
   simp only[vcg]at h
   split at h
   ·obtain⟨hok,h⟩ |h |h:=h
    ·exact zuh hm hT hN hs hok h λS' a' w' k' hq hs'=>hQ _ S' a' w' k' hq hs'
    ·exact zxn hm hT hN hs h λS' a' w' k' hq hs'=>hQ _ S' a' w' k' hq hs'
    ·exact h.out B N a w k Q' hs hd hQ
   ·rename_i l d v hfree
    obtain⟨hok,h⟩ |h:=h
    case inr=>exact h.elim
    exact zui hm hT hN hs hfree hok h λS' a' w' k' hq hs'=>hQ _ S' a' w' k' hq hs'
 | .seq x y,S,Q,h=>λB N a w k Q' hs hd hQ=>by
  simp only[za2,Bool.and_eq_true]at hd
  simp only[vcg]at h
  refine wp_seq (zav hm hT x S _ h B N a w k _ hs hd.1 λe S' a' w' k' hq hs'=>?_)
  cases e with
  |normal=>exact zav hm hT y S' Q hq B N a' w' k' Q' hs' hd.2 hQ
  |_=>exact hQ _ S' a' w' k' hq hs'
 | .cond c x y,S,Q,h=>λB N a w k Q' hs hd hQ=>by
  simp only[za2,Bool.and_eq_true]at hd
  simp only[vcg]at h
  split at h
  ·rename_i β hc
   obtain⟨g,hs'⟩:=hs
   have hev:=(zaf hs' hc).2
   simp only[TF.at_,RV.at_]at hev
   refine wp_cond_split hev (λht=>?_) λhf=>?_
   ·exact zav hm hT x S Q (h.out.1 ht) B N a w k Q' ⟨g,hs'⟩ hd.1 hQ
   ·exact zav hm hT y S Q (h.out.2 hf) B N a w k Q' ⟨g,hs'⟩ hd.2 hQ
  ·exact h.elim
 | .block id c,S,Q,h=>λB N a w k Q' hs hd hQ=>by
  simp only[vcg]at h
  refine wp_block (zav hm hT c S _ h B N a w k _ hs hd λe S' a' w' k' hq hs'=>?_)
  cases e with
  |exit id'=>
   simp only[Exit.inBlock]
   simp only[z2m]at hq
   split at hq
   ·rename_i hb;rw[if_pos (Nat.eq_of_beq_eq_true hb)];exact hQ _ S' a' w' k' hq hs'
   ·rename_i hb;rw[if_neg (Nat.ne_of_beq_eq_false hb)];exact hQ _ S' a' w' k' hq hs'
  |_=>exact hQ _ S' a' w' k' hq hs'
 | .loop c,S,Q,h=>λB N a w k Q' hs hd hQ=>by
  simp only[vcg]at h
  obtain⟨⟨ι,inv,R,μ,⟨i0,hR0,hsub⟩,hround⟩ |h⟩:=h
  case inr=>exact h.out B N a w k Q' hs hd hQ
  obtain⟨k0,hs0⟩:=hsub B N a w k hs
  refine wp_loop_ghost (λn a w=>∃i k,R i/\μ i=n/\Sat B N (inv i) a w k) (μ i0) ⟨i0,k0,hR0,rfl,hs0⟩ ?_
  rintro n a' w' ⟨i,k',hR,rfl,hs'⟩
  rcases hround with hround |hround
  ·refine zav hm hT c (inv i) _ (hround i hR) B N a' w' k' _ hs' hd λe S' a2 w2 k2 hq hs2=>?_
   cases e with
   |normal=>
    obtain⟨i',hR',hlt,hsub'⟩:=hq
    obtain⟨k3,hs3⟩:=hsub' B N a2 w2 k2 hs2
    exact⟨μ i',hlt,i',k3,hR',rfl,hs3⟩
   |_=>exact hQ _ S' a2 w2 k2 hq hs2
  ·refine zav hm hT c (inv i) _ (hround i hR) B N a' w' k' _ hs' hd λe S' a2 w2 k2 hq hs2=>?_
   cases e with
   |normal=>
    obtain⟨i',hR',hlt,hsub'⟩:=hq
    obtain⟨k3,hs3⟩:=hsub' B N a2 w2 k2 hs2
    exact⟨μ i',hlt,i',k3,hR',rfl,hs3⟩
   |_=>
    obtain⟨S2,hsub2,hq⟩:=hq
    obtain⟨k3,hs3⟩:=hsub2 B N a2 w2 k2 hs2
    exact hQ _ S2 a2 w2 k3 hq hs3
 | .exit id,S,Q,h=>λB N a w k Q' hs _ hQ=>wp_exit (hQ _ S a w k h hs)
 | .ret,S,Q,h=>λB N a w k Q' hs _ hQ=>wp_ret (hQ _ S a w k h hs)
 | .label l,S,Q,h=>λB N a w k Q' hs _ hQ=>wp_label (hQ _ S a w k h hs)
 | .goto l,S,Q,h=>λB N a w k Q' hs _ hQ=>wp_goto (hQ _ S a w k h hs)
 | .scope c,S,Q,h=>h.out
 | .rangeFunc _ _ _ _,S,Q,h=>h.out
 | .refuse _,S,Q,h=>h.elim
theorem Vrounds.step(hm:P.follows .mixedOrders=true)(hT:TOk P T){c:Code}{n:Nat}{Q:Exit->St->Prop}(h:vcg P T c S (seqK (λS' Q=>Vrounds P c n S' Q) Q)):Vrounds P c (n+1) S Q:=
 ⟨λB N a w k Q' hs hd hQ=>zav hm hT c S _ h B N a w k _ hs hd λe S' a' w' k' hq hs'=>by
  cases e with
  |normal=>exact hq.out B N a' w' k' Q' hs' hd hQ
  |_=>exact hQ _ S' a' w' k' hq hs'⟩
end
section
variable {P:Program} {T:TT} {B:Bs} {N:Nat} {S:St} {a:Act} {w:World} {k:Kp} {g:Env}
theorem zss: ∀{l:List RV} {n t:Nat} {f:TF} {us:List Value},RV.partsAt w k l us->fget (zpm n l) t=some f->∃v,f= .r v/\n<=t/\∃u,us[t-n]?=some u/\v.at_ w k u
 |[],_,_,_,_,_,h=>by simp[zpm,fget]at h
 |v::r,n,t,f,us,hp,h=>by
  simp only[RV.partsAt]at hp
  obtain⟨u,us',rfl,h1,h2⟩:=hp
  simp only[zpm]at h
  rcases zbf h with⟨rfl,rfl⟩ |⟨hne,h⟩
  ·exact⟨v,rfl,Nat.le_refl _,u,by simp,h1⟩
  ·obtain⟨v',e,hle,u',hu',h3⟩:=zss h2 h
   refine⟨v',e,by omega,u',?_,h3⟩
   rw[show t-n=(t-(n+1))+1 by omega]
   simpa using hu'
theorem zod: ∀{l:List RV} {us:List Value},RV.partsAt w k l us->us.length=l.length
 |[],us,h=>by simp only[RV.partsAt]at h;subst h;rfl
 |v::r,us,h=>by
  simp only[RV.partsAt]at h
  obtain⟨u,us',rfl,_,h2⟩:=h
  simp[zod h2]
theorem zm2{args:List RV}{vs:List Value}(hp:RV.partsAt w k args vs){n:Nat}(hn:args.length<=n):
  Sat ⟨w,k,[],[]⟩ n (St.args args) {tmps:=vs.toArray++Array.replicate (n-vs.toArray.size) undef,defers:=[]} w k:=by
 have hl:=zod hp
 refine⟨λ_=>(undef,none),by simp;omega,rfl,⟨rfl,rfl,rfl,Nat.le_refl _,λ_ _ _=>rfl⟩,λ_ _ _=>rfl,λt f hf=>?_,λid o ho=>by simp[St.args,oget]at ho,λi j o o' b hi=>by simp[St.args,oget]at hi⟩
 obtain⟨v,rfl,_,u,hu,hat⟩:=zss hp hf
 rw[Nat.sub_zero]at hu
 refine⟨trivial,?_⟩
 have hlt:t<vs.length:=(List.getElem?_eq_some_iff.1 hu).1
 have:(vs.toArray++Array.replicate (n-vs.toArray.size) undef)[t]?=some u:=by
  rw[Array.getElem?_append_left (by simpa using hlt)]
  simpa using hu
 simp only[TF.at_,Array.getD_eq_getD_getElem?,this,Option.getD_some]
 exact hat
def zns(tmps:Array Value)(x:ResultVar):Sem Value:=
 match x with
 | .tmp t=>pure (tmps.getD t undef)
 | .cell p t=>do loadVar t (<-asAddr (tmps.getD p undef))
theorem zgt(fn:Func)(tmps:Array Value):results fn tmps=(do
  let vs<-fn.results.mapM (zns tmps)
  pure (if h:vs.size=1 then vs[0]else .tuple vs)):=by
 unfold results
 congr 2
theorem zll(hT:TOk P T)(hs:SatE B N S a w k g){x:ResultVar}{K:TF->Prop}(h:resv T S x K):
  ∃f v,K f/\f.at_ w k g v/\(zns a.tmps x).run P w= .ok v w:=by
 cases x with
 |tmp t=>
  simp only[resv]at h
  split at h
  ·rename_i f hf
   exact⟨f,_,h,(hs.facts t f hf).2,rfl⟩
  ·exact h.elim
 |cell p t=>
  simp only[resv]at h
  split at h
  ·rename_i f ti hf hti
   obtain⟨q,hq⟩:=hT.get hti
   obtain⟨f',v,hK,_,hat,hr⟩:=zte hs q hq (hs.facts p f hf).2 h
   refine⟨f',v,hK,hat,?_⟩
   cases hv:a.tmps.getD p undef with
   |pointer ad=>
    cases ad with
    |some ad=>rw[hv]at hr;simp only[Instr.loadAt,Instr.sureAddr,Sem.run_bind,Sem.run_pure,Result.andThen_ok]at hr;simp only[zns,hv,asAddr,Sem.run_bind,Sem.run_pure,Result.andThen_ok];exact hr
    |none=>rw[hv]at hr;simp[Instr.loadAt,Instr.sureAddr]at hr
   |_=>rw[hv]at hr;simp[Instr.loadAt,Instr.sureAddr]at hr
  ·exact h.elim
theorem zju(hT:TOk P T)(hs:SatE B N S a w k g): ∀{xs:List ResultVar} {K:List RV->Prop},zq3 T S xs K->
  ∃rs vs,K rs/\RV.partsAt w k rs vs/\vs.length=xs.length/\(xs.mapM (zns a.tmps)).run P w= .ok vs w
 |[],K,h=>⟨[],[],h,by simp[RV.partsAt],rfl,by simp⟩
 |x::r,K,h=>by
  simp only[zq3]at h
  obtain⟨f,v,h1,hat,hr⟩:=zll hT hs h
  split at h1
  ·rename_i rv hrv
   obtain⟨rs,vs,hK,hp,hlen,hr2⟩:=zju hT hs h1
   refine⟨_,v::vs,hK,by simp only[RV.partsAt];exact⟨v,vs,rfl,zgy hs hrv hat,hp⟩,by simp[hlen],?_⟩
   rw[List.mapM_cons,Sem.run_bind,hr]
   simp[hr2]
  ·exact h1.elim
theorem zpg(hT:TOk P T){fn:Func}{res:Res}{e:Exit}{S':St}{a':Act}{w':World}{k':Kp}(hq:finv T fn.results res e S')(hs':Sat ⟨w,k,[],[]⟩ N S' a' w' k'):
  bodyPost P fn (λe w'=>∃v,e=Ending.returned v/\Ext w w'/\∃k':Kp,(∀b,b<w.heap.size->k' b=k b)/\res.at_ w.heap.size w' k' v) e a' w':=by
 have fin:finv T fn.results res .ret S'->a'.defers=[]/\∃v,(results fn a'.tmps).run P w'= .ok v w'/\
   (λe w'=>∃v,e=Ending.returned v/\Ext w w'/\∃k':Kp,(∀b,b<w.heap.size->k' b=k b)/\res.at_ w.heap.size w' k' v) (.returned v) w':=by
  intro hq
  obtain⟨g,hs'⟩:=hs'
  have hext:Ext w w':=⟨hs'.keep.os,hs'.keep.tape,hs'.keep.output,hs'.keep.size,λb hb=>hs'.keep.block b hb (by simp)⟩
  have hkk: ∀b,b<w.heap.size->k' b=k b:=λb hb=>hs'.kk b hb (by simp)
  refine⟨hs'.defers,?_⟩
  simp only[finv]at hq
  unfold retv at hq
  split at hq
  ·rename_i x hx
   obtain⟨fr,v,hret,hat,hr⟩:=zll hT hs' hq
   refine⟨v,?_,v,rfl,hext,k',hkk,?_⟩
   ·have hx':fn.results= #[x]:=by apply Array.ext';simpa using hx
    rw[zgt,hx',Array.mapM_eq_mapM_toList]
    simp only[Sem.run_bind,Sem.run_map,List.mapM_cons,List.mapM_nil,hr]
    simp
   ·unfold Vret at hret
    split at hret
    ·split at hret
     ·rename_i v' hv'
      exact hret w' k' v (zgy hs' hv' hat)
     ·exact hret.elim
    ·split at hret
     ·rename_i e sz n cells id
      have ho:=hs'.owns id _ hret
      simp only[Ow.at_]at ho
      simp only[TF.at_]at hat
      subst hat
      refine⟨_,ho.2.2.1,λb hb=>?_⟩
      rcases(ho.2.2.2 b hb).1 with h |h
      ·exact h
      ·simp at h
     ·exact hret.elim
    ·split at hret
     ·rename_i e sz n cells id
      have ho:=hs'.owns id _ hret
      simp only[Ow.at_]at ho
      simp only[TF.at_]at hat
      subst hat
      refine⟨_,ho.2.2.1,λb hb=>?_⟩
      rcases(ho.2.2.2 b hb).1 with h |h
      ·exact h
      ·simp at h
     ·exact hret.elim
    ·split at hret
     ·rename_i cells id
      have ho:=hs'.owns id _ hret
      simp only[Ow.at_]at ho
      obtain⟨q1,q2,⟨b,cur,t,e,hh,hkb,hsz,hc⟩,q4⟩:=ho
      simp only[TF.at_]at hat
      rw[e]at hat q4
      refine⟨b,cur,t,hat,?_,hh,hkb,by simpa using hsz,λj f u hf hu=>?_⟩
      ·rcases(q4 b rfl).1 with h |h
       ·exact h
       ·simp at h
      ·exact hc j (.r f) u (by rw[List.getElem?_map,hf];rfl) hu
     ·exact hret.elim
  ·rename_i hxs
   obtain⟨rs,vs,⟨rv,rfl,hcv⟩,hp',hlen,hr⟩:=zju hT hs' hq
   refine⟨.tuple vs.toArray,?_, .tuple vs.toArray,rfl,hext,k',hkk,?_⟩
   ·rw[zgt,Array.mapM_eq_mapM_toList]
    simp only[Sem.run_bind,Sem.run_map,hr]
    have hne:vs.length≠1:=by
     intro he
     rw[hlen]at he
     obtain⟨x,hx⟩:=List.length_eq_one_iff.1 he
     exact hxs x hx
    simp[hne]
   ·exact hcv w' k' _ (by simp only[RV.at_];exact⟨vs.toArray,rfl,hp'⟩)
 cases e with
 |ret=>exact fin hq
 |normal=>exact fin hq
 |_=>exact hq.elim
theorem zbo{f:FuncId}{fn:Func}{args:List RV}{res:Res}{c:Code}(hm:P.follows .mixedOrders=true)(hT:TOk P T)(hf:P.funcs[f]?=some fn)(hb:fn.body=some c)
  (hk:(Nat.ble args.length fn.ntmps&&(za2 fn.ntmps c&& !(fn.name== "runtime.NumGoroutine")))=true)
  (h:vcg P T c (St.args args) λe S=>∃S',Sub S S'/\finv T fn.results res e S'):zab P f args res:=by
 simp only[Bool.and_eq_true,Nat.ble_eq,Bool.not_eq_true',beq_eq_false_iff_ne]at hk
 obtain⟨hn,hd,hname⟩:=hk
 refine⟨⟨fn,c,hf,hb,hname⟩,λw k vs hp=>?_⟩
 refine calls_of_wp hf hb ?_
 refine zav hm hT c _ _ h ⟨w,k,[],[]⟩ fn.ntmps _ w k _ (zm2 hp hn) hd λe S0 a' w' k0 ⟨S',hsub,hq⟩ hs0=>?_
 obtain⟨k',hs'⟩:=hsub _ _ _ _ _ hs0
 exact zpg hT hq hs'
theorem zaa{f:FuncId}{fn:Func}{args:List RV}{res:Res}{c:Code}(hm:P.follows .mixedOrders=true)(hT:TOk P T)(hf:P.funcs[f]?=some fn)(hb:fn.body=some c)
  (hk:(Nat.ble args.length fn.ntmps&&(za2 fn.ntmps c&& !(fn.name== "runtime.NumGoroutine")))=true)
  (h:vcg P T c (St.args args) (finv T fn.results res)):zab P f args res:=by
 simp only[Bool.and_eq_true,Nat.ble_eq,Bool.not_eq_true',beq_eq_false_iff_ne]at hk
 obtain⟨hn,hd,hname⟩:=hk
 refine⟨⟨fn,c,hf,hb,hname⟩,λw k vs hp=>?_⟩
 refine calls_of_wp hf hb ?_
 refine zav hm hT c _ _ h ⟨w,k,[],[]⟩ fn.ntmps _ w k _ (zm2 hp hn) hd λe S' a' w' k' hq hs'=>?_
 exact zpg hT hq hs'
end
end
section
def Tab:TT:=[
 ⟨3, .int .i64,1,8,false,[(.int .i64 0)]⟩,
 ⟨4, .bool,1,1,false,[(.bool false)]⟩,
 ⟨22, .slice 5,1,24,false,[(.slice none 0 0)]⟩,
 ⟨107, .int .u64,1,8,false,[(.int .u64 0)]⟩,
 ⟨70, .slice 3,1,24,false,[(.slice none 0 0)]⟩,
 ⟨5, .int .u8,1,1,false,[(.int .u8 0)]⟩,
 ⟨112, .struct [(0,110)],5,40,true,[(.int .u64 0),(.int .u64 0),(.int .u64 0),(.int .u64 0),(.int .u64 0)]⟩,
 ⟨1, .other,1,8,false,[.nilFunc]⟩,
 ⟨245, .int .u32,1,4,false,[(.int .u32 0)]⟩,
 ⟨47, .int .u8,1,1,false,[(.int .u8 0)]⟩,
 ⟨84, .struct [(0,5),(1,40),(7,82)],10,208,true,[(.int .u8 0),(.slice none 0 0),(.slice none 0 0),(.slice none 0 0),(.int .u8 0),(.slice none 0 0),(.slice none 0 0),(.slice none 0 0),(.slice none 0 0),(.slice none 0 0)]⟩,
 ⟨44, .slice 74,1,24,false,[(.slice none 0 0)]⟩,
 ⟨40, .struct [(0,22),(1,22),(2,22),(3,5),(4,22),(5,22)],6,128,true,[(.slice none 0 0),(.slice none 0 0),(.slice none 0 0),(.int .u8 0),(.slice none 0 0),(.slice none 0 0)]⟩,
 ⟨51, .slice 84,1,24,false,[(.slice none 0 0)]⟩,
 ⟨159, .int .u64,1,8,false,[(.int .u64 0)]⟩,
 ⟨74, .struct [(0,3),(1,22)],2,32,true,[(.int .i64 0),(.slice none 0 0)]⟩,
 ⟨24, .slice 22,1,24,false,[(.slice none 0 0)]⟩,
 ⟨38, .struct [(0,3),(1,3),(2,35),(3,36)],4,64,true,[(.int .i64 0),(.int .i64 0),(.slice none 0 0),(.slice none 0 0)]⟩,
 ⟨2, .int .i64,1,8,false,[(.int .i64 0)]⟩,
 ⟨193, .slice 107,1,24,false,[(.slice none 0 0)]⟩,
 ⟨207, .struct [(0,112),(5,112),(10,112),(15,112),(20,4)],21,168,true,[(.int .u64 0),(.int .u64 0),(.int .u64 0),(.int .u64 0),(.int .u64 0),(.int .u64 0),(.int .u64 0),(.int .u64 0),(.int .u64 0),(.int .u64 0),(.int .u64 0),(.int .u64 0),(.int .u64 0),(.int .u64 0),(.int .u64 0),(.int .u64 0),(.int .u64 0),(.int .u64 0),(.int .u64 0),(.int .u64 0),(.bool false)]⟩,
 ⟨128, .struct [(0,3),(1,3),(2,125),(3,126)],4,32,true,[(.int .i64 0),(.int .i64 0),(.map none),(.map none)]⟩,
 ⟨212, .struct [(0,210)],4,32,true,[(.int .u64 0),(.int .u64 0),(.int .u64 0),(.int .u64 0)]⟩,
 ⟨35, .slice 96,1,24,false,[(.slice none 0 0)]⟩,
 ⟨210, .array 4 107,4,32,true,[(.int .u64 0),(.int .u64 0),(.int .u64 0),(.int .u64 0)]⟩,
 ⟨378, .struct [(0,107),(1,107)],2,16,true,[(.int .u64 0),(.int .u64 0)]⟩,
 ⟨82, .struct [(0,22),(1,22),(2,70)],3,72,true,[(.slice none 0 0),(.slice none 0 0),(.slice none 0 0)]⟩,
 ⟨32, .other,1,8,false,[(.pointer none)]⟩,
 ⟨9, .str,1,16,false,[(.string ⟨#[]⟩)]⟩,
 ⟨46, .struct [(0,38),(4,43),(11,44),(12,24),(13,22)],14,288,true,[(.int .i64 0),(.int .i64 0),(.slice none 0 0),(.slice none 0 0),(.slice none 0 0),(.slice none 0 0),(.slice none 0 0),(.int .u8 0),(.slice none 0 0),(.slice none 0 0),(.slice none 0 0),(.slice none 0 0),(.slice none 0 0),(.slice none 0 0)]⟩,
 ⟨110, .array 5 107,5,40,true,[(.int .u64 0),(.int .u64 0),(.int .u64 0),(.int .u64 0),(.int .u64 0)]⟩,
 ⟨43, .struct [(0,40),(6,41)],7,152,true,[(.slice none 0 0),(.slice none 0 0),(.slice none 0 0),(.int .u8 0),(.slice none 0 0),(.slice none 0 0),(.slice none 0 0)]⟩,
 ⟨96, .struct [(0,3),(1,84)],11,216,true,[(.int .i64 0),(.int .u8 0),(.slice none 0 0),(.slice none 0 0),(.slice none 0 0),(.int .u8 0),(.slice none 0 0),(.slice none 0 0),(.slice none 0 0),(.slice none 0 0),(.slice none 0 0)]⟩,
 ⟨54, .struct [(0,51),(1,52),(2,24),(3,3)],4,80,true,[(.slice none 0 0),(.slice none 0 0),(.slice none 0 0),(.int .i64 0)]⟩,
 ⟨201, .struct [(0,112),(5,112)],10,80,true,(List.replicate 10 (.int .u64 0))⟩,
 ⟨36, .slice 99,1,24,false,[(.slice none 0 0)]⟩,
 ⟨125, .other,1,8,false,[(.map none)]⟩,
 ⟨312, .int .u64,1,8,false,[(.int .u64 0)]⟩,
 ⟨68, .slice 72,1,24,false,[(.slice none 0 0)]⟩,
 ⟨331, .array 8 107,8,64,true,[(.int .u64 0),(.int .u64 0),(.int .u64 0),(.int .u64 0),(.int .u64 0),(.int .u64 0),(.int .u64 0),(.int .u64 0)]⟩,
 ⟨52, .slice 44,1,24,false,[(.slice none 0 0)]⟩,
 ⟨41, .slice 77,1,24,false,[(.slice none 0 0)]⟩,
 ⟨144, .other,1,8,false,[.nilFunc]⟩,
 ⟨187, .slice 190,1,24,false,[(.slice none 0 0)]⟩,
 ⟨227, .struct [(0,70),(1,35)],2,48,true,[(.slice none 0 0),(.slice none 0 0)]⟩,
 ⟨246, .array 8 245,8,32,true,[(.int .u32 0),(.int .u32 0),(.int .u32 0),(.int .u32 0),(.int .u32 0),(.int .u32 0),(.int .u32 0),(.int .u32 0)]⟩,
 ⟨126, .other,1,8,false,[(.map none)]⟩,
 ⟨190, .struct [(0,3),(1,3),(2,3)],3,24,true,[(.int .i64 0),(.int .i64 0),(.int .i64 0)]⟩,
 ⟨333, .array 80 107,80,640,true,(List.replicate 80 (.int .u64 0))⟩,
 ⟨254, .int .i64,1,8,false,[(.int .i64 0)]⟩,
 ⟨99, .struct [(0,3),(1,22)],2,32,true,[(.int .i64 0),(.slice none 0 0)]⟩,
 ⟨299, .array 64 245,64,256,true,(List.replicate 64 (.int .u32 0))⟩,
 ⟨72, .struct [(0,3),(1,70),(2,22)],3,56,true,[(.int .i64 0),(.slice none 0 0),(.slice none 0 0)]⟩,
 ⟨77, .struct [(0,22),(1,75)],2,48,true,[(.slice none 0 0),(.slice none 0 0)]⟩,
 ⟨383, .array 256 5,256,256,true,(List.replicate 256 (.int .u8 0))⟩,
 ⟨296, .int .i64,1,8,false,[(.int .i64 0)]⟩,
 ⟨75, .slice 281,1,24,false,[(.slice none 0 0)]⟩,
 ⟨78, .slice 82,1,24,false,[(.slice none 0 0)]⟩,
 ⟨177, .array 32 5,32,32,true,(List.replicate 32 (.int .u8 0))⟩,
 ⟨266, .struct [(0,107),(1,107)],2,16,true,[(.int .u64 0),(.int .u64 0)]⟩,
 ⟨348, .struct [(0,22),(1,22)],2,48,true,[(.slice none 0 0),(.slice none 0 0)]⟩,
 ⟨219, .slice 40,1,24,false,[(.slice none 0 0)]⟩,
 ⟨240, .other,1,8,false,[.nilFunc]⟩,
 ⟨295, .other,1,8,false,[.nilFunc]⟩,
 ⟨124, .other,1,8,false,[.nilFunc]⟩,
 ⟨306, .array 64 5,64,64,true,(List.replicate 64 (.int .u8 0))⟩,
 ⟨316, .other,1,8,false,[(.pointer none)]⟩,
 ⟨199, .slice 9,1,24,false,[(.slice none 0 0)]⟩,
 ⟨205, .other,1,8,false,[.nilFunc]⟩,
 ⟨297, .other,1,8,false,[.nilFunc]⟩,
 ⟨340, .other,1,8,false,[(.pointer none)]⟩,
 ⟨267, .array 5 266,10,80,true,(List.replicate 10 (.int .u64 0))⟩,
 ⟨20, .other,1,16,false,[.nilIface]⟩,
 ⟨66, .struct [(0,5),(1,5)],2,2,true,[(.int .u8 0),(.int .u8 0)]⟩,
 ⟨180, .other,1,8,false,[(.pointer none)]⟩,
 ⟨237, .other,1,8,false,[.nilFunc]⟩,
 ⟨336, .other,1,8,false,[.nilFunc]⟩,
 ⟨281, .struct [(0,22),(1,22)],2,48,true,[(.slice none 0 0),(.slice none 0 0)]⟩,
 ⟨61, .slice 66,1,24,false,[(.slice none 0 0)]⟩,
 ⟨139, .other,1,8,false,[.nilFunc]⟩,
 ⟨181, .slice 180,1,24,false,[(.slice none 0 0)]⟩,
 ⟨7, .struct [(0,2),(1,3),(2,4),(3,6)],4,24,true,[(.int .i64 0),(.int .i64 0),(.bool false),(.int .u8 0)]⟩,
 ⟨8, .struct [(0,2),(1,3),(2,4),(3,6)],4,24,true,[(.int .i64 0),(.int .i64 0),(.bool false),(.int .u8 0)]⟩,
 ⟨146, .other,1,8,false,[.nilFunc]⟩,
 ⟨218, .other,1,8,false,[.nilFunc]⟩,
 ⟨239, .other,1,8,false,[.nilFunc]⟩,
 ⟨249, .other,1,8,false,[(.pointer none)]⟩,
 ⟨292, .other,1,8,false,[.nilFunc]⟩,
 ⟨303, .slice 245,1,24,false,[(.slice none 0 0)]⟩,
 ⟨374, .other,1,8,false,[.nilFunc]⟩,
 ⟨64, .other,1,8,false,[.nilFunc]⟩,
 ⟨335, .other,1,8,false,[.nilFunc]⟩,
 ⟨359, .other,1,8,false,[.nilFunc]⟩,
 ⟨6, .int .u8,1,1,false,[(.int .u8 0)]⟩,
 ⟨80, .other,1,8,false,[.nilFunc]⟩,
 ⟨256, .other,1,8,false,[.nilFunc]⟩]
theorem zc1b:mkT Tryz.prog [3,4,22,107,70,5,112,1,245,47,84,44,40,51,159,74,24,38,2,193,207,128,212,35,210,378,82,32,9,46,110,43,96,54,201,36,125,312,68,331,52,41,144,187,227,246,126,190,333,254,99,299,72,77,383,296,75,78,177,266,348,219,240,295,124,306,316,199,205,297,340,267,20,66,180,237,336,281,61,139,181,7,8,146,218,239,249,292,303,374,64,335,359,6,80,256]=Tab:=by kernel_rfl
theorem Tab_ok:TOk Tryz.prog Tab:=zc1b▸zwc _
theorem mixed:Tryz.prog.follows .mixedOrders=true:=by kernel_rfl
end
section
structure Leaf where
 box:List UInt8
 sign:List UInt8
 ident:List UInt8
 src:UInt8
 parent:List UInt8
 sig:List UInt8
 deriving DecidableEq
structure Par where
 box:List UInt8
 hash:List UInt8
 late:List Int
 deriving DecidableEq
structure Node where
 kind:UInt8
 leaf:Leaf
 par:Par
 deriving DecidableEq
structure Spot where
 at_:Int
 node:Node
 deriving DecidableEq
structure Stub where
 at_:Int
 hash:List UInt8
 deriving DecidableEq
structure Lean_ where
 leaves:Int
 own:Int
 opn:List Spot
 shut:List Stub
 deriving DecidableEq
abbrev I(n:Int):RV:= .i .i64 n
abbrev U8(c:UInt8):RV:= .i .u8 (c.toNat:Int)
abbrev Er(e:Nat):RV:= .i .u8 (e:Int)
def bs(l:List UInt8):RV:= .sl 1 l.length (l.map U8)
def is(l:List Int):RV:= .sl 1 l.length (l.map I)
abbrev Leaf.c(l:Leaf):List RV:=[bs l.box,bs l.sign,bs l.ident,U8 l.src,bs l.parent,bs l.sig]
abbrev Par.c(p:Par):List RV:=[bs p.box,bs p.hash,is p.late]
abbrev Node.c(n:Node):List RV:=[U8 n.kind,bs n.leaf.box,bs n.leaf.sign,bs n.leaf.ident,U8 n.leaf.src,bs n.leaf.parent,bs n.leaf.sig,bs n.par.box,bs n.par.hash,is n.par.late]
abbrev Spot.c(s:Spot):List RV:=[I s.at_,U8 s.node.kind,bs s.node.leaf.box,bs s.node.leaf.sign,bs s.node.leaf.ident,U8 s.node.leaf.src,bs s.node.leaf.parent,bs s.node.leaf.sig,bs s.node.par.box,bs s.node.par.hash,is s.node.par.late]
abbrev Stub.c(s:Stub):List RV:=[I s.at_,bs s.hash]
def zc4(l:List Spot):RV:= .sl 11 l.length (l.flatMap Spot.c)
def zuw(l:List Stub):RV:= .sl 2 l.length (l.flatMap Stub.c)
abbrev Lean_.c(s:Lean_):List RV:=[I s.leaves,I s.own,zc4 s.opn,zuw s.shut]
def i64(n:Int):Prop:= -9223372036854775808<=n/\n<=9223372036854775807
theorem zak{α:Type}{f:α->RV}{l:List α}{i:Int}{j:Nat}(h:i=j)(hj:j<l.length):((l.map f).drop (i.toNat*1)).take 1=[f l[j]]:=by
 subst h
 simp only[Int.toNat_natCast,Nat.mul_one]
 rw[List.drop_eq_getElem_cons (by simpa using hj)]
 simp
theorem zsy{α β:Type}{f:α->List β}{sz:Nat}(hf: ∀x,(f x).length=sz): ∀(l:List α) (j:Nat),(l.flatMap f).drop (j*sz)=(l.drop j).flatMap f
 |l,0=>by simp
 |[],j+1=>by simp
 |x::l,j+1=>by
  simp only[List.flatMap_cons,List.drop_succ_cons]
  rw[List.drop_append,hf,List.drop_eq_nil_of_le (by rw[hf,Nat.add_mul];omega),show(j+1)*sz-sz=j*sz by rw[Nat.add_mul];omega,zsy hf l j]
  simp
theorem zd4{α β:Type}{f:α->List β}{sz:Nat}(hf: ∀x,(f x).length=sz){l:List α}{i:Int}{j:Nat}(h:i=j)(hj:j<l.length):((l.flatMap f).drop (i.toNat*sz)).take sz=f l[j]:=by
 subst h
 rw[Int.toNat_natCast,zsy hf,List.drop_eq_getElem_cons hj,List.flatMap_cons,List.take_append,hf,Nat.sub_self,List.take_zero,List.append_nil,List.take_of_length_le (by rw[hf];omega)]
end
section
open Go.RowKit Go.ChangeShapes Go.WideShapes Go.Deep
def allK(w:World):Kp:=λb=>((w.heap[b]?).map λo=>match o with | .cells c _ _=>c.size |_=>0).getD 0
theorem zym{w:World}{b o:Nat}{v:Value}(h:w.cell? ⟨b,o,none⟩=some v):o<allK w b/\b<w.heap.size:=by
 unfold World.cell? at h
 unfold allK
 cases hb:w.heap[b]? with
 |none=>simp[hb]at h
 |some ob=>
  have h1:b<w.heap.size:=(Array.getElem?_eq_some_iff.1 hb).1
  cases ob with
  |cells c t fr=>
   simp[hb]at h
   exact⟨by simpa[hb]using(Array.getElem?_eq_some_iff.1 h).1,h1⟩
  |_=>simp[hb]at h
theorem zn3{w:World}{k:Kp}{b:Nat}: ∀{xs ys:List RV} {o:Nat},RV.cellsAt w k b o xs->RV.cellsAt w k b (o+xs.length) ys->RV.cellsAt w k b o (xs++ys)
 |[],_,_,_,g=>g
 |x::xs,ys,o,h,g=>by
  simp only[List.cons_append,RV.cellsAt]at h⊢
  exact⟨h.1,zn3 h.2 (by rwa[List.length_cons,show o+(xs.length+1)=o+1+xs.length by omega]at g)⟩
theorem zn4{w:World}{b:Nat}: ∀{fs:List RV} {cs:List Value} {o:Nat},RV.listAt w (allK w) fs cs->(∀j,j<cs.length->w.cell? ⟨b,o+j,none⟩=cs[j]?)->RV.cellsAt w (allK w) b o fs
 |[],_,_,_,_=>by simp[RV.cellsAt]
 |f::fs,cs,o,h,hc=>by
  simp only[RV.listAt]at h
  obtain⟨u,r,rfl,h1,h2,h3⟩:=h
  have h0:=hc 0 (by simp)
  simp only[Nat.add_zero,List.getElem?_cons_zero]at h0
  simp only[RV.cellsAt]
  refine⟨⟨(zym h0).1,u,h0,h1,h2⟩,zn4 h3 λj hj=>?_⟩
  have:=hc (j+1) (by simpa using hj)
  rw[show o+1+j=o+(j+1)by omega]
  simpa using this
structure Rd (P:Program):Type 1 where
 H:Type
 enc:TypeId×Value->H
 w:World
 base:Nat
 spare:Nat->Bool
 held:Bool
def Rd.trod{P:Program}(r:Rd P)(fuel:Nat)(t:TypeId)(cs:List Value):Option (DataW r.H×List MemPlace):=DataW.trod r.enc P r.w r.base r.spare r.held fuel t cs
def Rd.Reads{P:Program}(r:Rd P){σ:Type}(c:σ->List RV)(ok:σ->Prop)(t:TypeId):Prop:=
 ∀fuel cs x,r.trod fuel t cs=some x->∃s,ok s/\RV.listAt r.w (allK r.w) (c s) cs
section
variable {P:Program} {r:Rd P} {t e:TypeId} {σ:Type} {c:σ->List RV} {ok:σ->Prop}
theorem Rd.u8(ht:P.underlying t=some (.int .u8)):r.Reads (λn:UInt8=>[U8 n]) (λ_=>True) t:=λfuel cs x h=>by
 obtain⟨n,rfl,_,hw⟩:=DataW.trod_int ht h
 have hn:0<=n/\n<256:=by
  simp only[Lit.wf,Bool.and_eq_true,decide_eq_true_eq]at hw
  have h1:(0:Int)<=n:=hw.1
  have h2:n<=255:=hw.2
  omega
 refine⟨UInt8.ofNat n.toNat,trivial,?_⟩
 have:((UInt8.ofNat n.toNat).toNat:Int)=n:=by
  rw[UInt8.toNat_ofNat']
  omega
 simp only[RV.listAt,RV.at_]
 exact⟨_,[],rfl,rfl,by rw[this],rfl⟩
theorem Rd.elems{b o:Nat}{sz:Nat}(hl: ∀s,(c s).length=sz): ∀(n i0:Nat),(∀i,i<n->∃cs,(∀j,j<cs.length->r.w.cell? ⟨b,o+(i0+i)*sz+j,none⟩=cs[j]?)/\∃s,ok s/\RV.listAt r.w (allK r.w) (c s) cs)->
  ∃l:List σ,l.length=n/\(∀x∈l,ok x)/\RV.cellsAt r.w (allK r.w) b (o+i0*sz) (l.flatMap c)
 |0,_,_=>⟨[],rfl,by simp,by simp[RV.cellsAt]⟩
 |n+1,i0,h=>by
  obtain⟨cs,hc,s,hs,hq⟩:=h 0 (by omega)
  obtain⟨l,h1,h2,h3⟩:=Rd.elems hl n (i0+1) λi hi=>by
   have:=h (i+1) (by omega)
   rwa[show i0+(i+1)=i0+1+i by omega]at this
  refine⟨s::l,by simp[h1],λx hx=>?_,?_⟩
  ·rcases List.mem_cons.1 hx with rfl |hx
   ·exact hs
   ·exact h2 x hx
  ·rw[List.flatMap_cons]
   refine zn3 (zn4 hq (by simpa using hc)) ?_
   rw[hl,show o+i0*sz+sz=o+(i0+1)*sz by rw[Nat.add_mul];omega]
   exact h3
theorem Rd.slice{sz:Nat}(ht:P.underlying t=some (.slice e))(hC:P.cellsOf e=sz)(h0:0<sz)(hl: ∀s,(c s).length=sz)(h:r.Reads c ok e)
  {fuel:Nat} {cs:List Value} {x:DataW r.H×List MemPlace} (hx:r.trod fuel t cs=some x):
  ∃l:List σ,(∀y∈l,ok y)/\RV.listAt r.w (allK r.w) [.sl sz l.length (l.flatMap c)] cs/\(l=[]\/∃E Sp,x.1= .slice E Sp/\E.length=l.length):=by
 have hlen: ∀l:List σ,(l.flatMap c).length=l.length*sz:=λl=>by
  induction l with
  |nil=>simp
  |cons y l ih=>rw[List.flatMap_cons,List.length_append,hl,ih,List.length_cons,Nat.add_mul];omega
 rcases open_slice ht hx with⟨rfl,_⟩ |⟨a,len,cap,m,n,D,Pl,rfl,hb,hlc,hcm,hm,hd,hi⟩
 ·refine⟨[],by simp,?_, .inl rfl⟩
  simp only[RV.listAt,RV.at_]
  exact⟨_,[],rfl,rfl,⟨none,0,rfl,by simp,by simp,by simp,λh=>absurd h (by simp)⟩,rfl⟩
 ·have hlm:len<=m:=by rw[hm];split<;>omega
  rw[hC]at hi
  by_cases hz:len=0
  ·subst hz
   refine⟨[],by simp,?_, .inl rfl⟩
   simp only[RV.listAt,RV.at_]
   exact⟨_,[],rfl,rfl,⟨some a,cap,rfl,by simp,hcm,by simp,λh=>absurd h (by simp)⟩,rfl⟩
  ·obtain⟨b,o,spot⟩:=a
   obtain⟨cs0,hc0,_⟩:=hi 0 (by omega)
   obtain⟨_,hl0,ha0⟩:=World.cells?_some hc0
   have hs0:=ha0 0 h0
   rw[List.getElem?_eq_getElem (by omega)]at hs0
   have hspot:spot=none:=by simpa[Addr.add]using World.cell?_spot hs0
   subst hspot
   have hblk:b<r.w.heap.size:=by
    have:=hs0
    rw[Nat.zero_mul,add_plain,add_plain]at this
    exact(zym this).2
   obtain⟨l,h1,h2,h3⟩:=Rd.elems (r:=r) (b:=b) (o:=o) (ok:=ok) hl len 0 λi hil=>by
    obtain⟨cs',hc,ht'⟩:=hi i (by omega)
    obtain⟨_,hcl,hat⟩:=World.cells?_some hc
    refine⟨cs',λj hj=>?_,h n cs' _ ht'⟩
    have:=hat j (by omega)
    rw[add_plain,add_plain]at this
    simpa using this
   refine⟨l,h2,?_, .inr ⟨_,_,by rw[hd],by simp[h1]⟩⟩
   simp only[RV.listAt,RV.at_]
   refine⟨_,[],rfl,rfl,⟨_,cap,by rw[h1],by omega,hcm,hlen l,λ_=>⟨b,o,rfl,hblk,by simpa using h3⟩⟩,rfl⟩
theorem z6w{α β:Type}(f:α->β)(l:List α):(l.flatMap λx=>[f x])=l.map f:=by
 induction l with
 |nil=>rfl
 |cons x l ih=>rw[List.flatMap_cons,ih];rfl
theorem Rd.bytes(ht:P.underlying t=some (.slice e))(he:P.underlying e=some (.int .u8))(hC:P.cellsOf e=1):r.Reads (λl:List UInt8=>[bs l]) (λ_=>True) t:=λfuel cs x hx=>by
 obtain⟨l,_,h,_⟩:=Rd.slice ht hC (by omega) (λ_=>rfl) (Rd.u8 he) hx
 refine⟨l,trivial,?_⟩
 rw[z6w]at h
 exact h
end
end
section
open Go.ChangeShapes Go.WideShapes Go.ChangeAt Go.RowKit
theorem z79:ownKnob Tryz.prog.godebug=none:=by kernel_rfl
theorem z7t:laidOutB Tryz.prog=true:=by kernel_rfl
end
section
open Go.ChangeShapes Go.WideShapes Go.ChangeAt Go.RowKit
set_option maxRecDepth 100000 in
theorem z6p{H:Type}{enc:TypeId×Value->H}{W:World}{base:Nat}{v:Value}{d:DataW H}{p:List MemPlace}(hval:Value.okWide Tryz.prog W .any base 22 v)
  (h:DataW.Trod enc Tryz.prog W 0 (λ_=>true) true 22 v d p):
  ∃l:List UInt8,(bs l).at_ W (allK W) v:=by
 obtain⟨a,n,c,rfl⟩:=okWide_slice Tryz.underlying22 hval
 obtain⟨fuel,hf⟩:=h
 obtain⟨l,_,h2⟩:=Rd.bytes (r:=⟨H,enc,W,0,λ_=>true,true⟩) Tryz.underlying22 Tryz.underlying5 (by kernel_rfl) fuel [.slice a n c] (d,p) hf
 refine⟨l,?_⟩
 simp only[RV.listAt]at h2
 obtain⟨u,r,e,_,hat,rfl⟩:=h2
 simp only[List.cons.injEq,and_true]at e
 rw[e]
 exact hat
end
end Go.Proofs.YtfjkblpnbgfkeaaGreat.Sx

namespace Go.Proofs.YtfjkblpnbgfkeaaGreat
set_option linter.unusedVariables false
section
open Go.RowKit Go.Shelf
attribute [local go_sem] Oper.semAt_some
theorem zeib:Tryz.prog.follows .mixedOrders=true:=by kernel_rfl
def upto{α:Type}(f:Nat->α)(k:Nat):List α:=(List.range k).map f
theorem z56{α:Type}(f:Nat->α)(k:Nat):upto f (k+1)=upto f k++[f k]:=by simp[upto,List.range_succ]
theorem zom{α:Type}(f:Nat->α)(k:Nat):(upto f k).length=k:=by simp[upto]
def zgi(b off m:Nat)(j:Nat):Value:= .slice (some ⟨b,off+m*j,none⟩) m m
set_option maxRecDepth 100000 in
set_option maxHeartbeats 4000000 in
theorem z2r(n:Nat)(hn:1<=n)(l Bs Bn oS oN b off m K L cap:Nat)(hm:0<m)(hL:m*K=L)(hlen:L<=cap)(hbig:L<=1000000000000)(Kp:World->World->Prop)
  (hKp: ∀A B,Kp A B->B.cell? ⟨Bs,oS,none⟩=A.cell? ⟨Bs,oS,none⟩/\B.cell? ⟨Bn,oN,none⟩=A.cell? ⟨Bn,oN,none⟩) (J Jx:List Nat->World->Prop)
  (hJd: ∀pre W,J pre W->J pre W.drew)
  (hY: ∀pre k W,pre.length=k->J pre W->k<K->YieldAt Fence.wide (n-1) Tryz.prog l #[zgi b off m k] W λe W'=>
   (e= .returned (.bool true)/\J (pre++[k]) W'/\Kp W W')\/(e= .returned (.bool false)/\Jx (pre++[k]) W'))
  (W:World) (hBs:W.cell? ⟨Bs,oS,none⟩=some (.slice (some ⟨b,off,none⟩) L cap)) (hBn:W.cell? ⟨Bn,oN,none⟩=some (.int .i64 m)) (h0:J [] W):
  CallsIn Fence.wide n Tryz.prog 325 #[.func (.yield l) #[] #[], .pointer (some ⟨Bs,oS,none⟩), .pointer (some ⟨Bn,oN,none⟩)] W λe W'=>(∃v,e= .returned v)/\
   ((∃ys,ys=upto (λj=>j) K/\J ys W')\/(∃pre:List Nat,pre.length<=K/\Jx pre W')):=by
 refine callsIn_of_wp Tryz.func325 rfl trivial ?_ rfl
 simp only[Tryz.ntmps325,List.size_toArray,List.length_cons,List.length_nil,Nat.reduceAdd,Nat.reduceSub,Array.replicate_succ,Array.replicate_zero,List.push_toArray,List.append_toArray,List.nil_append,List.cons_append]
 gi_wp2
 gi_loopw [4] (λi wr=>∃k ik:Nat,k<=K/\m*k=ik/\i= .int .i64 ik/\J (upto (λj=>j) k) wr/\wr.cell? ⟨Bs,oS,none⟩=some (.slice (some ⟨b,off,none⟩) L cap)/\wr.cell? ⟨Bn,oN,none⟩=some (.int .i64 m))
  (λi _=>L-(intOf i).toNat)
 case atStart=>exact⟨0,0,Nat.zero_le _,rfl,rfl,h0,hBs,hBn⟩
 case round=>
  obtain⟨k,ik,hk,hik,rfl,hJs,hBs',hBn'⟩:=hrel
  by_cases hlt:k<K
  ·have hlt':ik+m<=L:=by
    rw[<-hL,<-hik,<-Nat.mul_succ]
    exact Nat.mul_le_mul_left _ hlt
   have hlti:ik<L:=by omega
   gi_wp2
   refine wpIn_wide.2 ?_
   refine wp_region_still_lit zeib (by kernel_rfl) ?_
   have hi1:(ik:Int)<=(L:Int):=by omega
   have hi2: ¬cap=ik:=by omega
   have hi3: ¬((L-ik:Nat):Int)< (m:Int):=by omega
   have hi4:(IntKind.i64.wrap ((ik:Int)+(m:Int)))=((ik+m:Nat):Int):=by rw[IntKind.wrap_i64];omega
   have hi5:ik+m<=cap:=by omega
   have hJ2:=hJd _ _ hJs
   obtain⟨fn,tmps,assign,body,hy,hR⟩:=hY _ k _ (zom _ k) hJ2 hlt
   simp only[zgi,hik]at hy
   repeat still_step
   refine wpStill_nil ?_
   gi_wp2
   refine hR.mono ?_
   rintro e W3 (⟨rfl,hJ3,hk3⟩ |⟨rfl,hJx3⟩)
   ·obtain⟨c1,c2⟩:=hKp _ _ hk3
    have hBs3:W3.cell? ⟨Bs,oS,none⟩=some (.slice (some ⟨b,off,none⟩) L cap):=c1.trans hBs'
    have hBn3:W3.cell? ⟨Bn,oN,none⟩=some (.int .i64 m):=c2.trans hBn'
    gi_wp2
    go_roundw
    case rel=>exact⟨k+1,ik+m,by omega,by rw[Nat.mul_succ,hik],by simp,by rw[z56];exact hJ3,hBs3,hBn3⟩
    case measure=>simp[intOf];omega
   ·gi_wp2
    refine bodyPost_ret (results_none rfl _ _ _) rfl ?_
    exact⟨⟨_,rfl⟩, .inr ⟨_,by rw[List.length_append,zom];simp;omega,hJx3⟩⟩
  ·obtain rfl:k=K:=by omega
   have hlti: ¬ik<L:=by omega
   gi_wp2
   go_end0
   exact⟨⟨_,rfl⟩, .inl ⟨_,rfl,hJs⟩⟩
end
end Go.Proofs.YtfjkblpnbgfkeaaGreat
