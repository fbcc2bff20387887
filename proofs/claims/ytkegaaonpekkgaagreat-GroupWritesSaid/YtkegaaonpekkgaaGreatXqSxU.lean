import Derived.Test.YtkegaaonpekkgaaGreatXqSxY
import Derived.ScopeJumps
namespace Go.Proofs.YtkegaaonpekkgaaGreat.Sx
open Go.RowKit
def ub(w:World)(k:Kp)(g:Env):List TF->List Value->Prop
 |[],us=>us=[]
 |f::fs,us=>∃u r,us=u::r/\f.at_ w k g u/\ub w k g fs r
def wY(O:List (Nat×Ow)):List (Nat×Option Ow):=O.map λx=>(x.1,some x.2)
structure Own (w:World) (k:Kp) (g:Env) (n:Nat) (O:List (Nat×Option Ow)):Prop where
 owns: ∀id o,ye O id=some o->id<n/\o.lt n/\o.at_ w k g (g id)/\∀b,(g id).2=some b->b<w.heap.size
 apart: ∀i j o o' b,ye O i=some o->ye O j=some o'->i≠j->(g i).2=some b->(g j).2≠some b
def qv(g:Env)(O:List (Nat×Ow)):List Nat:=O.filterMap λx=>(g x.1).2
def yz(P:Program)(f:FuncId)(n0:Nat)(O0:List (Nat×Ow))(args:List TF)(names:List (Nat×Value))(n1:Nat)(O1:List (Nat×Ow))(res:TF):Prop:=
 mI P f/\∀w k g us,Own w k g n0 (wY O0)->(∀x∈names,(g x.1).1=x.2)->ub w k g args us->
  Calls P f us.toArray w λe w'=>∃v,e= .returned v/\Keep (qv g O0) w w'/\∃(k':Kp) (g':Env),(∀b,b<w.heap.size->b∉qv g O0->k' b=k b)/\
   Own w' k' g' n1 (wY O1)/\(∀id o b,ye (wY O1) id=some o->(g' id).2=some b->w.heap.size<=b\/b∈qv g O0)/\(∀x∈names,g' x.1=g x.1)/\res.lt n1/\res.at_ w' k' g' v
def blk:Value->Option Nat
 | .pointer (some a)=>some a.block
 | .map (some b)=>some b
 | .slice (some a) _ _=>some a.block
 |_=>none
def SF(o:Ow):Prop:=∀w k g vb,o.at_ w k g vb->vb.2=blk vb.1
theorem ym{cells:List TF}:SF (.box cells):=λw k g vb h=>by
 simp only[Ow.at_]at h
 obtain⟨b,cur,t,rfl,_⟩:=h
 rfl
theorem Mm{e:TypeId}{sz n:Nat}{cells:List RV}(h0:0<n):SF (.ch e sz n cells false):=λw k g vb h=>by
 simp only[Ow.at_]at h
 obtain⟨_,⟨h1,⟨h2,_⟩ |⟨_,h2,_⟩⟩ |⟨b,cap,cur,h1,h2,_⟩⟩:=h
 ·omega
 ·cases h2
 ·rw[h1,h2]
  rfl
def Qa(o:Ow):Prop:=∀w k g vb b,o.at_ w k g vb->vb.2=some b->k b=0
theorem zY{cells:List TF}:Qa (.box cells):=λw k g vb b h hb=>by
 simp only[Ow.at_]at h
 obtain⟨b',cur,t,rfl,_,hk,_⟩:=h
 cases hb
 exact hk
theorem jj{e:TypeId}{sz n:Nat}{cells:List RV}:Qa (.ch e sz n cells false):=λw k g vb b h hb=>by
 simp only[Ow.at_]at h
 have:=(h.blk hb).1
 simpa using this
def Ou:List (Nat×Ow)->Prop
 |[]=>True
 |x::r=>Qa x.2/\Ou r
theorem Wz: ∀{O:List (Nat×Ow)},Ou O->∀x∈O,Qa x.2
 |[],_,x,h=>by cases h
 |y::r,h,x,hx=>by
  rcases List.mem_cons.1 hx with rfl |hx
  ·exact h.1
  ·exact Wz h.2 x hx
theorem rG: ∀{O:List (Nat×Ow)} {i:Nat} {o:Ow},ye (wY O) i=some o->(i,o)∈O
 |[],i,o,h=>by simp[wY,ye]at h
 |x::r,i,o,h=>by
  rcases yD (show ye ((x.1,some x.2)::wY r) i=some o from h)with⟨e,e'⟩ |⟨_,h⟩
  ·cases e';subst e;simp
  ·exact cK _ (rG h)
theorem iI: ∀{O:List (Nat×Ow)} {x:Nat×Ow},x∈O->∃o,ye (wY O) x.1=some o
 |[],x,h=>by cases h
 |y::r,x,h=>by
  show∃o,ye ((y.1,some y.2)::wY r) x.1=some o
  rcases List.mem_cons.1 h with rfl |h
  ·exact⟨x.2,by simp[ye]⟩
  ·obtain⟨o,ho⟩:=iI h
   by_cases e:y.1=x.1
   ·exact⟨y.2,by simp[ye,e]⟩
   ·refine⟨o,?_⟩
    rw[ye,iV e]
    exact ho
theorem uC: ∀{O:List (Nat×Ow)} {x:Nat×Ow},(O.map (·.1)).Nodup->x∈O->ye (wY O) x.1=some x.2
 |[],x,_,h=>by cases h
 |y::r,x,hn,h=>by
  show ye ((y.1,some y.2)::wY r) x.1=some x.2
  simp only[cJ,List.nodup_cons]at hn
  rcases List.mem_cons.1 h with rfl |h
  ·simp[ye]
  ·have:y.1≠x.1:=λe=>hn.1 (by rw[e];exact List.mem_map.2 ⟨x,h,rfl⟩)
   rw[ye,iV this]
   exact uC hn.2 h
theorem U3{g:Env}{O:List (Nat×Ow)}{b:Nat}:b∈qv g O↔∃i o,ye (wY O) i=some o/\(g i).2=some b:=by
 constructor
 ·intro h
  obtain⟨x,hx,hb⟩:=List.mem_filterMap.1 h
  obtain⟨o,ho⟩:=iI hx
  exact⟨x.1,o,ho,hb⟩
 ·rintro⟨i,o,ho,hb⟩
  exact List.mem_filterMap.2 ⟨(i,o),rG ho,hb⟩
def fD:Nat->List TF->List (Nat×TF)
 |_,[]=>[]
 |n,f::r=>(n,f)::fD (n+1) r
def lQ:List (Nat×Value)->List (Nat×TF)
 |[]=>[]
 |x::r=>(1000000+x.1,.nm x.1 x.2)::lQ r
def WT(S:St):List (Nat×Value)->Prop
 |[]=>True
 |x::r=>(∃t,yl S.F t=some (.nm x.1 x.2))/\WT S r
def mZ(O0 O1:List (Nat×Ow)):List (Nat×Value)->Prop
 |[]=>True
 |x::r=>(∃o o',ye (wY O0) x.1=some o/\ye (wY O1) x.1=some o'/\SF o/\SF o')/\mZ O0 O1 r
def PT(T:TT)(results:List ResultVar)(S:St)(res:TF):Prop:=
 match results with
 |[x]=>cq T S x λf=>match res with
  | .r v=>match S.rv f with
   |some v'=>Cv v' v
   |none=>False
  |res=>f=res
 |xs=>fZ T S xs λvs=>∃v,res= .r v/\Cv (.tu vs) v
section
variable {P:Program} {T:TT} {B:Bs} {N:Nat} {S:St} {a:Act} {w:World} {k:Kp} {g:Env} {o:Oper} {Q:Exit->Act->World->Prop}
theorem Xp: ∀{l:List TF} {n t:Nat} {f:TF} {us:List Value},ub w k g l us->yl (fD n l) t=some f->f∈l/\n<=t/\∃u,us[t-n]?=some u/\f.at_ w k g u
 |[],_,_,_,_,_,h=>by simp[fD,yl]at h
 |v::r,n,t,f,us,hp,h=>by
  simp only[ub]at hp
  obtain⟨u,us',rfl,h1,h2⟩:=hp
  simp only[fD]at h
  rcases yO h with⟨rfl,rfl⟩ |⟨hne,h⟩
  ·exact⟨by simp,bQ _,u,by simp,h1⟩
  ·obtain⟨hm,hle,u',hu',h3⟩:=Xp h2 h
   refine⟨cK _ hm,by omega,u',?_,h3⟩
   rw[show t-n=(t-(n+1))+1 by omega]
   simpa using hu'
theorem Wv: ∀{l:List TF} {us:List Value},ub w k g l us->us.length=l.length
 |[],us,h=>by simp only[ub]at h;subst h;rfl
 |v::r,us,h=>by
  simp only[ub]at h
  obtain⟨u,us',rfl,_,h2⟩:=h
  simp[Wv h2]
theorem UE: ∀{l:List (Nat×Value)} {t:Nat} {f:TF},yl (lQ l) t=some f->∃x∈l,f= .nm x.1 x.2
 |[],t,f,h=>by simp[lQ,yl]at h
 |x::r,t,f,h=>by
  simp only[lQ]at h
  rcases yO h with⟨rfl,rfl⟩ |⟨_,h⟩
  ·exact⟨x,by simp,rfl⟩
  ·obtain⟨y,hy,e⟩:=UE h
   exact⟨y,cK _ hy,e⟩
theorem nM{F:List (Nat×TF)}{d t:Nat}{f:TF}(h:d≠t):yl ((d,f)::F) t=yl F t:=by rw[yl,iV h]
theorem eG{F F':List (Nat×TF)}{t:Nat}{f:TF}(h:yl (F++F') t=some f):yl F t=some f\/yl F' t=some f:=by
 induction F with
 |nil=>exact .inr h
 |cons x r ih=>
  rcases yO (show yl ((x.1,x.2)::(r++F')) t=some f from h)with⟨e,e'⟩ |⟨hne,h⟩
  ·left;subst e';obtain⟨x1,x2⟩:=x;simp only at e;subst e;simp[yl]
  ·rcases ih h with h2 |h2
   ·exact .inl ((nM (F:=r) (f:=x.2) hne).trans h2)
   ·exact .inr h2
theorem XY: ∀{l:List (Nat×Value)},WT S l->∀x∈l,∃t,yl S.F t=some (.nm x.1 x.2)
 |[],_,x,h=>by cases h
 |y::r,h,x,hx=>by
  rcases List.mem_cons.1 hx with rfl |hx
  ·exact h.1
  ·exact XY h.2 x hx
theorem XZ{O0 O1:List (Nat×Ow)}: ∀{l:List (Nat×Value)},mZ O0 O1 l->∀x∈l,∃o o',ye (wY O0) x.1=some o/\ye (wY O1) x.1=some o'/\SF o/\SF o'
 |[],_,x,h=>by cases h
 |y::r,h,x,hx=>by
  rcases List.mem_cons.1 hx with rfl |hx
  ·exact h.1
  ·exact XZ h.2 x hx
theorem KZ(hT:TOk P T){fn:Func}{res:TF}(hs:SatE B N S a w k g)(h:PT T fn.results.toList S res): ∃v,(results fn a.tmps).run P w= .ok v w/\res.at_ w k g v:=by
 unfold PT at h
 split at h
 ·rename_i x hx
  obtain⟨fr,v,hret,hat,hr⟩:=nB hT hs h
  refine⟨v,?_,?_⟩
  ·have hx':fn.results= #[x]:=by apply Array.ext';simpa using hx
   rw[pf,hx',Array.mapM_eq_mapM_toList]
   simp only[Sem.run_bind,Sem.run_map,List.mapM_cons,List.mapM_nil,hr]
   simp
  ·split at hret
   ·split at hret
    ·rename_i v' hv'
     exact hret w k v (tC hs hv' hat)
    ·exact hret.elim
   ·rw[<-hret];exact hat
 ·rename_i hxs
  obtain⟨rs,vs,⟨rv,rfl,hcv⟩,hp',hlen,hr⟩:=ou hT hs h
  refine⟨.tuple vs.toArray,?_,?_⟩
  ·rw[pf,Array.mapM_eq_mapM_toList]
   simp only[Sem.run_bind,Sem.run_map,hr]
   have hne:vs.length≠1:=by
    intro he
    rw[hlen]at he
    obtain⟨x,hx⟩:=List.length_eq_one_iff.1 he
    exact hxs x hx
   simp[hne]
  ·exact hcv w k _ (by simp only[RV.at_];exact⟨vs.toArray,rfl,hp'⟩)
def Qq(T:TT)(results:List ResultVar)(names:List (Nat×Value))(n1:Nat)(O1:List (Nat×Ow))(res:TF)(ex:Exit)(S:St):Prop:=
 (ex= .ret\/ex= .normal)/\∃S1,Sub S S1/\S1.nx=n1/\(∃E,S1.O=wY O1++E)/\WT S1 names/\PT T results S1 res
theorem rq{O E:List (Nat×Option Ow)}{i:Nat}{o:Ow}(h:ye O i=some o):ye (O++E) i=some o:=by
 induction O with
 |nil=>simp[ye]at h
 |cons x r ih=>
  obtain⟨x1,x2⟩:=x
  rw[List.cons_append]
  simp only[ye]at h⊢
  split at h
  ·exact h
  ·exact ih h
theorem yr{results:List ResultVar}{names:List (Nat×Value)}{n1:Nat}{O1:List (Nat×Ow)}{res:TF}{ex:Exit}(hex:ex= .ret\/ex= .normal)(ρ:List (Nat×Nat))(F1:List (Nat×TF))(E:List (Nat×Option Ow))
  (h0:vB ρ ⟨F1++lQ names,wY O1++E,n1⟩=true) (h1:ko ρ S (F1++lQ names)) (h2:kW ρ S (wY O1++E)) (h3:WT ⟨F1++lQ names,wY O1++E,n1⟩ names) (h4:PT T results ⟨F1++lQ names,wY O1++E,n1⟩ res):
  Qq T results names n1 O1 res ex S:=⟨hex,_,zX ρ h0 h1 h2,rfl,⟨E,rfl⟩,h3,h4⟩
theorem yk{f:FuncId}{fn:Func}{n0 n1:Nat}{O0 O1:List (Nat×Ow)}{args:List TF}{names:List (Nat×Value)}{res:TF}{c:Code}(hm:P.follows .mixedOrders=true)(hT:TOk P T)(hf:P.funcs[f]?=some fn)(hb:fn.body=some c)
  (hk:(Nat.ble args.length fn.ntmps&&(xf fn.ntmps c&& !(fn.name== "runtime.NumGoroutine")))=true)
  (hlt:(args.all (eM n0)&&(names.all (λx=>Nat.blt x.1 n0)&&eM n1 res))=true) (hnm:mZ O0 O1 names)
  (h:vO P T c {F:=fD 0 args++lQ names,O:=wY O0,nx:=n0} (Qq T fn.results.toList names n1 O1 res)):yz P f n0 O0 args names n1 O1 res:=by
 simp only[bB,Nat.ble_eq,Bool.not_eq_true',beq_eq_false_iff_ne]at hk
 obtain⟨hn,hd,hname⟩:=hk
 simp only[bB,List.all_eq_true]at hlt
 obtain⟨hla,hln,hlr⟩:=hlt
 refine⟨⟨fn,c,hf,hb,hname⟩,λw k g us ho hnames hp=>?_⟩
 refine calls_of_wp hf hb ?_
 have hl:=Wv hp
 have hstart:yK ⟨w,k,qv g O0,[]⟩ fn.ntmps {F:=fD 0 args++lQ names,O:=wY O0,nx:=n0} {tmps:=us.toArray++Array.replicate (fn.ntmps-us.toArray.size) undef,defers:=[]} w k:=by
  refine⟨g,by simp;omega,rfl,⟨rfl,rfl,rfl,bQ _,λ_ _ _=>rfl⟩,λ_ _ _=>rfl,λt f hf=>?_,λid o' ho'=>?_,ho.apart⟩
  ·rcases eG hf with hf |hf
   ·obtain⟨hmem,_,u',hu',hat⟩:=Xp hp hf
    refine⟨ZF (hla _ hmem),?_⟩
    rw[Nat.sub_zero]at hu'
    have hlt:t<us.length:=(List.getElem?_eq_some_iff.1 hu').1
    have:(us.toArray++Array.replicate (fn.ntmps-us.toArray.size) undef)[t]?=some u':=by
     rw[Array.getElem?_append_left (by simpa using hlt)]
     simpa using hu'
    simp only[Array.getD_eq_getD_getElem?,this,Option.getD_some]
    exact hat
   ·obtain⟨x,hx,rfl⟩:=UE hf
    exact⟨by have:=hln x hx;simp[Nat.blt]at this;simp only[TF.lt];omega,hnames x hx⟩
  ·obtain⟨q1,q2,q3,q4⟩:=ho.owns id o' ho'
   exact⟨q1,q2,q3,λb hb=>⟨.inr (U3.2 ⟨id,o',ho',hb⟩),q4 b hb⟩⟩
 refine yP hm hT c _ _ h ⟨w,k,qv g O0,[]⟩ fn.ntmps _ w k _ hstart hd λex S' a' w' k' ⟨hex,S1,hsub,hn1,⟨E,hO1⟩,hnms,hret⟩ hs'=>?_
 have fin:a'.defers=[]/\∃v,(results fn a'.tmps).run P w'= .ok v w'/\(λ(e:Ending) w'=>∃v,e= .returned v/\Keep (qv g O0) w w'/\∃(k':Kp) (g':Env),(∀b,b<w.heap.size->b∉qv g O0->k' b=k b)/\
   Own w' k' g' n1 (wY O1)/\(∀id o b,ye (wY O1) id=some o->(g' id).2=some b->w.heap.size<=b\/b∈qv g O0)/\(∀x∈names,g' x.1=g x.1)/\res.lt n1/\res.at_ w' k' g' v) (.returned v) w':=by
  obtain⟨k2,g2,h2⟩:=hsub _ _ _ _ _ hs'
  obtain⟨v,hr,hat⟩:=KZ hT h2 hret
  refine⟨h2.defers,v,hr,v,rfl,h2.keep,k2,g2,h2.kk,⟨λid o' ho'=>?_,λi j oi oj b hi hj=>h2.apart i j oi oj b (by rw[hO1];exact rq hi) (by rw[hO1];exact rq hj)⟩,λid o' b ho' hb=>?_,λx hx=>?_,ZF hlr,hat⟩
  ·obtain⟨q1,q2,q3,q4⟩:=h2.owns id o' (by rw[hO1];exact rq ho')
   rw[hn1]at q1 q2
   exact⟨q1,q2,q3,λb hb=>(q4 b hb).2⟩
  ·exact((h2.owns id o' (by rw[hO1];exact rq ho')).2.2.2 b hb).1
  ·obtain⟨t,ht⟩:=XY hnms x hx
   have e1:=(h2.facts t _ ht).2
   simp only[TF.at_]at e1
   have e0:=hnames x hx
   obtain⟨o0,o1,h0,h1,d0,d1⟩:=XZ hnm x hx
   have b0:=d0 _ _ _ _ (ho.owns _ _ h0).2.2.1
   have b1:=d1 _ _ _ _ (h2.owns _ _ (by rw[hO1];exact rq h1)).2.2.1
   apply Prod.ext
   ·rw[e1,e0]
   ·rw[b1,b0,e1,e0]
 rcases hex with rfl |rfl
 ·exact fin
 ·exact fin
def oM(σ:List (Nat×Nat))(names:List Nat)(m i:Nat):Nat:=
 match xu i names with
 |true=>match wX σ i with
  |some j=>j
  |none=>m+i
 |false=>m+i
def tB(τ:Nat->Nat):TF->TF
 | .r v=> .r v
 | .own i=> .own (τ i)
 | .adr i o=> .adr (τ i) o
 | .nm i v=> .nm (τ i) v
 | .cut i o n=> .cut (τ i) o n
def ll(τ:Nat->Nat):Ow->Ow
 | .box cells=> .box (cells.map (tB τ))
 | .ch e sz n cells pub=> .ch e sz n cells pub
 | .gen p=> .gen p
def sV:List (Nat×Nat)->List (Nat×Option Ow)->List (Nat×Option Ow)
 |[],O=>O
 |x::r,O=>sV r ((x.2,none)::O)
def io(τ:Nat->Nat):List (Nat×Ow)->List (Nat×Option Ow)->List (Nat×Option Ow)
 |[],O=>O
 |x::r,O=>io τ r ((τ x.1,some (ll τ x.2))::O)
def co(σ:List (Nat×Nat))(names:List Nat)(m i:Nat)(K:Nat->Prop):Prop:=
 match xu i names with
 |true=>match wX σ i with
  |some j=>K j
  |none=>K (m+i)
 |false=>K (m+i)
theorem RA{σ:List (Nat×Nat)}{names:List Nat}{m i:Nat}{K:Nat->Prop}:co σ names m i K=K (oM σ names m i):=by
 unfold co oM
 cases xu i names with
 |true=>cases wX σ i<;>rfl
 |false=>rfl
def ZO(σ:List (Nat×Nat))(names:List Nat)(m:Nat)(f:TF)(K:TF->Prop):Prop:=
 match f with
 | .r v=>K (.r v)
 | .own i=>co σ names m i λj=>K (.own j)
 | .adr i o=>co σ names m i λj=>K (.adr j o)
 | .nm i v=>co σ names m i λj=>K (.nm j v)
 | .cut i o n=>co σ names m i λj=>K (.cut j o n)
theorem Wi{σ:List (Nat×Nat)}{names:List Nat}{m:Nat}{f:TF}{K:TF->Prop}:ZO σ names m f K=K (tB (oM σ names m) f):=by
 cases f<;>simp only[ZO,RA,tB]
def WZ(σ:List (Nat×Nat))(names:List Nat)(m:Nat):List TF->(List TF->Prop)->Prop
 |[],K=>K []
 |f::r,K=>ZO σ names m f λf'=>WZ σ names m r λr'=>K (f'::r')
theorem Tf{σ:List (Nat×Nat)}{names:List Nat}{m:Nat}: ∀{l:List TF} {K:List TF->Prop},WZ σ names m l K=K (l.map (tB (oM σ names m)))
 |[],K=>rfl
 |f::r,K=>by simp only[WZ,Wi,Tf,cJ]
def PQ(σ:List (Nat×Nat))(names:List Nat)(m:Nat)(o:Ow)(K:Ow->Prop):Prop:=
 match o with
 | .box cells=>WZ σ names m cells λcs=>K (.box cs)
 | .ch e sz n cells pub=>K (.ch e sz n cells pub)
 | .gen p=>K (.gen p)
theorem KW{σ:List (Nat×Nat)}{names:List Nat}{m:Nat}{o:Ow}{K:Ow->Prop}:PQ σ names m o K=K (ll (oM σ names m) o):=by
 cases o<;>simp only[PQ,Tf,ll]
def WY(σ:List (Nat×Nat))(names:List Nat)(m:Nat):List (Nat×Ow)->List (Nat×Option Ow)->(List (Nat×Option Ow)->Prop)->Prop
 |[],O,K=>K O
 |(i,o)::r,O,K=>co σ names m i λj=>PQ σ names m o λo'=>WY σ names m r ((j,some o')::O) K
theorem UY{σ:List (Nat×Nat)}{names:List Nat}{m:Nat}: ∀{l:List (Nat×Ow)} {O:List (Nat×Option Ow)} {K:List (Nat×Option Ow)->Prop},WY σ names m l O K=K (io (oM σ names m) l O)
 |[],O,K=>rfl
 |(i,o)::r,O,K=>by simp only[WY,RA,KW,UY,io]
def ev:List (Nat×Nat)->List (Nat×Option Ow)->(List (Nat×Option Ow)->Prop)->Prop
 |[],O,K=>K O
 |(_,j)::r,O,K=>ev r ((j,none)::O) K
theorem ZV: ∀{σ:List (Nat×Nat)} {O:List (Nat×Option Ow)} {K:List (Nat×Option Ow)->Prop},ev σ O K=K (sV σ O)
 |[],O,K=>rfl
 |(_,j)::r,O,K=>by simp only[ev,ZV,sV]
def iO(σ:List (Nat×Nat))(names:List Nat)(S:St)(n1:Nat)(O1:List (Nat×Ow))(res:TF)(dst:Option Nat):St:=
 ({F:=S.F,O:=io (oM σ names S.nx) O1 (sV σ S.O),nx:=S.nx+n1}:St).put dst (tB (oM σ names S.nx) res)
def Vd(σ:List (Nat×Nat))(names:List Nat)(S:St)(n1:Nat)(O1:List (Nat×Ow))(res:TF)(dst:Option Nat)(K:St->Prop):Prop:=
 match S with
 |⟨F,O,nx⟩=>ev σ O λO=>WY σ names nx O1 O λO=>match dst with
  |some d=>ZO σ names nx res λf=>K ⟨(d,f)::F,O,nx+n1⟩
  |none=>K ⟨F,O,nx+n1⟩
theorem iN{σ:List (Nat×Nat)}{names:List Nat}{S:St}{n1:Nat}{O1:List (Nat×Ow)}{res:TF}{dst:Option Nat}{K:St->Prop}:Vd σ names S n1 O1 res dst K=K (iO σ names S n1 O1 res dst):=by
 cases S;cases dst<;>simp only[Vd,ZV,UY,Wi,iO,St.put]
theorem gK: ∀{σ:List (Nat×Nat)} {O:List (Nat×Option Ow)} {c:Nat} {o:Ow},ye (sV σ O) c=some o->ye O c=some o/\∀x∈σ,x.2≠c
 |[],O,c,o,h=>⟨h,λx hx=>by cases hx⟩
 |y::r,O,c,o,h=>by
  obtain⟨h1,h2⟩:=gK (show ye (sV r ((y.2,none)::O)) c=some o from h)
  rcases yD h1 with⟨_,e⟩ |⟨hne,h1⟩
  ·cases e
  ·refine⟨h1,λx hx=>?_⟩
   rcases List.mem_cons.1 hx with rfl |hx
   ·exact hne
   ·exact h2 x hx
theorem qZ{τ:Nat->Nat}: ∀{l:List (Nat×Ow)} {O:List (Nat×Option Ow)} {c:Nat} {o:Ow},ye (io τ l O) c=some o->(∃x∈l,c=τ x.1/\o=ll τ x.2)\/ye O c=some o
 |[],O,c,o,h=> .inr h
 |y::r,O,c,o,h=>by
  rcases qZ (show ye (io τ r ((τ y.1,some (ll τ y.2))::O)) c=some o from h)with⟨x,hx,e⟩ |h1
  ·exact .inl ⟨x,cK _ hx,e⟩
  ·rcases yD h1 with⟨e,e'⟩ |⟨_,h1⟩
   ·cases e';exact .inl ⟨y,by simp,e.symm,rfl⟩
   ·exact .inr h1
theorem Tg{τ:Nat->Nat}{g' g2:Env}(h: ∀i,g2 (τ i)=g' i): ∀{f:TF} {u:Value},f.at_ w k g' u->(tB τ f).at_ w k g2 u
 | .r v,u,hu=>hu
 | .own i,u,hu=>by simp only[tB,TF.at_]at*;rw[h];exact hu
 | .adr i o,u,hu=>by simp only[tB,TF.at_]at*;rw[h];exact hu
 | .nm i v,u,hu=>by simp only[tB,TF.at_]at*;rw[h];exact hu
 | .cut i _ _,u,hu=>by simp only[tB,TF.at_]at*;rw[h];exact hu
theorem KX{τ:Nat->Nat}{g' g2:Env}(h: ∀i,g2 (τ i)=g' i){vb:Value×Option Nat}: ∀{o:Ow},o.at_ w k g' vb->(ll τ o).at_ w k g2 vb
 | .box cells,hu=>by
  simp only[ll,Ow.at_]at*
  obtain⟨b,cur,t,e,hh,hk,hsz,hc⟩:=hu
  refine⟨b,cur,t,e,hh,hk,by simpa using hsz,λj f u hf hu=>?_⟩
  rw[bR]at hf
  cases hcj:cells[j]? with
  |none=>rw[hcj]at hf;cases hf
  |some f0=>
   rw[hcj]at hf
   simp only[Option.map_some,bT]at hf
   subst hf
   exact⟨(hc j f0 u hcj hu).1,Tg h (hc j f0 u hcj hu).2⟩
 | .ch ..,hu=>hu
 | .gen _,hu=>hu
theorem Th{τ:Nat->Nat}{n m:Nat}(h: ∀i,i<n->τ i<m): ∀{f:TF},f.lt n->(tB τ f).lt m
 | .r _,_=>trivial
 | .own i,hl=>h i hl
 | .adr i _,hl=>h i hl
 | .nm i _,hl=>h i hl
 | .cut i _ _,hl=>h i hl
theorem KY{τ:Nat->Nat}{n m:Nat}(h: ∀i,i<n->τ i<m): ∀{o:Ow},o.lt n->(ll τ o).lt m
 | .box cells,hl=>λf hf=>by
  obtain⟨f0,hf0,rfl⟩:=List.mem_map.1 hf
  exact Th h (hl f0 hf0)
 | .ch ..,_=>trivial
 | .gen _,_=>trivial
theorem HK{ρ:List (Nat×Nat)}(hs:SatE B N S a w k g){o o':Ow}{vb:Value×Option Nat}(hc:jy ρ S o' o)(q3:o'.at_ w k g vb):o.at_ w k (wt ρ g) vb:=by
 cases o' with
 |box cs=>
  cases o with
  |box ds=>
   simp only[Ow.at_]at q3⊢
   obtain⟨b,cur,t,e,hh,hk,hsz,hall⟩:=q3
   have hds:=jv (us:=cur.toList) hs hc ⟨by rw[bG,hsz],λj f u hf hu=>hall j f u hf (by simpa using hu)⟩
   exact⟨b,cur,t,e,hh,hk,by rw[<-bG,hds.1],λj f u hf hu=>hds.2 j f u hf (by simpa using hu)⟩
  |ch=>exact hc.elim
  |gen=>exact hc.elim
 |gen p=>
  cases o with
  |gen q=>exact hc w k _ q3
  |box=>exact hc.elim
  |ch=>exact hc.elim
 |ch e sz n cs pub=>
  cases o with
  |box=>exact hc.elim
  |gen=>exact hc.elim
  |ch e' sz' n' ds pub'=>
   obtain⟨rfl,rfl,rfl,rfl,hcs⟩:=hc
   simp only[Ow.at_]at q3⊢
   obtain⟨r1,r2⟩:=q3
   have hlen:ds.length=cs.length:=Cvs.length hcs
   refine⟨by rw[hlen];exact r1,?_⟩
   rcases r2 with⟨h0,r2 |⟨hn,hp,b,o,e,hm,hb,hc⟩⟩ |⟨b,cap,cur,e1,e2,hh,s1,s2,s3,s4,s5⟩
   ·exact .inl ⟨h0,.inl r2⟩
   ·exact .inl ⟨h0,.inr ⟨hn,hp,b,o,e,hm,hb,hcs.cells hc⟩⟩
   ·exact .inr ⟨b,cap,cur,e1,e2,hh,s1,s2,s3,s4,hcs.list s5⟩
def CK(σ:List (Nat×Nat))(names:List Nat)(n0:Nat)(O0 O1:List (Nat×Ow)):Bool:=
 O0.all (λx=>Nat.blt x.1 n0&&uD n0 x.2)&&(sC (σ.map (·.2))&&(sC (O1.map (·.1))&&names.all (λi=>(ye (wY O0) i).isSome)))
structure Handed (P:Program) (S:St) (o:Oper) (σ:List (Nat×Nat)) (f:FuncId) (args:List TF):Prop where
 out: ∀{B:Bs} {N:Nat} {a:Act} {w:World} {k:Kp} {g:Env},SatE B N S a w k g->∃us,(execOp a.eval o).run P w=(callFunc f us.toArray).run P w/\ub w k (wt σ g) args us
theorem Vstep.acts(σ:List (Nat×Nat))(names:List Nat){f:FuncId}{n0 n1:Nat}{O0 O1:List (Nat×Ow)}{args:List TF}{res:TF}{K:St->Prop}
  (hA: ∀vs:Nat->Value,(∀i j t v,wX σ i=some j->yl S.F t=some (.nm j v)->vs i=v)->yz P f n0 O0 args (names.map λi=>(i,vs i)) n1 O1 res) (hcall:Handed P S o σ f args)
  (hst:CK σ names n0 O0 O1=true) (ho:kW σ S (wY O0)) (hz:Ou O0) (hK:Vd σ names S n1 O1 res o.dst K):Vstep P S o K:=by
 rw[iN]at hK
 refine zI (λB N a w k Q ⟨g,hs⟩ hd=>?_) hK
 simp only[CK,bB,List.all_eq_true]at hst
 obtain⟨hst0,hnd,hnd1,hnm0⟩:=hst
 obtain⟨⟨fn,c,hf,hb,hn⟩,hA⟩:=hA (λi=>(wt σ g i).1) λi j t v hi ht=>by
  have:=(hs.facts t _ ht).2
  simp only[TF.at_]at this
  simp only[wt,hi]
  exact this
 obtain⟨us,hrun,hargs⟩:=hcall.out hs
 have hown:Own w k (wt σ g) n0 (wY O0):=by
  refine⟨λi o' hi=>?_,λi j oi oj b hi hj hne hbi hbj=>?_⟩
  ·obtain⟨⟨j,o2,hj,ho2,hc⟩,hm⟩:=vZ ho hi
   have hlt:=hst0 _ (rG hi)
   obtain⟨q1,q2,q3,q4⟩:=hs.owns j o2 ho2
   have hren:wt σ g i=g j:=by simp[wt,hj]
   refine⟨by have:=hlt.1;simp[Nat.blt]at this;omega,UM hlt.2,?_,λb hb=>?_⟩
   ·rw[hren];exact HK hs hc q3
   ·rw[hren]at hb;exact(q4 b hb).2
  ·obtain⟨⟨i',oi',hi',hoi,_⟩,_⟩:=vZ ho hi
   obtain⟨⟨j',oj',hj',hoj,_⟩,_⟩:=vZ ho hj
   simp only[wt,hi']at hbi
   simp only[wt,hj']at hbj
   refine hs.apart i' j' oi' oj' b hoi hoj (λe=>?_) hbi hbj
   subst e
   exact hne (Wk (wF hnd) hi' hj')
 have hX: ∀b,b∈qv (wt σ g) O0->∃i j o',wX σ i=some j/\ye S.O j=some o'/\(g j).2=some b/\k b=0:=λb hb=>by
  obtain⟨i,o1,hi,hgi⟩:=U3.1 hb
  obtain⟨⟨j,o2,hj,ho2,_⟩,_⟩:=vZ ho hi
  have hren:wt σ g i=g j:=by simp[wt,hj]
  have hzz:=Wz hz _ (rG hi) w k (wt σ g) (wt σ g i) b (hown.owns i o1 hi).2.2.1 hgi
  rw[hren]at hgi
  exact⟨i,j,o2,hj,ho2,hgi,hzz⟩
 unfold Oper.wp
 rw[hrun,qw hf hb hn]
 simp only[Oper.upon]
 refine(hA w k (wt σ g) us hown (λx hx=>?_) hargs).mono ?_
 ·obtain⟨i,_,rfl⟩:=List.mem_map.1 hx
  rfl
 rintro en w' ⟨v,rfl,hkeep,k',g',hkk,hown',hblk,hnames,hrlt,hrat⟩
 simp only
 have hle:Le w k w' k':=by
  refine⟨hkeep.size,λb hb=>?_,λb o' hb ho'=>?_,λb hb hk es c e=>?_⟩
  ·by_cases hx:b∈qv (wt σ g) O0
   ·obtain⟨_,_,_,_,_,_,h0⟩:=hX b hx;omega
   ·exact Nat.le_of_eq (hkk b hb hx).symm
  ·by_cases hx:b∈qv (wt σ g) O0
   ·obtain⟨_,_,_,_,_,_,h0⟩:=hX b hx;omega
   ·exact World.cell?_of_block (a:=⟨b,o',none⟩) (hkeep.block b hb hx)
  ·by_cases hx:b∈qv (wt σ g) O0
   ·obtain⟨_,_,_,_,_,_,h0⟩:=hX b hx;omega
   ·exact(hkeep.block b hb hx).trans e
 let g2:Env:=λc=>if c<S.nx then g c else g' (c-S.nx)
 have hg2: ∀i,i<S.nx->g2 i=g i:=λi hi=>by simp[g2,hi]
 have hτ: ∀i,g2 (oM σ names S.nx i)=g' i/\(i<n1->oM σ names S.nx i<S.nx+n1):=λi=>by
  have other:g2 (S.nx+i)=g' i/\(i<n1->S.nx+i<S.nx+n1):=⟨by simp only[g2];rw[cQ (by omega),Nat.add_sub_cancel_left],λh=>by omega⟩
  unfold oM
  cases hm:xu i names with
  |false=>exact other
  |true=>
   cases hr:wX σ i with
   |none=>exact other
   |some j=>
    simp only
    have hmem:=yW.1 hm
    have hsome:=hnm0 i hmem
    obtain⟨o1,ho1⟩:=Option.isSome_iff_exists.1 hsome
    obtain⟨⟨j',o2,hj',ho2,_⟩,_⟩:=vZ ho ho1
    rw[hr]at hj'
    cases hj'
    have hjlt:=(hs.owns j o2 ho2).1
    refine⟨?_,λ_=>by omega⟩
    rw[hg2 j hjlt]
    have:=hnames (i,(wt σ g i).1) (List.mem_map.2 ⟨i,hmem,rfl⟩)
    simp only at this
    rw[this]
    simp[wt,hr]
 have old: ∀c o',ye (sV σ S.O) c=some o'->ye S.O c=some o'/\∀b,(g c).2=some b->b∉qv (wt σ g) O0:=λc o' h=>by
  obtain⟨h1,h2⟩:=gK h
  refine⟨h1,λb hb hx=>?_⟩
  obtain⟨i,j,o2,hj,ho2,hgj,_⟩:=hX b hx
  exact hs.apart c j o' o2 b h1 ho2 (λe=>h2 _ (lm hj) e.symm) hb hgj
 have hkeepB:Keep B.X B.w w':=⟨hkeep.os.trans hs.keep.os,hkeep.tape.trans hs.keep.tape,hkeep.output.trans hs.keep.output,Nat.le_trans hs.keep.size hkeep.size,λb hb hx=>by
  refine(hkeep.block b (bN hb hs.keep.size) λhm=>?_).trans (hs.keep.block b hb hx)
  obtain⟨i,j,o2,hj,ho2,hgj,_⟩:=hX b hm
  rcases((hs.owns j o2 ho2).2.2.2 b hgj).1 with h |h
  ·omega
  ·exact hx h⟩
 have hs2:SatE B N {F:=S.F,O:=io (oM σ names S.nx) O1 (sV σ S.O),nx:=S.nx+n1} a w' k' g2:=by
  refine⟨hs.size,hs.defers,hkeepB,λb hb hx=>?_,λt f hf=>?_,λc o' hc=>?_,λc d oc od b hc hd' hne hbc hbd=>?_⟩
  ·refine(hkk b (bN hb hs.keep.size) λhm=>?_).trans (hs.kk b hb hx)
   obtain⟨i,j,o2,hj,ho2,hgj,_⟩:=hX b hm
   rcases((hs.owns j o2 ho2).2.2.2 b hgj).1 with h |h
   ·omega
   ·exact hx h
  ·have:=hs.facts t f hf
   exact⟨TF.lt_mono (Nat.le_add_right _ _) this.1,TF.env hg2 this.1 (TF.mono hle this.2)⟩
  ·rcases qZ hc with⟨x,hx,rfl,rfl⟩ |hc
   ·have hx1:=uC (wF hnd1) hx
    obtain⟨q1,q2,q3,q4⟩:=hown'.owns x.1 x.2 hx1
    refine⟨(hτ x.1).2 q1,KY (λi hi=>(hτ i).2 hi) q2,?_,λb hb=>?_⟩
    ·rw[(hτ x.1).1]
     exact KX (λi=>(hτ i).1) q3
    ·rw[(hτ x.1).1]at hb
     refine⟨?_,q4 b hb⟩
     rcases hblk x.1 x.2 b hx1 hb with h |h
     ·left;have:=hs.keep.size;omega
     ·obtain⟨i,j,o2,hj,ho2,hgj,_⟩:=hX b h
      exact((hs.owns j o2 ho2).2.2.2 b hgj).1
   ·obtain⟨hc,hnx⟩:=old c o' hc
    obtain⟨q1,q2,q3,q4⟩:=hs.owns c o' hc
    refine⟨bN q1 (Nat.le_add_right _ _),Ow.lt_mono (Nat.le_add_right _ _) q2,?_,λb hb=>?_⟩
    ·rw[hg2 c q1]
     exact Ow.env hg2 q2 (Ow.mono hle (λb hb=>⟨hkeep.block b (q4 b hb).2 (hnx b hb),hkk b (q4 b hb).2 (hnx b hb)⟩) q3)
    ·rw[hg2 c q1]at hb
     exact⟨(q4 b hb).1,bN (q4 b hb).2 hkeep.size⟩
  ·have newOld: ∀x∈O1,∀d od,ye (sV σ S.O) d=some od->(g2 (oM σ names S.nx x.1)).2=some b->(g2 d).2=some b->False:=λx hx d od hd' h1 h2=>by
    have hx1:=uC (wF hnd1) hx
    obtain⟨hd',hnx⟩:=old d od hd'
    obtain⟨q1,_,_,q4⟩:=hs.owns d od hd'
    rw[hg2 d q1]at h2
    rw[(hτ x.1).1]at h1
    rcases hblk x.1 x.2 b hx1 h1 with h |h
    ·have:=(q4 b h2).2;omega
    ·exact hnx b h2 h
   rcases qZ hc with⟨x,hx,rfl,rfl⟩ |hc
   ·rcases qZ hd' with⟨y,hy,rfl,rfl⟩ |hd'
    ·have hx1:=uC (wF hnd1) hx
     have hy1:=uC (wF hnd1) hy
     rw[(hτ x.1).1]at hbc
     rw[(hτ y.1).1]at hbd
     exact hown'.apart x.1 y.1 x.2 y.2 b hx1 hy1 (λe=>hne (by rw[e])) hbc hbd
    ·exact newOld x hx d od hd' hbc hbd
   ·rcases qZ hd' with⟨y,hy,rfl,rfl⟩ |hd'
    ·exact newOld y hy c oc hc hbd hbc
    ·have hc1:=(old c oc hc).1
     have hd1:=(old d od hd').1
     rw[hg2 c (hs.owns c oc hc1).1]at hbc
     rw[hg2 d (hs.owns d od hd1).1]at hbd
     exact hs.apart c d oc od b hc1 hd1 hne hbc hbd
 refine⟨k',g2,?_⟩
 unfold iO
 exact hs2.put hd (Th (λi hi=>(hτ i).2 hi) hrlt) (Tg (λi=>(hτ i).1) hrat)
abbrev zj:= @Vstep.acts
def ki(σ:List (Nat×Nat))(S:St):List Operand->List TF->Prop
 |[],fs=>fs=[]
 |x::xs,fs=>∃f r,fs=f::r/\(match yv S x with
  |some f'=>oW σ S f' f
  |none=>False)/\ki σ S xs r
def iX(σ:List (Nat×Nat))(S:St):List Value->List TF->Prop
 |[],fs=>fs=[]
 |c::cs,fs=>∃f r,fs=f::r/\(match f with
  | .r v=>∀w k,v.at_ w k c
  | .own i=>∃j t,wX σ i=some j/\yl S.F t=some (.nm j c)
  |_=>False)/\iX σ S cs r
theorem iS{σ:List (Nat×Nat)}(hs:SatE B N S a w k g): ∀{xs:List Operand} {fs:List TF},ki σ S xs fs->ub w k (wt σ g) fs (xs.map a.eval)
 |[],fs,h=>by simp only[ki]at h;subst h;simp[ub]
 |x::xs,fs,h=>by
  simp only[ki]at h
  obtain⟨f,r,rfl,h1,h2⟩:=h
  simp only[cJ,ub]
  refine⟨_,_,rfl,?_,iS hs h2⟩
  split at h1
  ·rename_i f' hf'
   exact Yx hs h1 (yi hs hf').2
  ·exact h1.elim
theorem Xt{σ:List (Nat×Nat)}(hs:SatE B N S a w k g): ∀{cs:List Value} {fs:List TF},iX σ S cs fs->ub w k (wt σ g) fs cs
 |[],fs,h=>by simp only[iX]at h;subst h;simp[ub]
 |c::cs,fs,h=>by
  simp only[iX]at h
  obtain⟨f,r,rfl,h1,h2⟩:=h
  simp only[ub]
  refine⟨_,_,rfl,?_,Xt hs h2⟩
  split at h1
  ·exact h1 w k
  ·obtain⟨j,t,hj,ht⟩:=h1
   have:=(hs.facts t _ ht).2
   simp only[TF.at_]at this⊢
   simp only[wt,hj]
   exact this.symm
  ·exact h1.elim
theorem T3{fs fs':List TF}{us us':List Value}(h:ub w k g fs us)(h':ub w k g fs' us'):ub w k g (fs++fs') (us++us'):=by
 induction fs generalizing us with
 |nil=>simp only[ub]at h;subst h;exact h'
 |cons f r ih=>
  simp only[ub]at h
  obtain⟨u,us2,rfl,h1,h2⟩:=h
  exact⟨u,us2++us',rfl,h1,ih h2⟩
theorem Handed.func{σ:List (Nat×Nat)}{f:FuncId}{xs:Array Operand}{ts:Array TypeId}{fs:List TF}(hop:o.op= .call {callee:= .value (.func f),args:=xs,argTypes:=ts})(h:ki σ S xs.toList fs):Handed P S o σ f fs:=by
 refine⟨λ{B N a w k g} hs=>⟨xs.toList.map a.eval,?_,iS hs h⟩⟩
 have hargs':xs.map a.eval=(xs.toList.map a.eval).toArray:=by apply Array.ext';simp
 simp[execOp,hop,resolve,Deferred.ofValue,invoke,Act.eval,hargs']
abbrev zi:= @Handed.func
theorem Handed.clo{σ:List (Nat×Nat)}{f:FuncId}{t:Nat}{cap:Array Value}{xs:Array Operand}{ts:Array TypeId}{fs cs:List TF}(hop:o.op= .call {callee:= .value (.tmp t),args:=xs,argTypes:=ts})
  (ht:yl S.F t=some (.r (.x (.func (.func f) #[] cap)))) (h:ki σ S xs.toList fs) (hc:iX σ S cap.toList cs):Handed P S o σ f (fs++cs):=by
 refine⟨λ{B N a w k g} hs=>⟨xs.toList.map a.eval++cap.toList,?_,T3 (iS hs h) (Xt hs hc)⟩⟩
 have hfv:=(hs.facts t _ ht).2
 simp only[TF.at_,RV.at_]at hfv
 have e2:a.eval (.tmp t)= .func (.func f) #[] cap:=by
  have:a.eval (.tmp t)=a.tmps.getD t undef:=by simp[Act.eval]
  rw[this,hfv]
 have hargs':xs.map a.eval++cap=(xs.toList.map a.eval++cap.toList).toArray:=by apply Array.ext';simp
 simp[execOp,hop,resolve,e2,Deferred.ofValue,invoke,hargs']
end
section
variable {P:Program} {T:TT} {B:Bs} {N:Nat} {S:St} {a:Act} {w:World} {k:Kp} {g:Env} {o:Oper} {Q:Exit->Act->World->Prop}
theorem lL: ∀{c rest:Code} {l:Nat},findLabel c l=some rest->xf N c=true->xf N rest=true
 | .seq a b,rest,l,h,hd=>by
  simp only[xf,bB]at hd
  simp only[findLabel]at h
  split at h
  ·rename_i r hr
   cases h
   simp only[xf,bB]
   exact⟨lL hr hd.1,hd.2⟩
  ·exact lL h hd.2
 | .label l',rest,l,h,hd=>by
  simp only[findLabel]at h
  split at h
  ·cases h;rfl
  ·cases h
 | .skip,_,_,h,_=>by simp[findLabel]at h
 | .region ..,_,_,h,_=>by simp[findLabel]at h
 | .cond ..,_,_,h,_=>by simp[findLabel]at h
 | .block ..,_,_,h,_=>by simp[findLabel]at h
 | .loop ..,_,_,h,_=>by simp[findLabel]at h
 | .exit ..,_,_,h,_=>by simp[findLabel]at h
 | .ret,_,_,h,_=>by simp[findLabel]at h
 | .goto ..,_,_,h,_=>by simp[findLabel]at h
 | .scope ..,_,_,h,_=>by simp[findLabel]at h
 | .rangeFunc ..,_,_,h,_=>by simp[findLabel]at h
 | .refuse ..,_,_,h,_=>by simp[findLabel]at h
def om(l:Nat)(J:St->Prop)(Q:Exit->St->Prop)(e:Exit)(S:St):Prop:=
 match e with
 | .goto l'=>match Nat.beq l' l with
  |true=>J S
  |false=>False
 |e=>Q e S
theorem Vcode.scope(hm:P.follows .mixedOrders=true)(hT:TOk P T){c rest:Code}{Q:Exit->St->Prop}(l:Nat){ι:Type}(inv:ι->St)(R:ι->Prop)(μ:ι->Nat)(hf:findLabel c l=some rest)
  (first:vO P T c S (om l (λS'=>∃i,R i/\Sub S' (inv i)) Q))
  (pass: ∀i,R i->vO P T rest (inv i) (om l (λS'=>∃i',R i'/\μ i'<μ i/\Sub S' (inv i')) Q)):Vcode P (.scope c) S Q:=by
 refine⟨λB N a w k Q' hs hd hQ=>?_⟩
 have hd0:xf N c=true:=by simpa only[xf]using hd
 let J:Nat->Act->World->Prop:=λn a w=>∃i k,R i/\μ i=n/\yK B N (inv i) a w k
 refine wp_scope_jumps l (λa w=>∃n,J n a w) (λa w=>leastOf (λn=>J n a w)) hf ?_ ?_
 ·refine yP hm hT c S _ first B N a w k _ hs hd0 λe S' a' w' k' hq hs'=>?_
  cases e with
  |goto l'=>
   simp only[om]at hq
   split at hq
   ·rename_i hb
    obtain⟨i,hR,hsub⟩:=hq
    obtain⟨k2,hs2⟩:=hsub B N a' w' k' hs'
    exact⟨bI hb,μ i,i,k2,hR,rfl,hs2⟩
   ·exact hq.elim
  |_=>exact hQ _ S' a' w' k' hq hs'
 ·intro a1 w1 hJ
  obtain⟨i,k1,hR,hμ,hs1⟩:=(leastOf_spec hJ).1
  refine yP hm hT rest (inv i) _ (pass i hR) B N a1 w1 k1 _ hs1 (lL hf hd0) λe S' a' w' k' hq hs'=>?_
  cases e with
  |goto l'=>
   simp only[om]at hq
   split at hq
   ·rename_i hb
    obtain⟨i',hR',hlt,hsub⟩:=hq
    obtain⟨k2,hs2⟩:=hsub B N a' w' k' hs'
    have hJ':J (μ i') a' w':=⟨i',k2,hR',rfl,hs2⟩
    refine⟨bI hb,⟨μ i',hJ'⟩,?_⟩
    exact Nat.lt_of_le_of_lt ((leastOf_spec ⟨_,hJ'⟩).2 _ hJ') (by rw[<-hμ];exact hlt)
   ·exact hq.elim
  |_=>exact hQ _ S' a' w' k' hq hs'
theorem Vcode.run(hT:TOk P T){id:Nat}{ops:Array Oper}{Q:Exit->St->Prop}(h:x9 P T ops.toList ops.toList S (Q .normal)):Vcode P (.region id ops false) S Q:=by
 refine⟨λB N a w k Q' hs hd hQ=>?_⟩
 have hN: ∀o∈ops.toList,∀d,o.dst=some d->d<N:=λo ho d hod=>by
  simp only[xf,List.all_eq_true]at hd
  have h1:=hd o ho
  simp only[hod]at h1
  exact cE h1
 exact wp_region_list (pi (Q:=Q') hT hN (λ_ h=>h) hs h λS' a' w' k' hq hs'=>hQ _ S' a' w' k' hq hs')
theorem Vstep.mapMk{t:TypeId}{K:St->Prop}(gh:Nat)(hop:o.op= .makeMap t none)(hK: ∀b:Nat,yI ⟨(gh,.nm S.nx (.map (some b)))::S.F,(S.nx,some (.gen (qT [])))::S.O,S.nx+1⟩ o.dst (.r (.x (.map (some b)))) none K):Vstep P S o K:=by
 simp only[yJ]at hK
 refine⟨Nat,_,λB N a w k Q hs0 hd=>Oper.wp_mono ?_ (show o.wp P a w (λa' w'=>∃b k',yK B N (St.put ⟨(gh,.nm S.nx (.map (some b)))::S.F,(S.nx,some (.gen (qT [])))::S.O,S.nx+1⟩ o.dst (.r (.x (.map (some b))))) a' w' k') Q from ?_),hK⟩
 ·rintro a' w' ⟨b,k',h⟩;exact⟨b,k',h⟩
 obtain⟨g,hs⟩:=hs0
 refine yG (v:= .map (some w.heap.size)) (w':=w.alloc (.map #[] 0)) (by simp[execOp,hop,Instr.makeMap,newObj];rfl) ⟨w.heap.size,x6 k w.heap.size 0,?_⟩
 have hat:Ow.at_ (w.alloc (.map #[] 0)) (x6 k w.heap.size 0) g (.map (some w.heap.size),some w.heap.size) (.gen (qT [])):=by
  simp only[Ow.at_]
  exact⟨w.heap.size, #[],0,rfl,heap_alloc_new w _,wo,⟨rfl,λj x e h=>by simp at h⟩,stampE.nil⟩
 have h:=hs.make (dst:=none) (λd e=>by cases e) (vj w (.map #[] 0)) (λb hb=>wR b hb) (vb:=(.map (some w.heap.size),some w.heap.size)) (o:= .gen (qT [])) trivial hat (λb hb=>by
  cases hb
  exact⟨bQ _,by simp⟩)
 have h2:SatE B N ⟨(gh,.nm S.nx (.map (some w.heap.size)))::S.F,(S.nx,some (.gen (qT [])))::S.O,S.nx+1⟩ a (w.alloc (.map #[] 0)) (x6 k w.heap.size 0) (g.set S.nx (.map (some w.heap.size),some w.heap.size)):=by
  refine⟨h.size,h.defers,h.keep,h.kk,λt' f hf=>?_,h.owns,h.apart⟩
  rcases yO hf with⟨rfl,rfl⟩ |⟨_,hf⟩
  ·exact⟨Nat.lt_succ_self _,by simp only[TF.at_,Env.set_eq]⟩
  ·exact h.facts t' f hf
 exact⟨_,h2.put hd trivial (by simp only[TF.at_,RV.at_])⟩
theorem Vstep.mapPut{t kt et:TypeId}{x y z:Operand}(id gh:Nat){n:Int}{ents:List (Int×RV)}{f:TF}{r:RV}{m:Value}{K:St->Prop}(hop:o.op= .mapUpdate t x y z)(hx:yv S x=some (.r (.x m)))(hgh:yl S.F gh=some (.nm id m))(ho:ye S.O id=some (.gen (qT ents)))(hy:yv S y=some (.r (.i .i64 n)))(hz:yv S z=some f)(hr:S.rv f=some r)
  (hu:P.underlying t=some (.map kt et)) (hk:P.underlying kt=some (.int .i64)) (hm:wV ents n=none) (hK:ba S id (some (.gen (qT (ents++[(n,r)])))) o.dst K):Vstep P S o K:=by
 rw[vF]at hK
 refine zI (λB N a w k Q ⟨g,hs⟩ hd=>?_) hK
 have hv:=(yi hs hx).2
 have hn:=(yi hs hy).2
 have hzv:=tC hs hr (yi hs hz).2
 have hnm:=(hs.facts gh _ hgh).2
 simp only[TF.at_,RV.at_]at hv hn hnm
 obtain⟨_,_,hat,_⟩:=hs.owns id _ ho
 simp only[Ow.at_]at hat
 obtain⟨b,es,c,e,hh,hkb,he,hst⟩:=hat
 obtain⟨res,h1,h2⟩:=lU (n:=n) hk he
 rw[hm]at h2
 simp only at h2
 subst h2
 rw[<-hnm,e]at hv
 have hb:b<w.heap.size:=(Array.getElem?_eq_some_iff.1 hh).1
 let ob:Obj:= .map (es.push {key:= .int .i64 n,val:=a.eval z,born:=c}) (c+1)
 let w':World:={w with heap:=w.heap.setIfInBounds b ob}
 have hrun:(Instr.mapUpdate t (.map (some b)) (.int .i64 n) (a.eval z)).run P w= .ok () w':=by
  simp[Instr.mapUpdate,run_underlying hu w,pg hk,h1,hh,getObj,setObj,Sem.run,w',ob]
 have hw:Wrote w k w' k (some b):=⟨rfl,rfl,rfl,by simp[w'],λx _ hne=>⟨by simp only[w'];rw[Array.getElem?_setIfInBounds_ne (λh=>hne (by rw[h]))],rfl⟩,λx hx=>by
  cases hx
  exact⟨bQ _,λo ho=>by omega,λh=>by omega⟩⟩
 have hnew:(Ow.gen (qT (ents++[(n,r)]))).at_ w' k g (g id):=by
  simp only[Ow.at_]
  refine⟨b,_,c+1,e,by simp only[w',ob];rw[Array.getElem?_setIfInBounds_self_of_lt hb],hkb,?_,hst.push (SR he hm)⟩
  have he':=he.mono hw.le
  refine⟨by simp[he'.1],λj x en hj hen=>?_⟩
  rw[Array.toList_push]at hen
  rcases Nat.lt_or_ge j ents.length with hlt |hge
  ·rw[List.getElem?_append_left hlt]at hj
   rw[List.getElem?_append_left (by rw[he'.1];exact hlt)]at hen
   exact he'.2 j x en hj hen
  ·rw[List.getElem?_append_right hge]at hj
   rw[List.getElem?_append_right (by rw[he'.1];exact hge),he'.1]at hen
   have:j-ents.length=0:=by have:=(List.getElem?_eq_some_iff.1 hj).1;simp at this;omega
   rw[this]at hj hen
   simp at hj hen
   subst hj;subst hen
   exact⟨rfl,RV.mono hw.le _ _ hzv⟩
 exact br (w':=w') (by simp[execOp,hop,hv,hn,hrun]) ⟨k,g,(hs.redo (ow':= .gen (qT (ents++[(n,r)]))) ho (by rw[e]) hw trivial hnew).drop⟩
theorem eY{id gh:Nat}{m:Value}{ents:List (Int×RV)}(ho:ye S.O id=some (.gen (qT ents)))(hgh:yl S.F gh=some (.nm id m)):
  ∀{B N a w k},yK B N S a w k->∃k',yK B N ⟨S.F,(id,none)::S.O,S.nx⟩ a w k'/\(wD ents).at_ w k' m/\Le w k w k':=by
 rintro B N a w k ⟨g,hs⟩
 obtain⟨_,_,hat,hblk⟩:=hs.owns id _ ho
 simp only[Ow.at_]at hat
 obtain⟨b,es,c,e,hh,hkb,he,hst⟩:=hat
 have hb:b<w.heap.size:=(Array.getElem?_eq_some_iff.1 hh).1
 have hw:Wrote w k w (x6 k b 1) (some b):=⟨rfl,rfl,rfl,bQ _,λx _ hne=>⟨rfl,by simp[x6,show x≠b fromλh=>hne (by rw[h])]⟩,λx hx=>by
  cases hx
  exact⟨by omega,λ_ _=>rfl,λh=>by omega⟩⟩
 have h:=hs.wrote hw (id:=some id) ⟨⟨_,ho⟩,by rw[e]⟩
 have hnm:=(hs.facts gh _ hgh).2
 simp only[TF.at_]at hnm
 refine⟨x6 k b 1,⟨g,h⟩,?_,hw.le⟩
 rw[<-hnm,e]
 exact .inr ⟨b,es,c,rfl,hb,by rw[wo];omega,hh,he.mono hw.le,hst⟩
end
end Go.Proofs.YtkegaaonpekkgaaGreat.Sx
