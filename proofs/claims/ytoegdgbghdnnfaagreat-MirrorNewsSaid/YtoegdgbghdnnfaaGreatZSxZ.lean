import Derived.Test.YtoegdgbghdnnfaaGreatZSxS
namespace Go.Proofs.YtoegdgbghdnnfaaGreat.Sx
open Go.RowKit
section
variable {P:Program} {T:TT} {B:Bs} {N:Nat} {S:St} {a:Act} {w:World} {k:Kp} {g:Env} {o:Oper} {Q:Exit->Act->World->Prop}
theorem chAt.blk{e:TypeId}{sz n:Nat}{cells:List RV}{pub:Bool}{u:Value}{ob:Option Nat}(h:chAt w k e sz n cells pub u ob){b:Nat}(hb:ob=some b):k b=(if pub then n*sz else 0)/\(∃cur,w.heap[b]?=some (.cells cur e (0,0))):=by
 rcases h.2 with⟨h,_⟩ |⟨b',cap,cur,h,_,hh,_,_,_,h',_⟩
 ·rw[h]at hb;cases hb
 ·rw[h]at hb;cases hb;exact⟨h',cur,hh⟩
end
section
variable {P:Program} {T:TT} {B:Bs} {N:Nat} {S:St} {a:Act} {w:World} {k:Kp} {g:Env} {o:Oper} {Q:Exit->Act->World->Prop}
theorem SatE.reset(hs:SatE B N S a w k g){id:Nat}{ow:Ow}(ho:oget S.O id=some ow):SatE B N (S.set id (some ow)) a w k g:=by
 have up: ∀i o',oget (S.set id (some ow)).O i=some o'->oget S.O i=some o':=λi o' h=>by
  rcases zav h with⟨rfl,e⟩ |⟨_,h⟩
  ·cases e;exact ho
  ·exact h
 exact⟨hs.size,hs.defers,hs.keep,hs.kk,hs.facts,λi o' h=>hs.owns i o' (up i o' h),λi j o1 o2 b hi hj=>hs.apart i j o1 o2 b (up i o1 hi) (up j o2 hj)⟩
end
def zdh(w:World)(k:Kp)(g:Env):List TF->List Value->Prop
 |[],us=>us=[]
 |f::fs,us=>∃u r,us=u::r/\f.at_ w k g u/\zdh w k g fs r
def lift(O:List (Nat×Ow)):List (Nat×Option Ow):=O.map λx=>(x.1,some x.2)
structure Own (w:World) (k:Kp) (g:Env) (n:Nat) (O:List (Nat×Option Ow)):Prop where
 owns: ∀id o,oget O id=some o->id<n/\o.lt n/\o.at_ w k g (g id)/\∀b,(g id).2=some b->b<w.heap.size
 apart: ∀i j o o' b,oget O i=some o->oget O j=some o'->i≠j->(g i).2=some b->(g j).2≠some b
def blks(g:Env)(O:List (Nat×Ow)):List Nat:=O.filterMap λx=>(g x.1).2
def Acts(P:Program)(f:FuncId)(n0:Nat)(O0:List (Nat×Ow))(args:List TF)(names:List (Nat×Value))(n1:Nat)(O1:List (Nat×Ow))(res:TF):Prop:=
 zlj P f/\∀w k g us,Own w k g n0 (lift O0)->(∀x∈names,(g x.1).1=x.2)->zdh w k g args us->
  Calls P f us.toArray w λe w'=>∃v,e= .returned v/\Keep (blks g O0) w w'/\∃(k':Kp) (g':Env),(∀b,b<w.heap.size->b∉blks g O0->k' b=k b)/\
   Own w' k' g' n1 (lift O1)/\(∀id o b,oget (lift O1) id=some o->(g' id).2=some b->w.heap.size<=b\/b∈blks g O0)/\(∀x∈names,g' x.1=g x.1)/\res.lt n1/\res.at_ w' k' g' v
def blk:Value->Option Nat
 | .pointer (some a)=>some a.block
 | .map (some b)=>some b
 | .slice (some a) _ _=>some a.block
 |_=>none
def Nmd(o:Ow):Prop:=∀w k g vb,o.at_ w k g vb->vb.2=blk vb.1
theorem zai{cells:List TF}:Nmd (.box cells):=λw k g vb h=>by
 simp only[Ow.at_]at h
 obtain⟨b,cur,t,rfl,_⟩:=h
 rfl
theorem zlc{e:TypeId}{sz n:Nat}{cells:List RV}(h0:0<n):Nmd (.ch e sz n cells false):=λw k g vb h=>by
 simp only[Ow.at_]at h
 obtain⟨_,⟨h1,⟨h2,_⟩ |⟨_,h2,_⟩⟩ |⟨b,cap,cur,h1,h2,_⟩⟩:=h
 ·omega
 ·cases h2
 ·rw[h1,h2]
  rfl
def Zero(o:Ow):Prop:=∀w k g vb b,o.at_ w k g vb->vb.2=some b->k b=0
theorem zad{cells:List TF}:Zero (.box cells):=λw k g vb b h hb=>by
 simp only[Ow.at_]at h
 obtain⟨b',cur,t,rfl,_,hk,_⟩:=h
 cases hb
 exact hk
theorem zaq{e:TypeId}{sz n:Nat}{cells:List RV}:Zero (.ch e sz n cells false):=λw k g vb b h hb=>by
 simp only[Ow.at_]at h
 have:=(h.blk hb).1
 simpa using this
def z5i:List (Nat×Ow)->Prop
 |[]=>True
 |x::r=>Zero x.2/\z5i r
theorem zv8: ∀{O:List (Nat×Ow)},z5i O->∀x∈O,Zero x.2
 |[],_,x,h=>by cases h
 |y::r,h,x,hx=>by
  rcases List.mem_cons.1 hx with rfl |hx
  ·exact h.1
  ·exact zv8 h.2 x hx
theorem zgl: ∀{O:List (Nat×Ow)} {i:Nat} {o:Ow},oget (lift O) i=some o->(i,o)∈O
 |[],i,o,h=>by simp[lift,oget]at h
 |x::r,i,o,h=>by
  rcases zav (show oget ((x.1,some x.2)::lift r) i=some o from h)with⟨e,e'⟩ |⟨_,h⟩
  ·cases e';subst e;simp
  ·exact List.mem_cons_of_mem _ (zgl h)
theorem zm1: ∀{O:List (Nat×Ow)} {x:Nat×Ow},x∈O->∃o,oget (lift O) x.1=some o
 |[],x,h=>by cases h
 |y::r,x,h=>by
  show∃o,oget ((y.1,some y.2)::lift r) x.1=some o
  rcases List.mem_cons.1 h with rfl |h
  ·exact⟨x.2,by simp[oget]⟩
  ·obtain⟨o,ho⟩:=zm1 h
   by_cases e:y.1=x.1
   ·exact⟨y.2,by simp[oget,e]⟩
   ·refine⟨o,?_⟩
    rw[oget,zm7 e]
    exact ho
theorem zen: ∀{O:List (Nat×Ow)} {x:Nat×Ow},(O.map (·.1)).Nodup->x∈O->oget (lift O) x.1=some x.2
 |[],x,_,h=>by cases h
 |y::r,x,hn,h=>by
  show oget ((y.1,some y.2)::lift r) x.1=some x.2
  simp only[List.map_cons,List.nodup_cons]at hn
  rcases List.mem_cons.1 h with rfl |h
  ·simp[oget]
  ·have:y.1≠x.1:=λe=>hn.1 (by rw[e];exact List.mem_map.2 ⟨x,h,rfl⟩)
   rw[oget,zm7 this]
   exact zen hn.2 h
theorem zyh{g:Env}{O:List (Nat×Ow)}{b:Nat}:b∈blks g O↔∃i o,oget (lift O) i=some o/\(g i).2=some b:=by
 constructor
 ·intro h
  obtain⟨x,hx,hb⟩:=List.mem_filterMap.1 h
  obtain⟨o,ho⟩:=zm1 hx
  exact⟨x.1,o,ho,hb⟩
 ·rintro⟨i,o,ho,hb⟩
  exact List.mem_filterMap.2 ⟨(i,o),zgl ho,hb⟩
def zo0:Nat->List TF->List (Nat×TF)
 |_,[]=>[]
 |n,f::r=>(n,f)::zo0 (n+1) r
def nmsT:List (Nat×Value)->List (Nat×TF)
 |[]=>[]
 |x::r=>(1000000+x.1, .nm x.1 x.2)::nmsT r
def zws(S:St):List (Nat×Value)->Prop
 |[]=>True
 |x::r=>(∃t,fget S.F t=some (.nm x.1 x.2))/\zws S r
def zpb(O0 O1:List (Nat×Ow)):List (Nat×Value)->Prop
 |[]=>True
 |x::r=>(∃o o',oget (lift O0) x.1=some o/\oget (lift O1) x.1=some o'/\Nmd o/\Nmd o')/\zpb O0 O1 r
def retT(T:TT)(results:List ResultVar)(S:St)(res:TF):Prop:=
 match results with
 |[x]=>resv T S x λf=>match res with
  | .r v=>match S.rv f with
   |some v'=>Cv v' v
   |none=>False
  |res=>f=res
 |xs=>zpj T S xs λvs=>∃v,res= .r v/\Cv (.tu vs) v
section
variable {P:Program} {T:TT} {B:Bs} {N:Nat} {S:St} {a:Act} {w:World} {k:Kp} {g:Env} {o:Oper} {Q:Exit->Act->World->Prop}
theorem zup: ∀{l:List TF} {n t:Nat} {f:TF} {us:List Value},zdh w k g l us->fget (zo0 n l) t=some f->f∈l/\n<=t/\∃u,us[t-n]?=some u/\f.at_ w k g u
 |[],_,_,_,_,_,h=>by simp[zo0,fget]at h
 |v::r,n,t,f,us,hp,h=>by
  simp only[zdh]at hp
  obtain⟨u,us',rfl,h1,h2⟩:=hp
  simp only[zo0]at h
  rcases zbd h with⟨rfl,rfl⟩ |⟨hne,h⟩
  ·exact⟨by simp,Nat.le_refl _,u,by simp,h1⟩
  ·obtain⟨hm,hle,u',hu',h3⟩:=zup h2 h
   refine⟨List.mem_cons_of_mem _ hm,by omega,u',?_,h3⟩
   rw[show t-n=(t-(n+1))+1 by omega]
   simpa using hu'
theorem zv5: ∀{l:List TF} {us:List Value},zdh w k g l us->us.length=l.length
 |[],us,h=>by simp only[zdh]at h;subst h;rfl
 |v::r,us,h=>by
  simp only[zdh]at h
  obtain⟨u,us',rfl,_,h2⟩:=h
  simp[zv5 h2]
theorem zyp: ∀{l:List (Nat×Value)} {t:Nat} {f:TF},fget (nmsT l) t=some f->∃x∈l,f= .nm x.1 x.2
 |[],t,f,h=>by simp[nmsT,fget]at h
 |x::r,t,f,h=>by
  simp only[nmsT]at h
  rcases zbd h with⟨rfl,rfl⟩ |⟨_,h⟩
  ·exact⟨x,by simp,rfl⟩
  ·obtain⟨y,hy,e⟩:=zyp h
   exact⟨y,List.mem_cons_of_mem _ hy,e⟩
theorem zji{F:List (Nat×TF)}{d t:Nat}{f:TF}(h:d≠t):fget ((d,f)::F) t=fget F t:=by rw[fget,zm7 h]
theorem zp4{F F':List (Nat×TF)}{t:Nat}{f:TF}(h:fget (F++F') t=some f):fget F t=some f\/fget F' t=some f:=by
 induction F with
 |nil=>exact .inr h
 |cons x r ih=>
  rcases zbd (show fget ((x.1,x.2)::(r++F')) t=some f from h)with⟨e,e'⟩ |⟨hne,h⟩
  ·left;subst e';obtain⟨x1,x2⟩:=x;simp only at e;subst e;simp[fget]
  ·rcases ih h with h2 |h2
   ·exact .inl ((zji (F:=r) (f:=x.2) hne).trans h2)
   ·exact .inr h2
theorem zvm: ∀{l:List (Nat×Value)},zws S l->∀x∈l,∃t,fget S.F t=some (.nm x.1 x.2)
 |[],_,x,h=>by cases h
 |y::r,h,x,hx=>by
  rcases List.mem_cons.1 hx with rfl |hx
  ·exact h.1
  ·exact zvm h.2 x hx
theorem zvn{O0 O1:List (Nat×Ow)}: ∀{l:List (Nat×Value)},zpb O0 O1 l->∀x∈l,∃o o',oget (lift O0) x.1=some o/\oget (lift O1) x.1=some o'/\Nmd o/\Nmd o'
 |[],_,x,h=>by cases h
 |y::r,h,x,hx=>by
  rcases List.mem_cons.1 hx with rfl |hx
  ·exact h.1
  ·exact zvn h.2 x hx
theorem zbsb(hT:TOk P T){fn:Func}{res:TF}(hs:SatE B N S a w k g)(h:retT T fn.results.toList S res): ∃v,(results fn a.tmps).run P w= .ok v w/\res.at_ w k g v:=by
 unfold retT at h
 split at h
 ·rename_i x hx
  obtain⟨fr,v,hret,hat,hr⟩:=zi7 hT hs h
  refine⟨v,?_,?_⟩
  ·have hx':fn.results= #[x]:=by apply Array.ext';simpa using hx
   rw[zhe,hx',Array.mapM_eq_mapM_toList]
   simp only[Sem.run_bind,Sem.run_map,List.mapM_cons,List.mapM_nil,hr]
   simp
  ·split at hret
   ·split at hret
    ·rename_i v' hv'
     exact hret w k v (zgm hs hv' hat)
    ·exact hret.elim
   ·rw[<-hret];exact hat
 ·rename_i hxs
  obtain⟨rs,vs,⟨rv,rfl,hcv⟩,hp',hlen,hr⟩:=zia hT hs h
  refine⟨.tuple vs.toArray,?_,?_⟩
  ·rw[zhe,Array.mapM_eq_mapM_toList]
   simp only[Sem.run_bind,Sem.run_map,hr]
   have hne:vs.length≠1:=by
    intro he
    rw[hlen]at he
    obtain⟨x,hx⟩:=List.length_eq_one_iff.1 he
    exact hxs x hx
   simp[hne]
  ·exact hcv w k _ (by simp only[RV.at_];exact⟨vs.toArray,rfl,hp'⟩)
def endT(T:TT)(results:List ResultVar)(names:List (Nat×Value))(n1:Nat)(O1:List (Nat×Ow))(res:TF)(ex:Exit)(S:St):Prop:=
 (ex= .ret\/ex= .normal)/\∃S1,Sub S S1/\S1.nx=n1/\(∃E,S1.O=lift O1++E)/\zws S1 names/\retT T results S1 res
theorem zgj{O E:List (Nat×Option Ow)}{i:Nat}{o:Ow}(h:oget O i=some o):oget (O++E) i=some o:=by
 induction O with
 |nil=>simp[oget]at h
 |cons x r ih=>
  obtain⟨x1,x2⟩:=x
  rw[List.cons_append]
  simp only[oget]at h⊢
  split at h
  ·exact h
  ·exact ih h
theorem zaw{results:List ResultVar}{names:List (Nat×Value)}{n1:Nat}{O1:List (Nat×Ow)}{res:TF}{ex:Exit}(hex:ex= .ret\/ex= .normal)(ρ:List (Nat×Nat))(F1:List (Nat×TF))(E:List (Nat×Option Ow))
  (h0:stOk ρ ⟨F1++nmsT names,lift O1++E,n1⟩=true) (h1:zky ρ S (F1++nmsT names)) (h2:zld ρ S (lift O1++E)) (h3:zws ⟨F1++nmsT names,lift O1++E,n1⟩ names) (h4:retT T results ⟨F1++nmsT names,lift O1++E,n1⟩ res):
  endT T results names n1 O1 res ex S:=⟨hex,_,zac ρ h0 h1 h2,rfl,⟨E,rfl⟩,h3,h4⟩
theorem zaz{f:FuncId}{fn:Func}{n0 n1:Nat}{O0 O1:List (Nat×Ow)}{args:List TF}{names:List (Nat×Value)}{res:TF}{c:Code}(hm:P.follows .mixedOrders=true)(hT:TOk P T)(hf:P.funcs[f]?=some fn)(hb:fn.body=some c)
  (hk:(Nat.ble args.length fn.ntmps&&(zbe fn.ntmps c&& !(fn.name== "runtime.NumGoroutine")))=true)
  (hlt:(args.all (ltB n0)&&(names.all (λx=>Nat.blt x.1 n0)&&ltB n1 res))=true) (hnm:zpb O0 O1 names)
  (h:vcg P T c {F:=zo0 0 args++nmsT names,O:=lift O0,nx:=n0} (endT T fn.results.toList names n1 O1 res)):Acts P f n0 O0 args names n1 O1 res:=by
 simp only[Bool.and_eq_true,Nat.ble_eq,Bool.not_eq_true',beq_eq_false_iff_ne]at hk
 obtain⟨hn,hd,hname⟩:=hk
 simp only[Bool.and_eq_true,List.all_eq_true]at hlt
 obtain⟨hla,hln,hlr⟩:=hlt
 refine⟨⟨fn,c,hf,hb,hname⟩,λw k g us ho hnames hp=>?_⟩
 refine calls_of_wp hf hb ?_
 have hl:=zv5 hp
 have hstart:Sat ⟨w,k,blks g O0,[]⟩ fn.ntmps {F:=zo0 0 args++nmsT names,O:=lift O0,nx:=n0} {tmps:=us.toArray++Array.replicate (fn.ntmps-us.toArray.size) undef,defers:=[]} w k:=by
  refine⟨g,by simp;omega,rfl,⟨rfl,rfl,rfl,Nat.le_refl _,λ_ _ _=>rfl⟩,λ_ _ _=>rfl,λt f hf=>?_,λid o' ho'=>?_,ho.apart⟩
  ·rcases zp4 hf with hf |hf
   ·obtain⟨hmem,_,u',hu',hat⟩:=zup hp hf
    refine⟨zsk (hla _ hmem),?_⟩
    rw[Nat.sub_zero]at hu'
    have hlt:t<us.length:=(List.getElem?_eq_some_iff.1 hu').1
    have:(us.toArray++Array.replicate (fn.ntmps-us.toArray.size) undef)[t]?=some u':=by
     rw[Array.getElem?_append_left (by simpa using hlt)]
     simpa using hu'
    simp only[Array.getD_eq_getD_getElem?,this,Option.getD_some]
    exact hat
   ·obtain⟨x,hx,rfl⟩:=zyp hf
    exact⟨by have:=hln x hx;simp[Nat.blt]at this;simp only[TF.lt];omega,hnames x hx⟩
  ·obtain⟨q1,q2,q3,q4⟩:=ho.owns id o' ho'
   exact⟨q1,q2,q3,λb hb=>⟨.inr (zyh.2 ⟨id,o',ho',hb⟩),q4 b hb⟩⟩
 refine za3 hm hT c _ _ h ⟨w,k,blks g O0,[]⟩ fn.ntmps _ w k _ hstart hd λex S' a' w' k' ⟨hex,S1,hsub,hn1,⟨E,hO1⟩,hnms,hret⟩ hs'=>?_
 have fin:a'.defers=[]/\∃v,(results fn a'.tmps).run P w'= .ok v w'/\(λ(e:Ending) w'=>∃v,e= .returned v/\Keep (blks g O0) w w'/\∃(k':Kp) (g':Env),(∀b,b<w.heap.size->b∉blks g O0->k' b=k b)/\
   Own w' k' g' n1 (lift O1)/\(∀id o b,oget (lift O1) id=some o->(g' id).2=some b->w.heap.size<=b\/b∈blks g O0)/\(∀x∈names,g' x.1=g x.1)/\res.lt n1/\res.at_ w' k' g' v) (.returned v) w':=by
  obtain⟨k2,g2,h2⟩:=hsub _ _ _ _ _ hs'
  obtain⟨v,hr,hat⟩:=zbsb hT h2 hret
  refine⟨h2.defers,v,hr,v,rfl,h2.keep,k2,g2,h2.kk,⟨λid o' ho'=>?_,λi j oi oj b hi hj=>h2.apart i j oi oj b (by rw[hO1];exact zgj hi) (by rw[hO1];exact zgj hj)⟩,λid o' b ho' hb=>?_,λx hx=>?_,zsk hlr,hat⟩
  ·obtain⟨q1,q2,q3,q4⟩:=h2.owns id o' (by rw[hO1];exact zgj ho')
   rw[hn1]at q1 q2
   exact⟨q1,q2,q3,λb hb=>(q4 b hb).2⟩
  ·exact((h2.owns id o' (by rw[hO1];exact zgj ho')).2.2.2 b hb).1
  ·obtain⟨t,ht⟩:=zvm hnms x hx
   have e1:=(h2.facts t _ ht).2
   simp only[TF.at_]at e1
   have e0:=hnames x hx
   obtain⟨o0,o1,h0,h1,d0,d1⟩:=zvn hnm x hx
   have b0:=d0 _ _ _ _ (ho.owns _ _ h0).2.2.1
   have b1:=d1 _ _ _ _ (h2.owns _ _ (by rw[hO1];exact zgj h1)).2.2.1
   apply Prod.ext
   ·rw[e1,e0]
   ·rw[b1,b0,e1,e0]
 rcases hex with rfl |rfl
 ·exact fin
 ·exact fin
def ren(σ:List (Nat×Nat))(names:List Nat)(m i:Nat):Nat:=
 match memB i names with
 |true=>match zcv σ i with
  |some j=>j
  |none=>m+i
 |false=>m+i
def zfj(τ:Nat->Nat):TF->TF
 | .r v=> .r v
 | .own i=> .own (τ i)
 | .adr i o=> .adr (τ i) o
 | .nm i v=> .nm (τ i) v
 | .cut i o n=> .cut (τ i) o n
def zkh(τ:Nat->Nat):Ow->Ow
 | .box cells=> .box (cells.map (zfj τ))
 | .ch e sz n cells pub=> .ch e sz n cells pub
 | .gen p=> .gen p
def zga:List (Nat×Nat)->List (Nat×Option Ow)->List (Nat×Option Ow)
 |[],O=>O
 |x::r,O=>zga r ((x.2,none)::O)
def zmk(τ:Nat->Nat):List (Nat×Ow)->List (Nat×Option Ow)->List (Nat×Option Ow)
 |[],O=>O
 |x::r,O=>zmk τ r ((τ x.1,some (zkh τ x.2))::O)
def renK(σ:List (Nat×Nat))(names:List Nat)(m i:Nat)(K:Nat->Prop):Prop:=
 match memB i names with
 |true=>match zcv σ i with
  |some j=>K j
  |none=>K (m+i)
 |false=>K (m+i)
theorem z2c{σ:List (Nat×Nat)}{names:List Nat}{m i:Nat}{K:Nat->Prop}:renK σ names m i K=K (ren σ names m i):=by
 unfold renK ren
 cases memB i names with
 |true=>cases zcv σ i<;>rfl
 |false=>rfl
def zsr(σ:List (Nat×Nat))(names:List Nat)(m:Nat)(f:TF)(K:TF->Prop):Prop:=
 match f with
 | .r v=>K (.r v)
 | .own i=>renK σ names m i λj=>K (.own j)
 | .adr i o=>renK σ names m i λj=>K (.adr j o)
 | .nm i v=>renK σ names m i λj=>K (.nm j v)
 | .cut i o n=>renK σ names m i λj=>K (.cut j o n)
theorem zvu{σ:List (Nat×Nat)}{names:List Nat}{m:Nat}{f:TF}{K:TF->Prop}:zsr σ names m f K=K (zfj (ren σ names m) f):=by
 cases f<;>simp only[zsr,z2c,zfj]
def zwy(σ:List (Nat×Nat))(names:List Nat)(m:Nat):List TF->(List TF->Prop)->Prop
 |[],K=>K []
 |f::r,K=>zsr σ names m f λf'=>zwy σ names m r λr'=>K (f'::r')
theorem zza{σ:List (Nat×Nat)}{names:List Nat}{m:Nat}: ∀{l:List TF} {K:List TF->Prop},zwy σ names m l K=K (l.map (zfj (ren σ names m)))
 |[],K=>rfl
 |f::r,K=>by simp only[zwy,zvu,zza,List.map_cons]
def z4y(σ:List (Nat×Nat))(names:List Nat)(m:Nat)(o:Ow)(K:Ow->Prop):Prop:=
 match o with
 | .box cells=>zwy σ names m cells λcs=>K (.box cs)
 | .ch e sz n cells pub=>K (.ch e sz n cells pub)
 | .gen p=>K (.gen p)
theorem zbpb{σ:List (Nat×Nat)}{names:List Nat}{m:Nat}{o:Ow}{K:Ow->Prop}:z4y σ names m o K=K (zkh (ren σ names m) o):=by
 cases o<;>simp only[z4y,zza,zkh]
def zwx(σ:List (Nat×Nat))(names:List Nat)(m:Nat):List (Nat×Ow)->List (Nat×Option Ow)->(List (Nat×Option Ow)->Prop)->Prop
 |[],O,K=>K O
 |(i,o)::r,O,K=>renK σ names m i λj=>z4y σ names m o λo'=>zwx σ names m r ((j,some o')::O) K
theorem zy5{σ:List (Nat×Nat)}{names:List Nat}{m:Nat}: ∀{l:List (Nat×Ow)} {O:List (Nat×Option Ow)} {K:List (Nat×Option Ow)->Prop},zwx σ names m l O K=K (zmk (ren σ names m) l O)
 |[],O,K=>rfl
 |(i,o)::r,O,K=>by simp only[zwx,z2c,zbpb,zy5,zmk]
def zps:List (Nat×Nat)->List (Nat×Option Ow)->(List (Nat×Option Ow)->Prop)->Prop
 |[],O,K=>K O
 |(_,j)::r,O,K=>zps r ((j,none)::O) K
theorem zs2: ∀{σ:List (Nat×Nat)} {O:List (Nat×Option Ow)} {K:List (Nat×Option Ow)->Prop},zps σ O K=K (zga σ O)
 |[],O,K=>rfl
 |(_,j)::r,O,K=>by simp only[zps,zs2,zga]
def zm4(σ:List (Nat×Nat))(names:List Nat)(S:St)(n1:Nat)(O1:List (Nat×Ow))(res:TF)(dst:Option Nat):St:=
 ({F:=S.F,O:=zmk (ren σ names S.nx) O1 (zga σ S.O),nx:=S.nx+n1}:St).put dst (zfj (ren σ names S.nx) res)
def zw4(σ:List (Nat×Nat))(names:List Nat)(S:St)(n1:Nat)(O1:List (Nat×Ow))(res:TF)(dst:Option Nat)(K:St->Prop):Prop:=
 match S with
 |⟨F,O,nx⟩=>zps σ O λO=>zwx σ names nx O1 O λO=>match dst with
  |some d=>zsr σ names nx res λf=>K ⟨(d,f)::F,O,nx+n1⟩
  |none=>K ⟨F,O,nx+n1⟩
theorem zm3{σ:List (Nat×Nat)}{names:List Nat}{S:St}{n1:Nat}{O1:List (Nat×Ow)}{res:TF}{dst:Option Nat}{K:St->Prop}:zw4 σ names S n1 O1 res dst K=K (zm4 σ names S n1 O1 res dst):=by
 cases S;cases dst<;>simp only[zw4,zs2,zy5,zvu,zm4,St.put]
theorem zn5: ∀{σ:List (Nat×Nat)} {O:List (Nat×Option Ow)} {c:Nat} {o:Ow},oget (zga σ O) c=some o->oget O c=some o/\∀x∈σ,x.2≠c
 |[],O,c,o,h=>⟨h,λx hx=>by cases hx⟩
 |y::r,O,c,o,h=>by
  obtain⟨h1,h2⟩:=zn5 (show oget (zga r ((y.2,none)::O)) c=some o from h)
  rcases zav h1 with⟨_,e⟩ |⟨hne,h1⟩
  ·cases e
  ·refine⟨h1,λx hx=>?_⟩
   rcases List.mem_cons.1 hx with rfl |hx
   ·exact hne
   ·exact h2 x hx
theorem zhb{τ:Nat->Nat}: ∀{l:List (Nat×Ow)} {O:List (Nat×Option Ow)} {c:Nat} {o:Ow},oget (zmk τ l O) c=some o->(∃x∈l,c=τ x.1/\o=zkh τ x.2)\/oget O c=some o
 |[],O,c,o,h=> .inr h
 |y::r,O,c,o,h=>by
  rcases zhb (show oget (zmk τ r ((τ y.1,some (zkh τ y.2))::O)) c=some o from h)with⟨x,hx,e⟩ |h1
  ·exact .inl ⟨x,List.mem_cons_of_mem _ hx,e⟩
  ·rcases zav h1 with⟨e,e'⟩ |⟨_,h1⟩
   ·cases e';exact .inl ⟨y,by simp,e.symm,rfl⟩
   ·exact .inr h1
theorem zzb{τ:Nat->Nat}{g' g2:Env}(h: ∀i,g2 (τ i)=g' i): ∀{f:TF} {u:Value},f.at_ w k g' u->(zfj τ f).at_ w k g2 u
 | .r v,u,hu=>hu
 | .own i,u,hu=>by simp only[zfj,TF.at_]at*;rw[h];exact hu
 | .adr i o,u,hu=>by simp only[zfj,TF.at_]at*;rw[h];exact hu
 | .nm i v,u,hu=>by simp only[zfj,TF.at_]at*;rw[h];exact hu
 | .cut i _ _,u,hu=>by simp only[zfj,TF.at_]at*;rw[h];exact hu
theorem zbqb{τ:Nat->Nat}{g' g2:Env}(h: ∀i,g2 (τ i)=g' i){vb:Value×Option Nat}: ∀{o:Ow},o.at_ w k g' vb->(zkh τ o).at_ w k g2 vb
 | .box cells,hu=>by
  simp only[zkh,Ow.at_]at*
  obtain⟨b,cur,t,e,hh,hk,hsz,hc⟩:=hu
  refine⟨b,cur,t,e,hh,hk,by simpa using hsz,λj f u hf hu=>?_⟩
  rw[List.getElem?_map]at hf
  cases hcj:cells[j]? with
  |none=>rw[hcj]at hf;cases hf
  |some f0=>
   rw[hcj]at hf
   simp only[Option.map_some,Option.some.injEq]at hf
   subst hf
   exact⟨(hc j f0 u hcj hu).1,zzb h (hc j f0 u hcj hu).2⟩
 | .ch ..,hu=>hu
 | .gen _,hu=>hu
theorem zzc{τ:Nat->Nat}{n m:Nat}(h: ∀i,i<n->τ i<m): ∀{f:TF},f.lt n->(zfj τ f).lt m
 | .r _,_=>trivial
 | .own i,hl=>h i hl
 | .adr i _,hl=>h i hl
 | .nm i _,hl=>h i hl
 | .cut i _ _,hl=>h i hl
theorem zbrb{τ:Nat->Nat}{n m:Nat}(h: ∀i,i<n->τ i<m): ∀{o:Ow},o.lt n->(zkh τ o).lt m
 | .box cells,hl=>λf hf=>by
  obtain⟨f0,hf0,rfl⟩:=List.mem_map.1 hf
  exact zzc h (hl f0 hf0)
 | .ch ..,_=>trivial
 | .gen _,_=>trivial
theorem zdbb{ρ:List (Nat×Nat)}(hs:SatE B N S a w k g){o o':Ow}{vb:Value×Option Nat}(hc:cvOw ρ S o' o)(q3:o'.at_ w k g vb):o.at_ w k (renv ρ g) vb:=by
 cases o' with
 |box cs=>
  cases o with
  |box ds=>
   simp only[Ow.at_]at q3⊢
   obtain⟨b,cur,t,e,hh,hk,hsz,hall⟩:=q3
   have hds:=zlp (us:=cur.toList) hs hc ⟨by rw[Array.length_toList,hsz],λj f u hf hu=>hall j f u hf (by simpa using hu)⟩
   exact⟨b,cur,t,e,hh,hk,by rw[<-Array.length_toList,hds.1],λj f u hf hu=>hds.2 j f u hf (by simpa using hu)⟩
  |ch=>exact hc.elim
  |gen=>exact hc.elim
 |gen p=>
  cases o with
  |gen q=>exact hc w k _ q3
  |box=>exact hc.elim
  |ch=>exact hc.elim
 |ch e sz n cs pub=>
  cases o with
  |box=>exact hc.elim
  |gen=>exact hc.elim
  |ch e' sz' n' ds pub'=>
   obtain⟨rfl,rfl,rfl,rfl,hcs⟩:=hc
   simp only[Ow.at_]at q3⊢
   obtain⟨r1,r2⟩:=q3
   have hlen:ds.length=cs.length:=Cvs.length hcs
   refine⟨by rw[hlen];exact r1,?_⟩
   rcases r2 with⟨h0,r2 |⟨hn,hp,b,o,e,hm,hb,hc⟩⟩ |⟨b,cap,cur,e1,e2,hh,s1,s2,s3,s4,s5⟩
   ·exact .inl ⟨h0, .inl r2⟩
   ·exact .inl ⟨h0, .inr ⟨hn,hp,b,o,e,hm,hb,hcs.cells hc⟩⟩
   ·exact .inr ⟨b,cap,cur,e1,e2,hh,s1,s2,s3,s4,hcs.list s5⟩
def stA(σ:List (Nat×Nat))(names:List Nat)(n0:Nat)(O0 O1:List (Nat×Ow)):Bool:=
 O0.all (λx=>Nat.blt x.1 n0&&zeo n0 x.2)&&(zgi (σ.map (·.2))&&(zgi (O1.map (·.1))&&names.all (λi=>(oget (lift O0) i).isSome)))
structure Handed (P:Program) (S:St) (o:Oper) (σ:List (Nat×Nat)) (f:FuncId) (args:List TF):Prop where
 out: ∀{B:Bs} {N:Nat} {a:Act} {w:World} {k:Kp} {g:Env},SatE B N S a w k g->∃us,(execOp a.eval o).run P w=(callFunc f us.toArray).run P w/\zdh w k (renv σ g) args us
theorem Vstep.acts(σ:List (Nat×Nat))(names:List Nat){f:FuncId}{n0 n1:Nat}{O0 O1:List (Nat×Ow)}{args:List TF}{res:TF}{K:St->Prop}
  (hA: ∀vs:Nat->Value,(∀i j t v,zcv σ i=some j->fget S.F t=some (.nm j v)->vs i=v)->Acts P f n0 O0 args (names.map λi=>(i,vs i)) n1 O1 res) (hcall:Handed P S o σ f args)
  (hst:stA σ names n0 O0 O1=true) (ho:zld σ S (lift O0)) (hz:z5i O0) (hK:zw4 σ names S n1 O1 res o.dst K):Vstep P S o K:=by
 rw[zm3]at hK
 refine Vstep.one (λB N a w k Q ⟨g,hs⟩ hd=>?_) hK
 simp only[stA,Bool.and_eq_true,List.all_eq_true]at hst
 obtain⟨hst0,hnd,hnd1,hnm0⟩:=hst
 obtain⟨⟨fn,c,hf,hb,hn⟩,hA⟩:=hA (λi=>(renv σ g i).1) λi j t v hi ht=>by
  have:=(hs.facts t _ ht).2
  simp only[TF.at_]at this
  simp only[renv,hi]
  exact this
 obtain⟨us,hrun,hargs⟩:=hcall.out hs
 have hown:Own w k (renv σ g) n0 (lift O0):=by
  refine⟨λi o' hi=>?_,λi j oi oj b hi hj hne hbi hbj=>?_⟩
  ·obtain⟨⟨j,o2,hj,ho2,hc⟩,hm⟩:=zdw ho hi
   have hlt:=hst0 _ (zgl hi)
   obtain⟨q1,q2,q3,q4⟩:=hs.owns j o2 ho2
   have hren:renv σ g i=g j:=by simp[renv,hj]
   refine⟨by have:=hlt.1;simp[Nat.blt]at this;omega,zyt hlt.2,?_,λb hb=>?_⟩
   ·rw[hren];exact zdbb hs hc q3
   ·rw[hren]at hb;exact(q4 b hb).2
  ·obtain⟨⟨i',oi',hi',hoi,_⟩,_⟩:=zdw ho hi
   obtain⟨⟨j',oj',hj',hoj,_⟩,_⟩:=zdw ho hj
   simp only[renv,hi']at hbi
   simp only[renv,hj']at hbj
   refine hs.apart i' j' oi' oj' b hoi hoj (λe=>?_) hbi hbj
   subst e
   exact hne (zvx (zc0 hnd) hi' hj')
 have hX: ∀b,b∈blks (renv σ g) O0->∃i j o',zcv σ i=some j/\oget S.O j=some o'/\(g j).2=some b/\k b=0:=λb hb=>by
  obtain⟨i,o1,hi,hgi⟩:=zyh.1 hb
  obtain⟨⟨j,o2,hj,ho2,_⟩,_⟩:=zdw ho hi
  have hren:renv σ g i=g j:=by simp[renv,hj]
  have hzz:=zv8 hz _ (zgl hi) w k (renv σ g) (renv σ g i) b (hown.owns i o1 hi).2.2.1 hgi
  rw[hren]at hgi
  exact⟨i,j,o2,hj,ho2,hgi,hzz⟩
 unfold Oper.wp
 rw[hrun,zjr hf hb hn]
 simp only[Oper.upon]
 refine(hA w k (renv σ g) us hown (λx hx=>?_) hargs).mono ?_
 ·obtain⟨i,_,rfl⟩:=List.mem_map.1 hx
  rfl
 rintro en w' ⟨v,rfl,hkeep,k',g',hkk,hown',hblk,hnames,hrlt,hrat⟩
 simp only
 have hle:Le w k w' k':=by
  refine⟨hkeep.size,λb hb=>?_,λb o' hb ho'=>?_,λb hb hk es c e=>?_⟩
  ·by_cases hx:b∈blks (renv σ g) O0
   ·obtain⟨_,_,_,_,_,_,h0⟩:=hX b hx;omega
   ·exact Nat.le_of_eq (hkk b hb hx).symm
  ·by_cases hx:b∈blks (renv σ g) O0
   ·obtain⟨_,_,_,_,_,_,h0⟩:=hX b hx;omega
   ·exact World.cell?_of_block (a:=⟨b,o',none⟩) (hkeep.block b hb hx)
  ·by_cases hx:b∈blks (renv σ g) O0
   ·obtain⟨_,_,_,_,_,_,h0⟩:=hX b hx;omega
   ·exact(hkeep.block b hb hx).trans e
 let g2:Env:=λc=>if c<S.nx then g c else g' (c-S.nx)
 have hg2: ∀i,i<S.nx->g2 i=g i:=λi hi=>by simp[g2,hi]
 have hτ: ∀i,g2 (ren σ names S.nx i)=g' i/\(i<n1->ren σ names S.nx i<S.nx+n1):=λi=>by
  have other:g2 (S.nx+i)=g' i/\(i<n1->S.nx+i<S.nx+n1):=⟨by simp only[g2];rw[if_neg (by omega),Nat.add_sub_cancel_left],λh=>by omega⟩
  unfold ren
  cases hm:memB i names with
  |false=>exact other
  |true=>
   cases hr:zcv σ i with
   |none=>exact other
   |some j=>
    simp only
    have hmem:=zbg.1 hm
    have hsome:=hnm0 i hmem
    obtain⟨o1,ho1⟩:=Option.isSome_iff_exists.1 hsome
    obtain⟨⟨j',o2,hj',ho2,_⟩,_⟩:=zdw ho ho1
    rw[hr]at hj'
    cases hj'
    have hjlt:=(hs.owns j o2 ho2).1
    refine⟨?_,λ_=>by omega⟩
    rw[hg2 j hjlt]
    have:=hnames (i,(renv σ g i).1) (List.mem_map.2 ⟨i,hmem,rfl⟩)
    simp only at this
    rw[this]
    simp[renv,hr]
 have old: ∀c o',oget (zga σ S.O) c=some o'->oget S.O c=some o'/\∀b,(g c).2=some b->b∉blks (renv σ g) O0:=λc o' h=>by
  obtain⟨h1,h2⟩:=zn5 h
  refine⟨h1,λb hb hx=>?_⟩
  obtain⟨i,j,o2,hj,ho2,hgj,_⟩:=hX b hx
  exact hs.apart c j o' o2 b h1 ho2 (λe=>h2 _ (zki hj) e.symm) hb hgj
 have hkeepB:Keep B.X B.w w':=⟨hkeep.os.trans hs.keep.os,hkeep.tape.trans hs.keep.tape,hkeep.output.trans hs.keep.output,Nat.le_trans hs.keep.size hkeep.size,λb hb hx=>by
  refine(hkeep.block b (Nat.lt_of_lt_of_le hb hs.keep.size) λhm=>?_).trans (hs.keep.block b hb hx)
  obtain⟨i,j,o2,hj,ho2,hgj,_⟩:=hX b hm
  rcases((hs.owns j o2 ho2).2.2.2 b hgj).1 with h |h
  ·omega
  ·exact hx h⟩
 have hs2:SatE B N {F:=S.F,O:=zmk (ren σ names S.nx) O1 (zga σ S.O),nx:=S.nx+n1} a w' k' g2:=by
  refine⟨hs.size,hs.defers,hkeepB,λb hb hx=>?_,λt f hf=>?_,λc o' hc=>?_,λc d oc od b hc hd' hne hbc hbd=>?_⟩
  ·refine(hkk b (Nat.lt_of_lt_of_le hb hs.keep.size) λhm=>?_).trans (hs.kk b hb hx)
   obtain⟨i,j,o2,hj,ho2,hgj,_⟩:=hX b hm
   rcases((hs.owns j o2 ho2).2.2.2 b hgj).1 with h |h
   ·omega
   ·exact hx h
  ·have:=hs.facts t f hf
   exact⟨TF.lt_mono (Nat.le_add_right _ _) this.1,TF.env hg2 this.1 (TF.mono hle this.2)⟩
  ·rcases zhb hc with⟨x,hx,rfl,rfl⟩ |hc
   ·have hx1:=zen (zc0 hnd1) hx
    obtain⟨q1,q2,q3,q4⟩:=hown'.owns x.1 x.2 hx1
    refine⟨(hτ x.1).2 q1,zbrb (λi hi=>(hτ i).2 hi) q2,?_,λb hb=>?_⟩
    ·rw[(hτ x.1).1]
     exact zbqb (λi=>(hτ i).1) q3
    ·rw[(hτ x.1).1]at hb
     refine⟨?_,q4 b hb⟩
     rcases hblk x.1 x.2 b hx1 hb with h |h
     ·left;have:=hs.keep.size;omega
     ·obtain⟨i,j,o2,hj,ho2,hgj,_⟩:=hX b h
      exact((hs.owns j o2 ho2).2.2.2 b hgj).1
   ·obtain⟨hc,hnx⟩:=old c o' hc
    obtain⟨q1,q2,q3,q4⟩:=hs.owns c o' hc
    refine⟨Nat.lt_of_lt_of_le q1 (Nat.le_add_right _ _),Ow.lt_mono (Nat.le_add_right _ _) q2,?_,λb hb=>?_⟩
    ·rw[hg2 c q1]
     exact Ow.env hg2 q2 (Ow.mono hle (λb hb=>⟨hkeep.block b (q4 b hb).2 (hnx b hb),hkk b (q4 b hb).2 (hnx b hb)⟩) q3)
    ·rw[hg2 c q1]at hb
     exact⟨(q4 b hb).1,Nat.lt_of_lt_of_le (q4 b hb).2 hkeep.size⟩
  ·have newOld: ∀x∈O1,∀d od,oget (zga σ S.O) d=some od->(g2 (ren σ names S.nx x.1)).2=some b->(g2 d).2=some b->False:=λx hx d od hd' h1 h2=>by
    have hx1:=zen (zc0 hnd1) hx
    obtain⟨hd',hnx⟩:=old d od hd'
    obtain⟨q1,_,_,q4⟩:=hs.owns d od hd'
    rw[hg2 d q1]at h2
    rw[(hτ x.1).1]at h1
    rcases hblk x.1 x.2 b hx1 h1 with h |h
    ·have:=(q4 b h2).2;omega
    ·exact hnx b h2 h
   rcases zhb hc with⟨x,hx,rfl,rfl⟩ |hc
   ·rcases zhb hd' with⟨y,hy,rfl,rfl⟩ |hd'
    ·have hx1:=zen (zc0 hnd1) hx
     have hy1:=zen (zc0 hnd1) hy
     rw[(hτ x.1).1]at hbc
     rw[(hτ y.1).1]at hbd
     exact hown'.apart x.1 y.1 x.2 y.2 b hx1 hy1 (λe=>hne (by rw[e])) hbc hbd
    ·exact newOld x hx d od hd' hbc hbd
   ·rcases zhb hd' with⟨y,hy,rfl,rfl⟩ |hd'
    ·exact newOld y hy c oc hc hbd hbc
    ·have hc1:=(old c oc hc).1
     have hd1:=(old d od hd').1
     rw[hg2 c (hs.owns c oc hc1).1]at hbc
     rw[hg2 d (hs.owns d od hd1).1]at hbd
     exact hs.apart c d oc od b hc1 hd1 hne hbc hbd
 refine⟨k',g2,?_⟩
 unfold zm4
 exact hs2.put hd (zzc (λi hi=>(hτ i).2 hi) hrlt) (zzb (λi=>(hτ i).1) hrat)
abbrev zj:= @Vstep.acts
def zkv(σ:List (Nat×Nat))(S:St):List Operand->List TF->Prop
 |[],fs=>fs=[]
 |x::xs,fs=>∃f r,fs=f::r/\(match opr S x with
  |some f'=>cvTF σ S f' f
  |none=>False)/\zkv σ S xs r
def zm8(σ:List (Nat×Nat))(S:St):List Value->List TF->Prop
 |[],fs=>fs=[]
 |c::cs,fs=>∃f r,fs=f::r/\(match f with
  | .r v=>∀w k,v.at_ w k c
  | .own i=>∃j t,zcv σ i=some j/\fget S.F t=some (.nm j c)
  |_=>False)/\zm8 σ S cs r
theorem zm6{σ:List (Nat×Nat)}(hs:SatE B N S a w k g): ∀{xs:List Operand} {fs:List TF},zkv σ S xs fs->zdh w k (renv σ g) fs (xs.map a.eval)
 |[],fs,h=>by simp only[zkv]at h;subst h;simp[zdh]
 |x::xs,fs,h=>by
  simp only[zkv]at h
  obtain⟨f,r,rfl,h1,h2⟩:=h
  simp only[List.map_cons,zdh]
  refine⟨_,_,rfl,?_,zm6 hs h2⟩
  split at h1
  ·rename_i f' hf'
   exact ztl hs h1 (zah hs hf').2
  ·exact h1.elim
theorem zur{σ:List (Nat×Nat)}(hs:SatE B N S a w k g): ∀{cs:List Value} {fs:List TF},zm8 σ S cs fs->zdh w k (renv σ g) fs cs
 |[],fs,h=>by simp only[zm8]at h;subst h;simp[zdh]
 |c::cs,fs,h=>by
  simp only[zm8]at h
  obtain⟨f,r,rfl,h1,h2⟩:=h
  simp only[zdh]
  refine⟨_,_,rfl,?_,zur hs h2⟩
  split at h1
  ·exact h1 w k
  ·obtain⟨j,t,hj,ht⟩:=h1
   have:=(hs.facts t _ ht).2
   simp only[TF.at_]at this⊢
   simp only[renv,hj]
   exact this.symm
  ·exact h1.elim
theorem zzq{fs fs':List TF}{us us':List Value}(h:zdh w k g fs us)(h':zdh w k g fs' us'):zdh w k g (fs++fs') (us++us'):=by
 induction fs generalizing us with
 |nil=>simp only[zdh]at h;subst h;exact h'
 |cons f r ih=>
  simp only[zdh]at h
  obtain⟨u,us2,rfl,h1,h2⟩:=h
  exact⟨u,us2++us',rfl,h1,ih h2⟩
theorem Handed.func{σ:List (Nat×Nat)}{f:FuncId}{xs:Array Operand}{ts:Array TypeId}{fs:List TF}(hop:o.op= .call {callee:= .value (.func f),args:=xs,argTypes:=ts})(h:zkv σ S xs.toList fs):Handed P S o σ f fs:=by
 refine⟨λ{B N a w k g} hs=>⟨xs.toList.map a.eval,?_,zm6 hs h⟩⟩
 have hargs':xs.map a.eval=(xs.toList.map a.eval).toArray:=by apply Array.ext';simp
 simp[execOp,hop,resolve,Deferred.ofValue,invoke,Act.eval,hargs']
abbrev zi:= @Handed.func
theorem Handed.clo{σ:List (Nat×Nat)}{f:FuncId}{t:Nat}{cap:Array Value}{xs:Array Operand}{ts:Array TypeId}{fs cs:List TF}(hop:o.op= .call {callee:= .value (.tmp t),args:=xs,argTypes:=ts})
  (ht:fget S.F t=some (.r (.x (.func (.func f) #[] cap)))) (h:zkv σ S xs.toList fs) (hc:zm8 σ S cap.toList cs):Handed P S o σ f (fs++cs):=by
 refine⟨λ{B N a w k g} hs=>⟨xs.toList.map a.eval++cap.toList,?_,zzq (zm6 hs h) (zur hs hc)⟩⟩
 have hfv:=(hs.facts t _ ht).2
 simp only[TF.at_,RV.at_]at hfv
 have e2:a.eval (.tmp t)= .func (.func f) #[] cap:=by
  have:a.eval (.tmp t)=a.tmps.getD t undef:=by simp[Act.eval]
  rw[this,hfv]
 have hargs':xs.map a.eval++cap=(xs.toList.map a.eval++cap.toList).toArray:=by apply Array.ext';simp
 simp[execOp,hop,resolve,e2,Deferred.ofValue,invoke,hargs']
theorem zmy{f:FuncId}{args:List RV}{v:RV}(h:zab P f args (.r v)):Acts P f 0 [] (args.map .r) [] 0 [] (.r v):=by
 obtain⟨hk,h⟩:=h
 refine⟨hk,λw k g us _ _ hp=>?_⟩
 have hp':RV.partsAt w k args us:=by
  clear h
  induction args generalizing us with
  |nil=>simpa[zdh,RV.partsAt]using hp
  |cons x r ih=>
   simp only[List.map_cons,zdh]at hp
   obtain⟨u,us',rfl,h1,h2⟩:=hp
   simp only[RV.partsAt]
   exact⟨u,us',rfl,h1,ih us' h2⟩
 refine(h w k us hp').mono ?_
 rintro e w' ⟨v',rfl,hext,k',hk',hres⟩
 refine⟨v',rfl,⟨hext.os,hext.tape,hext.output,hext.size,λb hb _=>hext.block b hb⟩,k',g,λb hb _=>hk' b hb,⟨λid o h=>by simp[lift,oget]at h,λi j o o' b h=>by simp[lift,oget]at h⟩,λid o b h=>by simp[lift,oget]at h,λx hx=>(by cases hx),trivial,hres⟩
end
end Go.Proofs.YtoegdgbghdnnfaaGreat.Sx
