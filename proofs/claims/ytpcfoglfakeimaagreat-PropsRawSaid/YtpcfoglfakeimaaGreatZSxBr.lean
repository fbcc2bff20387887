import Derived.Test.YtpcfoglfakeimaaGreatZGg
import Derived.Test.YtpcfoglfakeimaaGreatZHc
import Derived.Test.YtpcfoglfakeimaaGreatZFx
import Derived.Test.YtpcfoglfakeimaaGreatZNk
import Derived.Test.YtpcfoglfakeimaaGreatZKf
import Derived.Test.YtpcfoglfakeimaaGreatZVa
namespace Go.Proofs.YtpcfoglfakeimaaGreat.Sx
open Go.RowKit
theorem Vsem.fieldN{P:Program}{T:TT}{S:St}{o:Oper}(hT:TOk P T){t:TypeId}{x:Operand}{i off:Nat}{ft:TypeId}{ti tf:TI}{fs:List (Nat×TypeId)}{cells cs:List RV}{K:TF->Option Ow->Prop}(hop:o.op= .field t x i)(hti:tget T t=some ti)(hk:ti.k= .struct fs)(hfs:lget fs i=some (off,ft))(htf:tget T ft=some tf)(hag:tf.agg=true)
  (hx:opr S x=some (.r (.ag cells))) (hb:off+tf.sz<=cells.length) (hc:(cells.drop off).take tf.sz=cs) (hK:K (.r (.ag cs)) none):Vsem P S o K:=by
 subst hc
 refine⟨_,_,λB N a w k Q ⟨g,hs⟩ hd=>?_,hK⟩
 have hv:=(zag hs hx).2
 simp only[TF.at_,RV.at_]at hv
 obtain⟨us,e,hl⟩:=hv
 rw[zao]at hfs
 have hul:=(RV.listAt_iff _ _).1 hl
 have hus:off+tf.sz<=us.size:=by rw[<-Array.length_toList,hul.1];exact hb
 obtain⟨q,hq⟩:=hT.get hti
 obtain⟨d,hdd,hko,_⟩:=q.desc
 rw[hq]at hdd
 rw[hk]at hko
 obtain⟨fields,rfl,hfl⟩:=hko
 obtain⟨qf,hqf⟩:=hT.get htf
 have hsize:=za3 (w:=w) qf hqf
 obtain⟨df,hdf,_,hrow⟩:=qf.desc
 rw[hqf]at hdf
 rw[hag]at hrow
 have hagg:(isAgg ft).run P w= .ok true w:=by
  unfold isAgg
  rw[Sem.run_bind,run_underlying hdf w]
  cases df<;>simp_all [TypeDesc.isRow]
 rw[<-hfl,List.getElem?_map]at hfs
 cases hfi:fields.toList[i]? with
 |none=>simp[hfi]at hfs
 |some fd=>
  simp only[hfi,Option.map_some,Option.some.injEq,Prod.mk.injEq]at hfs
  obtain⟨h0,rfl⟩:=hfs
  have hfa:fields[i]?=some fd:=by simpa using hfi
  refine za0 (v:= .agg (us.extract off (off+tf.sz))) (w':=w) ?_ ⟨k,g,hs.put hd trivial ?_⟩
  ·simp[execOp,hop,Instr.field,run_underlying hdd w,hfa,e,part,hagg,asAgg,hsize,h0,hus]
  ·simp only[TF.at_,RV.at_]
   refine⟨_,rfl,?_⟩
   rw[Array.toList_extract,List.extract_eq_take_drop,Nat.add_sub_cancel_left]
   exact zbp (zb7 hl off) _
section
variable {P:Program} {T:TT} {B:Bs} {N:Nat} {S0:St} {a:Act} {w:World} {k:Kp} {g:Env} {Q:Exit->Act->World->Prop} {res:RS}
def shE(n:Nat)(e:Edge):Edge:={e with on:=e.on-n}
def shG(n:Nat):Option (Nat×Bool)->Option (Nat×Bool)
 |none=>none
 |some (j,w)=>some (j-n,w)
def shO(n:Nat)(o:Oper):Oper:={o with after:=((o.after.toList.filter λe=>Nat.ble n e.on).map (shE n)).toArray,guard:=shG n o.guard}
theorem zewb(n:Nat)(o:Oper)(K:Act->World->Prop):(shO n o).wp P a w K Q=o.wp P a w K Q:=rfl
theorem z8u(n:Nat)(o:Oper):(shO n o).asks P a w=o.asks P a w:=rfl
theorem zu5(n:Nat)(e:Edge):Region.binds .any (shE n e)=Region.binds .any e:=rfl
theorem zdz{l:Array Bool}{j:Nat}(h:j<l.size):(l.getD j true=false↔¬l.getD j false=true):=by simp[h]
theorem zgx{l:Array Bool}{i j:Nat}(h:i<l.size):(l.setIfInBounds i true).getD j false=true↔(l.getD j false=true\/j=i):=by
 by_cases hji:j=i
 ·subst hji;simp[h]
 ·have:i≠j:=λe=>hji e.symm
  simp[Array.getElem?_setIfInBounds_ne this,hji]
theorem z5o{l:Array Bool}{i fuel:Nat}(h:i<l.size)(hn: ¬l.getD i false=true)(hc:l.toList.count false=fuel+1):(l.setIfInBounds i true).toList.count false=fuel:=by
 have hlt:i<l.toList.length:=by rw[Array.length_toList];exact h
 have hv:l.toList[i]=false:=by
  have:l[i]?=some l[i]:=Array.getElem?_eq_getElem h
  simp[h]at hn
  simpa using hn
 rw[Array.toList_setIfInBounds,List.count_set hlt,hc,hv]
 simp
theorem zoz{big:List Oper}{n:Nat}(hg: ∀i o j want,n<=i->big[i]?=some o->o.guard=some (j,want)->n<=j):
  ∀(fuel:Nat) (listed listed':Array Bool) (a:Act) (w:World),listed.size=big.length->listed'.size=big.length-n->n<=big.length->(∀j,j<n->listed.getD j false=true)->(∀i,listed.getD (n+i) false=listed'.getD i false)->
   wpAny P .any ((big.drop n).map (shO n)).toArray Q fuel listed' a w->wpAny P .any big.toArray Q fuel listed a w:=by
 intro fuel
 have hop: ∀i o,big[n+i]?=some o->((big.drop n).map (shO n)).toArray[i]?=some (shO n o):=λi o h=>by simp[h]
 have down: ∀(listed listed':Array Bool),listed.size=big.length->listed'.size=big.length-n->n<=big.length->(∀j,j<n->listed.getD j false=true)->(∀i,listed.getD (n+i) false=listed'.getD i false)->∀x,x∈Region.ready .any big.toArray listed↔∃i,x=n+i/\i∈Region.ready .any ((big.drop n).map (shO n)).toArray listed':=by
  intro listed listed' h1 h2 h3 h4 h5 x
  rw[mem_ready]
  constructor
  ·rintro⟨hx,o,ho,he⟩
   have hxl:x<big.length:=by have:=(Array.getElem?_eq_some_iff.1 ho).1;simpa using this
   have hxn:n<=x:=Nat.le_of_not_lt λhlt=>(zdz (by omega)).1 hx (h4 x hlt)
   obtain⟨i,rfl⟩:=Nat.exists_eq_add_of_le hxn
   refine⟨i,rfl,mem_ready.2 ⟨?_,shO n o,hop i o (by simpa using ho),λe' he' hb=>?_⟩⟩
   ·rw[zdz (by omega)]
    rw[<-h5 i]
    exact(zdz (by omega)).1 hx
   ·simp only[shO,List.mem_toArray,List.mem_map,List.mem_filter]at he'
    obtain⟨e,⟨hea,hen⟩,rfl⟩:=he'
    have hne:n<=e.on:=Nat.le_of_ble_eq_true hen
    have:=he e (by simpa using hea) (by rw[<-zu5 n e];exact hb)
    show listed'.getD (e.on-n) false=true
    rw[<-h5,show n+(e.on-n)=e.on by omega]
    exact this
  ·rintro⟨i,rfl,hi⟩
   obtain⟨hx,o',ho',he'⟩:=mem_ready.1 hi
   have hil:i<big.length-n:=by have:=(Array.getElem?_eq_some_iff.1 ho').1;simpa using this
   have hb:big[n+i]?=some big[n+i]:=List.getElem?_eq_getElem (by omega)
   have:=hop i _ hb
   rw[this]at ho'
   cases ho'
   refine⟨?_,big[n+i],by simp,λe he hbd=>?_⟩
   ·rw[zdz (by omega),h5 i]
    exact(zdz (by omega)).1 hx
   ·rcases Nat.lt_or_ge e.on n with hlt |hge
    ·exact h4 _ hlt
    ·have:=he' (shE n e) (by simp only[shO,List.mem_toArray,List.mem_map,List.mem_filter];exact⟨e,⟨by simpa using he,Nat.ble_eq_true_of_le hge⟩,rfl⟩) (by rw[zu5];exact hbd)
     have e2:(shE n e).on=e.on-n:=rfl
     rw[e2,<-h5,show n+(e.on-n)=e.on by omega]at this
     exact this
 have emp: ∀(listed listed':Array Bool),listed.size=big.length->listed'.size=big.length-n->n<=big.length->(∀j,j<n->listed.getD j false=true)->(∀i,listed.getD (n+i) false=listed'.getD i false)->(Region.ready .any big.toArray listed=[]↔Region.ready .any ((big.drop n).map (shO n)).toArray listed'=[]):=by
  intro listed listed' h1 h2 h3 h4 h5
  constructor
  ·intro h
   refine List.eq_nil_iff_forall_not_mem.2 λi hi=>?_
   have:=(down listed listed' h1 h2 h3 h4 h5 (n+i)).2 ⟨i,rfl,hi⟩
   rw[h]at this
   cases this
  ·intro h
   refine List.eq_nil_iff_forall_not_mem.2 λx hx=>?_
   obtain⟨i,_,hi⟩:=(down listed listed' h1 h2 h3 h4 h5 x).1 hx
   rw[h]at hi
   cases hi
 induction fuel with
 |zero=>
  intro listed listed' a w h1 h2 h3 h4 h5 h
  exact⟨(emp listed listed' h1 h2 h3 h4 h5).2 h.1,h.2⟩
 |succ fuel ih=>
  intro listed listed' a w h1 h2 h3 h4 h5 h
  refine⟨λhe=>h.1 ((emp listed listed' h1 h2 h3 h4 h5).1 he),λx hx=>?_⟩
  obtain⟨i,rfl,hi⟩:=(down listed listed' h1 h2 h3 h4 h5 x).1 hx
  have hw:=h.2 i hi
  obtain⟨_,o',ho',_⟩:=mem_ready.1 hi
  have hil:i<big.length-n:=by have:=(Array.getElem?_eq_some_iff.1 ho').1;simpa using this
  have hb:big[n+i]?=some big[n+i]:=List.getElem?_eq_getElem (by omega)
  have ho:=hop i _ hb
  have next: ∀a' w',wpAny P .any ((big.drop n).map (shO n)).toArray Q fuel (listed'.setIfInBounds i true) a' w'->wpAny P .any big.toArray Q fuel (listed.setIfInBounds (n+i) true) a' w':=λa' w' hh=>by
   refine ih _ _ a' w' (by simpa using h1) (by simpa using h2) h3 (λj hj=>(zgx (by omega)).2 (.inl (h4 j hj))) (λi'=>?_) hh
   rw[Bool.eq_iff_iff,zgx (by omega),zgx (by omega),h5 i']
   constructor
   ·rintro(h |h)
    ·exact .inl h
    ·exact .inr (by omega)
   ·rintro(h |h)
    ·exact .inl h
    ·exact .inr (by omega)
  unfold wpOp at hw⊢
  rw[ho]at hw
  have hba:big.toArray[n+i]?=some big[n+i]:=by simp
  rw[hba]
  simp only at hw⊢
  have hwant:Region.wanted (shO n big[n+i]) (yielded ((big.drop n).map (shO n)).toArray a.tmps)=Region.wanted big[n+i] (yielded big.toArray a.tmps):=by
   unfold Region.wanted
   have e:(shO n big[n+i]).guard=shG n big[n+i].guard:=rfl
   rw[e]
   cases hgd:big[n+i].guard with
   |none=>rfl
   |some q=>
    obtain⟨j,want⟩:=q
    have hnj:=hg (n+i) _ j want (by omega) hb hgd
    simp only[shG]
    have:yielded ((big.drop n).map (shO n)).toArray a.tmps (j-n)=yielded big.toArray a.tmps j:=by
     unfold yielded
     have e1:(((big.drop n).map (shO n)).toArray[j-n]?).bind (·.dst)=(big.toArray[j]?).bind (·.dst):=by
      simp only[List.getElem?_toArray,List.getElem?_map,List.getElem?_drop,show n+(j-n)=j by omega]
      cases big[j]?<;>rfl
     rw[e1]
    rw[this]
  rw[hwant]at hw
  split
  ·rename_i hw1
   rw[if_pos hw1]at hw
   rw[zewb,z8u]at hw
   exact hw.imp (Oper.wp_mono next) id
  ·rename_i hw1
   rw[if_neg hw1]at hw
   exact next _ _ hw
theorem zyk(hm:P.follows .mixedOrders=true)(hT:TOk P T){ops:List Oper}{S:St}(hN: ∀o∈ops,∀d,o.dst=some d->d<N){K:St->Prop}(hs:Sat B N S a w k)(hok:zf5 ops=true)
  (h:rund P T ops (zaj [] ops) S.nx 0 ops S [] [] K) (hQ: ∀S' a' w' k',K S'->Sat B N S' a' w' k'->Q .normal a' w'):wpAny P .any ops.toArray Q ops.length (Array.replicate ops.length false) a w:=by
 obtain⟨res,_,hstp,hend,hrun⟩:=zlr (l:=ops) (S0:=S) (K:=K) ops 0 (λ_=>(.r .any,none)) rfl h
 simp only[Nat.zero_add]at hstp hrun hend
 have hL:=zwj hok
 obtain⟨g,hs⟩:=hs
 have h0: ∀i o,oget S.O i=some o->i<S.nx:=λi o ho=>(hs.owns i o ho).1
 have hnx:S.nx<=idAt ops S res (zbk ops):=by
  have:=zee (l:=ops) (S0:=S) (res:=res) (Nat.zero_le (zbk ops)) hL.le
  simpa only[idAt,Ls]using this
 have hf: ∀j,¬(Array.replicate ops.length false).getD j false=true:=λj=>by by_cases hlt:j<ops.length<;>simp[hlt]
 refine zvc (Q:=Q) (B:=B) (N:=N) hm hT hN hL (λj hj=>hstp j (Nat.zero_le _) hj) h0 hend hrun hQ ops.length (Array.replicate ops.length false) a w (by simp) (by simp) (λi o hi=>absurd hi (hf i)) (.inl ⟨k,g,fget S.F,oget S.O,?_⟩)
 refine⟨hs.toF hnx,⟨λj t hj=>absurd hj (hf j),λt _=>rfl,λj o hj=>absurd hj (hf j),λi _=>rfl⟩,λt f hf' i hi=> .inl ?_,λi o ho j hj=> .inl ?_,λx o e=>(by cases e),λi _ hh=>absurd hh (hf i)⟩
 ·have:=(hs.facts t f hf').1
  cases f<;>simp[zah]at hi<;>subst hi<;>exact this
 ·have:=(hs.owns i o ho).2.1
  cases o with
  |ch=>simp[zbl]at hj
  |gen=>simp[zbl]at hj
  |box cells=>
   obtain⟨f,hf,hid⟩:=List.mem_flatMap.1 hj
   have:=this f hf
   cases f<;>simp[zah]at hid<;>subst hid<;>exact this
def idxB:List Nat->Nat->Nat
 |[],_=>0
 |x::r,i=>match Nat.beq x i with
  |true=>0
  |false=>idxB r i+1
def perE(p:List Nat)(e:Edge):Edge:={e with on:=idxB p e.on}
def perG(p:List Nat):Option (Nat×Bool)->Option (Nat×Bool)
 |none=>none
 |some (j,w)=>some (idxB p j,w)
def perO(p:List Nat)(k:Nat)(o:Oper):Oper:={o with after:=((o.after.toList.map (perE p)).filter λe=>Nat.blt e.on k).toArray,guard:=perG p o.guard}
def zek(p:List Nat)(ops:List Oper):Nat->List Nat->List Oper
 |_,[]=>[]
 |k,i::r=>(match lget ops i with
  |some o=>perO p k o
  |none=>default)::zek p ops (k+1) r
def perB(p:List Nat)(ops:List Oper):Bool:=
 Nat.beq p.length ops.length&&(zeu p&&(allB (λi=>Nat.blt i ops.length) p&&(allB (λi=>memB i p) (List.range ops.length)&&
 allB (λi=>match lget ops i with
  |none=>false
  |some o=>allB (λe=>Nat.blt e i) (zak o)&&(match o.guard with |none=>true |some (j,_)=>Nat.blt j ops.length)) (List.range ops.length))))
theorem zv8: ∀{p:List Nat} {i:Nat},i∈p->p[idxB p i]?=some i
 |[],i,h=>by cases h
 |x::r,i,h=>by
  simp only[idxB]
  split
  ·rename_i hb
   rw[Nat.eq_of_beq_eq_true hb]
   rfl
  ·rename_i hb
   have hne:x≠i:=λe=>by rw[e]at hb;simp at hb
   rw[List.getElem?_cons_succ]
   exact zv8 ((List.mem_cons.1 h).resolve_left λe=>hne e.symm)
theorem zj6: ∀{p:List Nat} {k i:Nat},p.Nodup->p[k]?=some i->idxB p i=k
 |[],k,i,_,h=>by simp at h
 |x::r,0,i,_,h=>by
  simp at h
  subst h
  simp[idxB]
 |x::r,k+1,i,hn,h=>by
  rw[List.getElem?_cons_succ]at h
  have hm:=List.mem_of_getElem? h
  have hne:x≠i:=λe=>(List.nodup_cons.1 hn).1 (e▸hm)
  have hb:Nat.beq x i=false:=by
   cases hb:Nat.beq x i with
   |false=>rfl
   |true=>exact absurd (Nat.eq_of_beq_eq_true hb) hne
  simp only[idxB,hb]
  rw[zj6 (List.nodup_cons.1 hn).2 h]
theorem zm8{p:List Nat}{ops:List Oper}: ∀{q:List Nat} {k0 k i:Nat} {o:Oper},q[k]?=some i->ops[i]?=some o->(zek p ops k0 q)[k]?=some (perO p (k0+k) o)
 |[],k0,k,i,o,h,_=>by simp at h
 |x::r,k0,0,i,o,h,ho=>by
  simp at h
  subst h
  simp only[zek,zao,ho]
  rfl
 |x::r,k0,k+1,i,o,h,ho=>by
  rw[List.getElem?_cons_succ]at h
  simp only[zek,List.getElem?_cons_succ]
  rw[zm8 h ho,show k0+1+k=k0+(k+1)by omega]
theorem zfu{p:List Nat}{ops:List Oper}: ∀{q:List Nat} {k0:Nat},(zek p ops k0 q).length=q.length
 |[],_=>rfl
 |x::r,k0=>by simp[zek,zfu]
theorem zb0b(p:List Nat)(k':Nat)(o:Oper)(K:Act->World->Prop):(perO p k' o).wp P a w K Q=o.wp P a w K Q:=rfl
theorem z5a(p:List Nat)(k':Nat)(o:Oper):(perO p k' o).asks P a w=o.asks P a w:=rfl
theorem zlw{big:List Oper}{p:List Nat}(hlen:p.length=big.length)(hnd:p.Nodup)(hlt: ∀i∈p,i<big.length)(hall: ∀i,i<big.length->i∈p)(hE: ∀i o,big[i]?=some o->∀e∈zak o,e<i)(hg: ∀(i:Nat) (o:Oper) (j:Nat) (want:Bool),big[i]?=some o->o.guard=some (j,want)->j<big.length):
  ∀(fuel:Nat) (listed listed':Array Bool) (a:Act) (w:World),listed.size=big.length->listed'.size=big.length->(∀k i,p[k]?=some i->listed'.getD k false=listed.getD i false)->
   wpAny P .any (zek p big 0 p).toArray Q fuel listed' a w->wpAny P .any big.toArray Q fuel listed a w:=by
 have hidx: ∀i,i<big.length->p[idxB p i]?=some i:=λi hi=>zv8 (hall i hi)
 have hidl: ∀i,i<big.length->idxB p i<big.length:=λi hi=>by
  have:=(List.getElem?_eq_some_iff.1 (hidx i hi)).1
  omega
 have hnew: ∀i o,big[i]?=some o->(zek p big 0 p).toArray[idxB p i]?=some (perO p (idxB p i) o):=λi o ho=>by
  have hi:=(List.getElem?_eq_some_iff.1 ho).1
  have:=zm8 (p:=p) (k0:=0) (hidx i hi) ho
  rw[Nat.zero_add]at this
  simpa using this
 have up: ∀(listed listed':Array Bool),listed.size=big.length->listed'.size=big.length->(∀k i,p[k]?=some i->listed'.getD k false=listed.getD i false)->∀x,x∈Region.ready .any big.toArray listed->x<big.length/\idxB p x∈Region.ready .any (zek p big 0 p).toArray listed':=by
  intro listed listed' h1 h2 h3 x hx
  obtain⟨hxl,o,ho,he⟩:=mem_ready.1 hx
  have hxb:x<big.length:=by have:=(Array.getElem?_eq_some_iff.1 ho).1;simpa using this
  have hob:big[x]?=some o:=by simpa using ho
  refine⟨hxb,mem_ready.2 ⟨?_,_,hnew x o hob,λe' he' hb=>?_⟩⟩
  ·rw[zdz (by have:=hidl x hxb;omega),h3 _ _ (hidx x hxb)]
   exact(zdz (by omega)).1 hxl
  ·simp only[perO,List.mem_toArray,List.mem_filter,List.mem_map]at he'
   obtain⟨⟨e,hea,rfl⟩,_⟩:=he'
   have hbe:Region.binds .any e=true:=hb
   have hle:e.on<x:=hE x o hob _ (List.mem_filterMap.2 ⟨e,hea,by simp[hbe]⟩)
   show listed'.getD (idxB p e.on) false=true
   rw[h3 _ _ (hidx e.on (by omega))]
   exact he e (by simpa using hea) hbe
 intro fuel
 induction fuel with
 |zero=>
  intro listed listed' a w h1 h2 h3 h
  refine⟨List.eq_nil_iff_forall_not_mem.2 λx hx=>?_,h.2⟩
  have:=(up listed listed' h1 h2 h3 x hx).2
  rw[h.1]at this
  cases this
 |succ fuel ih=>
  intro listed listed' a w h1 h2 h3 h
  refine⟨λhe=>h.1 (List.eq_nil_iff_forall_not_mem.2 λk hk=>?_),λx hx=>?_⟩
  ·obtain⟨hkl,o',ho',_⟩:=mem_ready.1 hk
   have hkb:k<p.length:=by have:=(Array.getElem?_eq_some_iff.1 ho').1;simpa[zfu]using this
   have hpk:p[k]?=some p[k]:=List.getElem?_eq_getElem hkb
   have hun: ¬listed.getD p[k] false=true:=by
    rw[<-h3 k _ hpk]
    exact(zdz (by omega)).1 hkl
   obtain⟨i,⟨hil,hin⟩,hleast⟩:=zfg (p:=λi=>i<big.length/\¬listed.getD i false=true) ⟨p[k],hlt _ (List.mem_of_getElem? hpk),hun⟩
   have hrd:i∈Region.ready .any big.toArray listed:=by
    refine mem_ready.2 ⟨(zdz (by omega)).2 hin,big[i],by simp[hil],λe he hb=>?_⟩
    have hee:e.on∈zak big[i]:=List.mem_filterMap.2 ⟨e,by simpa using he,by simp[hb]⟩
    have hlt:=hE i _ (List.getElem?_eq_getElem hil) _ hee
    exact Classical.byContradiction λhn=>by
     have:=hleast e.on ⟨by omega,hn⟩
     omega
   rw[he]at hrd
   cases hrd
  ·obtain⟨hxb,hxr⟩:=up listed listed' h1 h2 h3 x hx
   have hw:=h.2 _ hxr
   have hob:big[x]?=some big[x]:=List.getElem?_eq_getElem hxb
   have hil:=hidl x hxb
   have next: ∀a' w',wpAny P .any (zek p big 0 p).toArray Q fuel (listed'.setIfInBounds (idxB p x) true) a' w'->wpAny P .any big.toArray Q fuel (listed.setIfInBounds x true) a' w':=λa' w' hh=>by
    refine ih _ _ a' w' (by simpa using h1) (by simpa using h2) (λk i hk=>?_) hh
    rw[Bool.eq_iff_iff,zgx (by omega),zgx (by omega),h3 k i hk]
    refine or_congr Iff.rfl ⟨λe=>?_,λe=>?_⟩
    ·rw[e,hidx x hxb]at hk
     cases hk;rfl
    ·rw[e]at hk
     exact(zj6 hnd hk).symm
   unfold wpOp at hw⊢
   rw[hnew x _ hob]at hw
   have hba:big.toArray[x]?=some big[x]:=by simp
   rw[hba]
   simp only at hw⊢
   have hwant:Region.wanted (perO p (idxB p x) big[x]) (yielded (zek p big 0 p).toArray a.tmps)=Region.wanted big[x] (yielded big.toArray a.tmps):=by
    unfold Region.wanted
    have e:(perO p (idxB p x) big[x]).guard=perG p big[x].guard:=rfl
    rw[e]
    cases hgd:big[x].guard with
    |none=>rfl
    |some q=>
     obtain⟨j,want⟩:=q
     have hj:=hg x _ j want hob hgd
     simp only[perG]
     have:yielded (zek p big 0 p).toArray a.tmps (idxB p j)=yielded big.toArray a.tmps j:=by
      unfold yielded
      rw[hnew j _ (List.getElem?_eq_getElem hj)]
      simp[hj,perO]
     rw[this]
   rw[hwant]at hw
   split
   ·rename_i hw1
    rw[if_pos hw1]at hw
    rw[zb0b,z5a]at hw
    exact hw.imp (Oper.wp_mono next) id
   ·rename_i hw1
    rw[if_neg hw1]at hw
    exact next _ _ hw
theorem zn7{p:List Nat}{big:List Oper}(h:perB p big=true):p.length=big.length/\p.Nodup/\(∀i∈p,i<big.length)/\(∀i,i<big.length->i∈p)/\(∀i o,big[i]?=some o->∀e∈zak o,e<i)/\(∀(i:Nat) (o:Oper) (j:Nat) (want:Bool),big[i]?=some o->o.guard=some (j,want)->j<big.length):=by
 simp only[perB,Bool.and_eq_true]at h
 obtain⟨k1,k2,k3,k4,k5⟩:=h
 have key: ∀i o,big[i]?=some o->allB (λe=>Nat.blt e i) (zak o)=true/\(match o.guard with |none=>true |some (j,_)=>Nat.blt j big.length)=true:=λi o ho=>by
  have:=(zam.1 k5) i (List.mem_range.2 (List.getElem?_eq_some_iff.1 ho).1)
  rw[zao,ho]at this
  simpa only[Bool.and_eq_true]using this
 refine⟨Nat.eq_of_beq_eq_true k1,zbn k2,λi hi=>Nat.le_of_ble_eq_true (zam.1 k3 i hi),λi hi=>za2.1 (zam.1 k4 i (List.mem_range.2 hi)),λi o ho e he=>Nat.le_of_ble_eq_true (zam.1 (key i o ho).1 e he),λi o j want ho hg=>?_⟩
 have:=(key i o ho).2
 rw[hg]at this
 exact Nat.le_of_ble_eq_true this
def zbz(p:List Nat)(ops:List Oper):List Oper:=zek p ops 0 p
def zuw(P:Program)(T:TT)(p:List Nat)(ops:List Oper)(S:St)(K:St->Prop):Prop:=rund P T (zbz p ops) (zaj [] (zbz p ops)) S.nx 0 (zbz p ops) S [] [] K
def zq3(p:List Nat)(ops:List Oper):Bool:=perB p ops&&zf5 (zbz p ops)
theorem zm7{p:List Nat}{ops:List Oper}(hb:perB p ops=true){N:Nat}(hN: ∀o∈ops,∀d,o.dst=some d->d<N): ∀o∈zbz p ops,∀d,o.dst=some d->d<N:=λo ho d hod=>by
 obtain⟨k1,k2,k3,_⟩:=zn7 hb
 obtain⟨k,hk⟩:=List.getElem?_of_mem ho
 have hkl:k<p.length:=by have:=(List.getElem?_eq_some_iff.1 hk).1;simpa[zbz,zfu]using this
 have hpk:p[k]?=some p[k]:=List.getElem?_eq_getElem hkl
 have hi:=k3 _ (List.mem_of_getElem? hpk)
 have:=zm8 (p:=p) (k0:=0) hpk (List.getElem?_eq_getElem hi)
 rw[show zek p ops 0 p=zbz p ops from rfl,hk]at this
 cases this
 exact hN _ (List.getElem_mem hi) d hod
theorem zjr(hm:P.follows .mixedOrders=true)(hT:TOk P T){ops:List Oper}{S:St}{p:List Nat}(hN: ∀o∈ops,∀d,o.dst=some d->d<N){K:St->Prop}(hs:Sat B N S a w k)(hok:zq3 p ops=true)
  (h:zuw P T p ops S K) (hQ: ∀S' a' w' k',K S'->Sat B N S' a' w' k'->Q .normal a' w'):wpAny P .any ops.toArray Q ops.length (Array.replicate ops.length false) a w:=by
 simp only[zq3,Bool.and_eq_true]at hok
 obtain⟨k1,k2,k3,k4,k5,k6⟩:=zn7 hok.1
 have hl:(zbz p ops).length=ops.length:=by rw[zbz,zfu,k1]
 have:=zyk (Q:=Q) hm hT (zm7 hok.1 hN) hs hok.2 h hQ
 rw[hl]at this
 exact zlw k1 k2 k3 k4 k5 k6 _ _ _ a w (by simp) (by simp) (λx i hx=>by
  have h1:x<ops.length:=by have:=(List.getElem?_eq_some_iff.1 hx).1;omega
  have h2:=k3 i (List.mem_of_getElem? hx)
  simp[h1,h2]) this
theorem Vcode.perm(hm:P.follows .mixedOrders=true)(hT:TOk P T){id:Nat}{ops:Array Oper}{S:St}{Q:Exit->St->Prop}(p:List Nat)(hok:zq3 p ops.toList=true)(h:zuw P T p ops.toList S (Q .normal)):Vcode P (.region id ops true) S Q:=by
 refine⟨λB N a w k Q' hs hd hQ=>wp_region_any hm ?_⟩
 obtain⟨g,hs⟩:=hs
 have hs':SatE B N S a {w with drawn:=w.drawn+1} k g:=hs.ext (w':={w with drawn:=w.drawn+1}) ⟨rfl,rfl,rfl,Nat.le_refl _,λ_ _=>rfl⟩ λ_ _=>rfl
 have hN: ∀o∈ops.toList,∀d,o.dst=some d->d<N:=λo ho d hod=>by
  simp only[zau,List.all_eq_true]at hd
  have h1:=hd o ho
  simp only[hod]at h1
  exact Nat.le_of_ble_eq_true h1
 have:=zjr (Q:=Q') hm hT hN ⟨g,hs'⟩ hok h λS' a' w' k' hq hh=>hQ _ S' a' w' k' hq hh
 simpa using this
end
end Go.Proofs.YtpcfoglfakeimaaGreat.Sx
