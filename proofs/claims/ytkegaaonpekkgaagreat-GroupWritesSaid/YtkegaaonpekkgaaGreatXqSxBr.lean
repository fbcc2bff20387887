import Derived.Test.YtkegaaonpekkgaaGreatXqSxMg
import Derived.Test.YtkegaaonpekkgaaGreatXqEt
import Derived.Test.YtkegaaonpekkgaaGreatXqTl
import Derived.Test.YtkegaaonpekkgaaGreatXqFv
import Derived.Test.YtkegaaonpekkgaaGreatXqSxV
namespace Go.Proofs.YtkegaaonpekkgaaGreat.Sx
open Go.RowKit
theorem jg:Tryz.prog.underlying 325=some (.map 9 3):=by kernel_rfl
theorem ZZ:Tryz.prog.underlying 9=some .string:=by kernel_rfl
theorem Lm:(Tryz.prog.info? 3).bind (·.zero)=some (.int .i64 0):=by kernel_rfl
theorem ZN(n:cT): ∀(w:World) (k:Kp) (v:Value),(xT (qS n)).at_ w k v->v=qS n:=λw k v h=>by simpa[xT,RV.at_]using h
abbrev BL(lf:Leaf)(i:Bool):St:=⟨[(0,.r (yS [L1 lf])),(3,.own 2),(4,.r (cond i (I 1) (I 0))),(10,.r (yS [L1 lf])),(11,.r (I 1)),(12,.r (cond i (I 1) (I 0)))],[(0,some (.gen (tS qS (cond i [(lf.ident,I 1)] [])))),(1,some (.gen (tS qS (cond i [(lf.sign,I 1)] [])))),(2,some (.box [.own 0,.own 1]))],3⟩
abbrev FR(lf:Leaf)(b1 b2:Nat):List (Nat×TF):=[(0,.r (yS [L1 lf])),(3,.own 2),(4,.r (I 0)),(10,.r (yS [L1 lf])),(11,.r (I 1)),(12,.r (I 0)),(1000001,.nm 0 (.map (some b1))),(1000002,.nm 1 (.map (some b2)))]
abbrev A7:List (Nat×Option Ow):=[(0,some (.gen (tS (α:=cT) qS []))),(1,some (.gen (tS (α:=cT) qS [])))]
abbrev O2(lf:Leaf)(b1 b2:Nat):St:=⟨FR lf b1 b2,A7++[(2,some (.box [.r (.x (.map (some b1))),.r (.x (.map (some b2)))]))],3⟩
theorem Bl(lf:Leaf)(b1 b2:Nat):Sub (O2 lf b1 b2) (BL lf false):=
 (eX (S:=O2 lf b1 b2) (j:=2) (i:=0) (id:=0) (gh:=1000001) (cells:=[.r (.x (.map (some b1))),.r (.x (.map (some b2)))]) rfl rfl rfl rfl).trans
  ((eX (S:=⟨FR lf b1 b2,(2,some (.box [.own 0,.r (.x (.map (some b2)))]))::(O2 lf b1 b2).O,3⟩) (j:=2) (i:=1) (id:=1) (gh:=1000002) (cells:=[.own 0,.r (.x (.map (some b2)))]) rfl rfl rfl rfl).trans
  (zX (S:=⟨FR lf b1 b2,(2,some (.box [.own 0,.own 1]))::(2,some (.box [.own 0,.r (.x (.map (some b2)))]))::(O2 lf b1 b2).O,3⟩) [(0,0),(1,1),(2,2)] rfl ⟨cr,rfl,cr,cr,cr,cr,trivial⟩ ⟨λ_ _ _ hh=>hh,λ_ _ _ hh=>hh,⟨_,_,rfl,rfl,_,_,rfl,rfl,rfl⟩,trivial⟩))
set_option maxHeartbeats 1000000 in
theorem LQ(lf:Leaf):aG 180 [yS [L1 lf]] (.r (.b true)):=by
 refine aT Tryz.func180 rfl ?_
 refine Vcode.run Tab_ok ?_
 refine Vstep.mapGMkN qS 1000001 rfl λb1=>?_
 refine Vstep.mapGMkN qS 1000002 rfl λb2=>?_
 refine zy (BL lf) (λ_=>True) (λi=>cond i 0 1) false trivial (Sub.trans (zX (S':=O2 lf b1 b2) [(0,0),(1,1),(2,2)] rfl ⟨cr,rfl,cr,cr,cr,cr,⟨rfl,rfl⟩,⟨rfl,rfl⟩,trivial⟩ ⟨λ_ _ _ hh=>hh,λ_ _ _ hh=>hh,(aB aZ),trivial⟩) (Bl lf b1 b2)) ?_
 rintro(_ |_) _
 ·refine cY ?_
  refine zm qN qO (oY lf) ?_
  refine cU ?_
  refine cX ?_
  refine zd (m:=1) rfl (by decide) ?_
  refine zD 0 rfl (by decide) ?_
  refine Vfun.str rfl rfl ?_
  refine Vstep.lookG (q:=qS) (n:=lf.ident) (I 0) rfl rfl rfl rfl rfl (ZN _) jg (jQ ZZ) Lm (λ_ _=>by simp[RV.at_]) ?_
  refine zd (m:=1) rfl (by decide) ?_
  refine Vstep.putG (q:=qS) (n:=lf.ident) rfl rfl rfl rfl rfl (ZN _) rfl rfl jg (jQ ZZ) ?_
  refine zD 1 rfl (by decide) ?_
  refine Vfun.str rfl rfl ?_
  refine Vstep.lookG (q:=qS) (n:=lf.sign) (I 0) rfl rfl rfl rfl rfl (ZN _) jg (jQ ZZ) Lm (λ_ _=>by simp[RV.at_]) ?_
  refine zd (m:=1) rfl (by decide) ?_
  refine Vstep.putG (q:=qS) (n:=lf.sign) rfl rfl rfl rfl rfl (ZN _) rfl rfl jg (jQ ZZ) ?_
  refine zd (m:=1) rfl (by decide) ?_
  exact⟨true,trivial,by decide,zN [(0,0),(1,1),(2,2)] ⟨λ_ _ _ hh=>hh,λ_ _ _ hh=>hh,⟨_,_,rfl,rfl,_,_,rfl,rfl,rfl⟩,trivial⟩⟩
 ·refine cX ?_
  refine zD 0 rfl (by decide) ?_
  refine⟨⟨_,_,jg⟩,?_⟩
  refine zt rfl ?_
  refine zD 1 rfl (by decide) ?_
  refine⟨⟨_,_,jg⟩,?_⟩
  refine zt rfl ?_
  exact cr
theorem Vsem.fieldN{P:Program}{T:TT}{S:St}{o:Oper}(hT:TOk P T){t:TypeId}{x:Operand}{i off:Nat}{ft:TypeId}{ti tf:TI}{fs:List (Nat×TypeId)}{cells cs:List RV}{K:TF->Option Ow->Prop}(hop:o.op= .field t x i)(hti:yL T t=some ti)(hk:ti.k= .struct fs)(hfs:yp fs i=some (off,ft))(htf:yL T ft=some tf)(hag:tf.agg=true)
  (hx:yv S x=some (.r (.ag cells))) (hb:off+tf.sz<=cells.length) (hc:(cells.drop off).take tf.sz=cs) (hK:K (.r (.ag cs)) none):Vsem P S o K:=by
 subst hc
 refine⟨_,_,λB N a w k Q ⟨g,hs⟩ hd=>?_,hK⟩
 have hv:=(yi hs hx).2
 simp only[TF.at_,RV.at_]at hv
 obtain⟨us,e,hl⟩:=hv
 rw[yE]at hfs
 have hul:=(RV.listAt_iff _ _).1 hl
 have hus:off+tf.sz<=us.size:=by rw[<-bG,hul.1];exact hb
 obtain⟨q,hq⟩:=hT.get hti
 obtain⟨d,hdd,hko,_⟩:=q.desc
 rw[hq]at hdd
 rw[hk]at hko
 obtain⟨fields,rfl,hfl⟩:=hko
 obtain⟨qf,hqf⟩:=hT.get htf
 have hsize:=xq (w:=w) qf hqf
 obtain⟨df,hdf,_,hrow⟩:=qf.desc
 rw[hqf]at hdf
 rw[hag]at hrow
 have hagg:(isAgg ft).run P w= .ok true w:=by
  unfold isAgg
  rw[Sem.run_bind,run_underlying hdf w]
  cases df<;>simp_all [TypeDesc.isRow]
 rw[<-hfl,bR]at hfs
 cases hfi:fields.toList[i]? with
 |none=>simp[hfi]at hfs
 |some fd=>
  simp only[hfi,Option.map_some,bT,Prod.mk.injEq]at hfs
  obtain⟨h0,rfl⟩:=hfs
  have hfa:fields[i]?=some fd:=by simpa using hfi
  refine yG (v:= .agg (us.extract off (off+tf.sz))) (w':=w) ?_ ⟨k,g,hs.put hd trivial ?_⟩
  ·simp[execOp,hop,Instr.field,run_underlying hdd w,hfa,e,part,hagg,asAgg,hsize,h0,hus]
  ·simp only[TF.at_,RV.at_]
   refine⟨_,rfl,?_⟩
   rw[Array.toList_extract,List.extract_eq_take_drop,Nat.add_sub_cancel_left]
   exact vx (uL hl off) _
structure BoxedP where
 enc:cT
 box:cT
 deriving DecidableEq
abbrev BoxedP.c(b:BoxedP):List RV:=[bs b.enc,bs b.box]
def HF(l:List BoxedP):RV:= .sl 2 l.length (l.flatMap BoxedP.c)
structure StepW where
 box:cT
 to:List BoxedP
 deriving DecidableEq
abbrev StepW.c(s:StepW):List RV:=[bs s.box,HF s.to]
def CM(l:List StepW):RV:= .sl 2 l.length (l.flatMap StepW.c)
structure MadeP where
 sparse:Lean_
 leaf:Leaf
 steps:List StepW
 keys:List KeyP
 secrets:List cT
 commit:cT
abbrev MadeP.c(m:MadeP):List RV:=[I m.sparse.leaves,I m.sparse.own,ZU m.sparse.opn,Og m.sparse.shut,bs m.leaf.box,bs m.leaf.sign,bs m.leaf.ident,U8 m.leaf.src,bs m.leaf.parent,bs m.leaf.sig,CM m.steps,wQ m.keys,tk m.secrets,bs m.commit]
def ta(old:Leaf)(q low:cT):Leaf:=⟨q,old.sign,old.ident,3,low,old.sig⟩
theorem V7(s:Lean_)(hn:s.leaves=1)(ho:s.own=0):aG 276 [.ag s.c] (.r (ja [])):=by
 obtain⟨n,o,A,H⟩:=s
 simp only at hn ho
 subst hn;subst ho
 refine aT Tryz.func276 rfl ?_
 have e1:fV 0 1=[]:=by decide
 have e2:fG 0 1=[]:=by decide
 refine zd (m:=0) rfl (by show-9223372036854775808<=(2*0:Int)/\(2*0:Int)<=9223372036854775807;decide) ?_
 refine ze (V1 0 1) ?_
 refine zd (m:=0) rfl (by show-9223372036854775808<=(2*0:Int)/\(2*0:Int)<=9223372036854775807;decide) ?_
 refine ze (V5 0 1) ?_
 rw[e1,e2]
 refine zy (λ_:Unit=>{F:=[(3,.r nl),(23,.r (I 0)),(24,.r (I 0))],O:=[],nx:=0}) (λ_=>True) (λ_=>0) () trivial (zM []) ?_
 intro _ _
 refine cX ?_
 exact z8 3
def sD(n:Node):Lean_:=⟨1,0,[⟨0,n⟩],[]⟩
theorem PE{n:Node}(hr:n.right=true)(hk:n.kind.toNat=1):sR (sD n)=true:=by
 have hpar:n.par.late=[]:=by
  unfold Node.right at hr
  rw[cQ (by omega),cO hk]at hr
  simp only[bB,Par.none,decide_eq_true_eq]at hr
  exact bU (by omega)
 have hf:sJ 0 n=true:=by
  unfold sJ
  rw[hr,hpar]
  have:pc 0=2:=rfl
  rw[this]
  simp
  omega
 have hl:mt [⟨0,n⟩] 0=true:=by simp[mt,xP,hk]
 have hv:rU [⟨0,n⟩] 0 false 0 0 0 []=([0],[],true):=by
  unfold rU
  have:xP [⟨0,n⟩] ((nd 0 0:Nat):Int)=some n:=by simp[xP,nd]
  rw[this]
  rfl
 unfold sR oU Vi Vh tb sD
 simp only[cJ,List.map_nil,List.all_cons,List.all_nil]
 have hlog:(1:Int).toNat.log2=0:=rfl
 have hz:(0:Int).toNat=0:=rfl
 rw[show(2*(0:Int))=0 from rfl,hl,hf,hlog]
 simp only[hv]
 have hs1:xS [0]=[0]:=by simp[xS]
 have hs2:xS []=[]:=by simp[xS]
 have hf1:sK 1=true:=by decide
 simp[uG,hf1,hs1,hs2]
theorem R5{n:Node}(hf:n.fit):(sD n).bd:=by
 refine⟨(by show i64 1;unfold i64;decide),(by show i64 0;unfold i64;decide),(by show 1<=1000000;omega),(by show 0<=1000000;omega),λx hx=>?_,λx hx=>(by cases hx),λx hx=>?_,λx hx=>(by cases hx)⟩
 ·rw[List.mem_singleton.1 hx];show i64 0;unfold i64;decide
 ·rw[List.mem_singleton.1 hx];exact hf
section
variable {P:Program} {T:TT} {B:Bs} {N:Nat} {S0:St} {a:Act} {w:World} {k:Kp} {g:Env} {Q:Exit->Act->World->Prop} {res:RS}
def Hr(n:Nat)(e:Edge):Edge:={e with on:=e.on-n}
def CC(n:Nat):Option (Nat×Bool)->Option (Nat×Bool)
 |none=>none
 |some (j,w)=>some (j-n,w)
def ry(n:Nat)(o:Oper):Oper:={o with after:=((o.after.toList.filter λe=>Nat.ble n e.on).map (Hr n)).toArray,guard:=CC n o.guard}
theorem CD(n:Nat)(o:Oper)(K:Act->World->Prop):(ry n o).wp P a w K Q=o.wp P a w K Q:=rfl
theorem Jj(n:Nat)(o:Oper):(ry n o).asks P a w=o.asks P a w:=rfl
theorem Vk(n:Nat)(e:Edge):Region.binds .any (Hr n e)=Region.binds .any e:=rfl
theorem uX{l:Array Bool}{j:Nat}(h:j<l.size):(l.getD j true=false↔¬l.getD j false=true):=by simp[h]
theorem pP{l:Array Bool}{i j:Nat}(h:i<l.size):(l.setIfInBounds i true).getD j false=true↔(l.getD j false=true\/j=i):=by
 by_cases hji:j=i
 ·subst hji;simp[h]
 ·have:i≠j:=λe=>hji e.symm
  simp[Array.getElem?_setIfInBounds_ne this,hji]
theorem MO{l:Array Bool}{i fuel:Nat}(h:i<l.size)(hn: ¬l.getD i false=true)(hc:l.toList.count false=fuel+1):(l.setIfInBounds i true).toList.count false=fuel:=by
 have hlt:i<l.toList.length:=by rw[bG];exact h
 have hv:l.toList[i]=false:=by
  have:l[i]?=some l[i]:=Array.getElem?_eq_getElem h
  simp[h]at hn
  simpa using hn
 rw[Array.toList_setIfInBounds,List.count_set hlt,hc,hv]
 simp
theorem db{big:List Oper}{n:Nat}(hg: ∀i o j want,n<=i->big[i]?=some o->o.guard=some (j,want)->n<=j):
  ∀(fuel:Nat) (listed listed':Array Bool) (a:Act) (w:World),listed.size=big.length->listed'.size=big.length-n->n<=big.length->(∀j,j<n->listed.getD j false=true)->(∀i,listed.getD (n+i) false=listed'.getD i false)->
   wpAny P .any ((big.drop n).map (ry n)).toArray Q fuel listed' a w->wpAny P .any big.toArray Q fuel listed a w:=by
 intro fuel
 have hop: ∀i o,big[n+i]?=some o->((big.drop n).map (ry n)).toArray[i]?=some (ry n o):=λi o h=>by simp[h]
 have down: ∀(listed listed':Array Bool),listed.size=big.length->listed'.size=big.length-n->n<=big.length->(∀j,j<n->listed.getD j false=true)->(∀i,listed.getD (n+i) false=listed'.getD i false)->∀x,x∈Region.ready .any big.toArray listed↔∃i,x=n+i/\i∈Region.ready .any ((big.drop n).map (ry n)).toArray listed':=by
  intro listed listed' h1 h2 h3 h4 h5 x
  rw[mem_ready]
  constructor
  ·rintro⟨hx,o,ho,he⟩
   have hxl:x<big.length:=by have:=(Array.getElem?_eq_some_iff.1 ho).1;simpa using this
   have hxn:n<=x:=Nat.le_of_not_lt λhlt=>(uX (by omega)).1 hx (h4 x hlt)
   obtain⟨i,rfl⟩:=Nat.exists_eq_add_of_le hxn
   refine⟨i,rfl,mem_ready.2 ⟨?_,ry n o,hop i o (by simpa using ho),λe' he' hb=>?_⟩⟩
   ·rw[uX (by omega)]
    rw[<-h5 i]
    exact(uX (by omega)).1 hx
   ·simp only[ry,List.mem_toArray,List.mem_map,List.mem_filter]at he'
    obtain⟨e,⟨hea,hen⟩,rfl⟩:=he'
    have hne:n<=e.on:=cE hen
    have:=he e (by simpa using hea) (by rw[<-Vk n e];exact hb)
    show listed'.getD (e.on-n) false=true
    rw[<-h5,show n+(e.on-n)=e.on by omega]
    exact this
  ·rintro⟨i,rfl,hi⟩
   obtain⟨hx,o',ho',he'⟩:=mem_ready.1 hi
   have hil:i<big.length-n:=by have:=(Array.getElem?_eq_some_iff.1 ho').1;simpa using this
   have hb:big[n+i]?=some big[n+i]:=bA (by omega)
   have:=hop i _ hb
   rw[this]at ho'
   cases ho'
   refine⟨?_,big[n+i],by simp,λe he hbd=>?_⟩
   ·rw[uX (by omega),h5 i]
    exact(uX (by omega)).1 hx
   ·rcases Nat.lt_or_ge e.on n with hlt |hge
    ·exact h4 _ hlt
    ·have:=he' (Hr n e) (by simp only[ry,List.mem_toArray,List.mem_map,List.mem_filter];exact⟨e,⟨by simpa using he,Nat.ble_eq_true_of_le hge⟩,rfl⟩) (by rw[Vk];exact hbd)
     have e2:(Hr n e).on=e.on-n:=rfl
     rw[e2,<-h5,show n+(e.on-n)=e.on by omega]at this
     exact this
 have emp: ∀(listed listed':Array Bool),listed.size=big.length->listed'.size=big.length-n->n<=big.length->(∀j,j<n->listed.getD j false=true)->(∀i,listed.getD (n+i) false=listed'.getD i false)->(Region.ready .any big.toArray listed=[]↔Region.ready .any ((big.drop n).map (ry n)).toArray listed'=[]):=by
  intro listed listed' h1 h2 h3 h4 h5
  constructor
  ·intro h
   refine List.eq_nil_iff_forall_not_mem.2 λi hi=>?_
   have:=(down listed listed' h1 h2 h3 h4 h5 (n+i)).2 ⟨i,rfl,hi⟩
   rw[h]at this
   cases this
  ·intro h
   refine List.eq_nil_iff_forall_not_mem.2 λx hx=>?_
   obtain⟨i,_,hi⟩:=(down listed listed' h1 h2 h3 h4 h5 x).1 hx
   rw[h]at hi
   cases hi
 induction fuel with
 |zero=>
  intro listed listed' a w h1 h2 h3 h4 h5 h
  exact⟨(emp listed listed' h1 h2 h3 h4 h5).2 h.1,h.2⟩
 |succ fuel ih=>
  intro listed listed' a w h1 h2 h3 h4 h5 h
  refine⟨λhe=>h.1 ((emp listed listed' h1 h2 h3 h4 h5).1 he),λx hx=>?_⟩
  obtain⟨i,rfl,hi⟩:=(down listed listed' h1 h2 h3 h4 h5 x).1 hx
  have hw:=h.2 i hi
  obtain⟨_,o',ho',_⟩:=mem_ready.1 hi
  have hil:i<big.length-n:=by have:=(Array.getElem?_eq_some_iff.1 ho').1;simpa using this
  have hb:big[n+i]?=some big[n+i]:=bA (by omega)
  have ho:=hop i _ hb
  have next: ∀a' w',wpAny P .any ((big.drop n).map (ry n)).toArray Q fuel (listed'.setIfInBounds i true) a' w'->wpAny P .any big.toArray Q fuel (listed.setIfInBounds (n+i) true) a' w':=λa' w' hh=>by
   refine ih _ _ a' w' (by simpa using h1) (by simpa using h2) h3 (λj hj=>(pP (by omega)).2 (.inl (h4 j hj))) (λi'=>?_) hh
   rw[cD,pP (by omega),pP (by omega),h5 i']
   constructor
   ·rintro(h |h)
    ·exact .inl h
    ·exact .inr (by omega)
   ·rintro(h |h)
    ·exact .inl h
    ·exact .inr (by omega)
  unfold wpOp at hw⊢
  rw[ho]at hw
  have hba:big.toArray[n+i]?=some big[n+i]:=by simp
  rw[hba]
  simp only at hw⊢
  have hwant:Region.wanted (ry n big[n+i]) (yielded ((big.drop n).map (ry n)).toArray a.tmps)=Region.wanted big[n+i] (yielded big.toArray a.tmps):=by
   unfold Region.wanted
   have e:(ry n big[n+i]).guard=CC n big[n+i].guard:=rfl
   rw[e]
   cases hgd:big[n+i].guard with
   |none=>rfl
   |some q=>
    obtain⟨j,want⟩:=q
    have hnj:=hg (n+i) _ j want (by omega) hb hgd
    simp only[CC]
    have:yielded ((big.drop n).map (ry n)).toArray a.tmps (j-n)=yielded big.toArray a.tmps j:=by
     unfold yielded
     have e1:(((big.drop n).map (ry n)).toArray[j-n]?).bind (·.dst)=(big.toArray[j]?).bind (·.dst):=by
      simp only[List.getElem?_toArray,bR,List.getElem?_drop,show n+(j-n)=j by omega]
      cases big[j]?<;>rfl
     rw[e1]
    rw[this]
  rw[hwant]at hw
  split
  ·rename_i hw1
   rw[cO hw1]at hw
   rw[CD,Jj]at hw
   exact hw.imp (Oper.wp_mono next) id
  ·rename_i hw1
   rw[cQ hw1]at hw
   exact next _ _ hw
theorem TS(hm:P.follows .mixedOrders=true)(hT:TOk P T){ops:List Oper}{S:St}(hN: ∀o∈ops,∀d,o.dst=some d->d<N){K:St->Prop}(hs:yK B N S a w k)(hok:qC ops=true)
  (h:rQ P T ops (yq [] ops) S.nx 0 ops S [] [] K) (hQ: ∀S' a' w' k',K S'->yK B N S' a' w' k'->Q .normal a' w'):wpAny P .any ops.toArray Q ops.length (Array.replicate ops.length false) a w:=by
 obtain⟨res,_,hstp,hend,hrun⟩:=ir (l:=ops) (S0:=S) (K:=K) ops 0 (λ_=>(.r .any,none)) rfl h
 simp only[Nat.zero_add]at hstp hrun hend
 have hL:=Uz hok
 obtain⟨g,hs⟩:=hs
 have h0: ∀i o,ye S.O i=some o->i<S.nx:=λi o ho=>(hs.owns i o ho).1
 have hnx:S.nx<=yM ops S res (xX ops):=by
  have:=tJ (l:=ops) (S0:=S) (res:=res) (Nat.zero_le (xX ops)) hL.le
  simpa only[yM,Ls]using this
 have hf: ∀j,¬(Array.replicate ops.length false).getD j false=true:=λj=>by by_cases hlt:j<ops.length<;>simp[hlt]
 refine Vp (Q:=Q) (B:=B) (N:=N) hm hT hN hL (λj hj=>hstp j (Nat.zero_le _) hj) h0 hend hrun hQ ops.length (Array.replicate ops.length false) a w (by simp) (by simp) (λi o hi=>absurd hi (hf i)) (.inl ⟨k,g,yl S.F,ye S.O,?_⟩)
 refine⟨hs.toF hnx,⟨λj t hj=>absurd hj (hf j),λt _=>rfl,λj o hj=>absurd hj (hf j),λi _=>rfl⟩,λt f hf' i hi=> .inl ?_,λi o ho j hj=> .inl ?_,λx o e=>(by cases e),λi _ hh=>absurd hh (hf i)⟩
 ·have:=(hs.facts t f hf').1
  cases f<;>simp[yn]at hi<;>subst hi<;>exact this
 ·have:=(hs.owns i o ho).2.1
  cases o with
  |ch=>simp[xY]at hj
  |gen=>simp[xY]at hj
  |box cells=>
   obtain⟨f,hf,hid⟩:=List.mem_flatMap.1 hj
   have:=this f hf
   cases f<;>simp[yn]at hid<;>subst hid<;>exact this
def tQ:List Nat->Nat->Nat
 |[],_=>0
 |x::r,i=>match Nat.beq x i with
  |true=>0
  |false=>tQ r i+1
def As(p:List Nat)(e:Edge):Edge:={e with on:=tQ p e.on}
def KV(p:List Nat):Option (Nat×Bool)->Option (Nat×Bool)
 |none=>none
 |some (j,w)=>some (tQ p j,w)
def il(p:List Nat)(k:Nat)(o:Oper):Oper:={o with after:=((o.after.toList.map (As p)).filter λe=>Nat.blt e.on k).toArray,guard:=KV p o.guard}
def se(p:List Nat)(ops:List Oper):Nat->List Nat->List Oper
 |_,[]=>[]
 |k,i::r=>(match yp ops i with
  |some o=>il p k o
  |none=>default)::se p ops (k+1) r
def YY(p:List Nat)(ops:List Oper):Bool:=
 Nat.beq p.length ops.length&&(sC p&&(yZ (λi=>Nat.blt i ops.length) p&&(yZ (λi=>xu i p) (List.range ops.length)&&
 yZ (λi=>match yp ops i with
  |none=>false
  |some o=>yZ (λe=>Nat.blt e i) (yt o)&&(match o.guard with |none=>true |some (j,_)=>Nat.blt j ops.length)) (List.range ops.length))))
theorem Ui: ∀{p:List Nat} {i:Nat},i∈p->p[tQ p i]?=some i
 |[],i,h=>by cases h
 |x::r,i,h=>by
  simp only[tQ]
  split
  ·rename_i hb
   rw[bI hb]
   rfl
  ·rename_i hb
   have hne:x≠i:=λe=>by rw[e]at hb;simp at hb
   rw[List.getElem?_cons_succ]
   exact Ui ((List.mem_cons.1 h).resolve_left λe=>hne e.symm)
theorem kI: ∀{p:List Nat} {k i:Nat},p.Nodup->p[k]?=some i->tQ p i=k
 |[],k,i,_,h=>by simp at h
 |x::r,0,i,_,h=>by
  simp at h
  subst h
  simp[tQ]
 |x::r,k+1,i,hn,h=>by
  rw[List.getElem?_cons_succ]at h
  have hm:=cH h
  have hne:x≠i:=λe=>(List.nodup_cons.1 hn).1 (e▸hm)
  have hb:Nat.beq x i=false:=by
   cases hb:Nat.beq x i with
   |false=>rfl
   |true=>exact absurd (bI hb) hne
  simp only[tQ,hb]
  rw[kI (List.nodup_cons.1 hn).2 h]
theorem gQ{p:List Nat}{ops:List Oper}: ∀{q:List Nat} {k0 k i:Nat} {o:Oper},q[k]?=some i->ops[i]?=some o->(se p ops k0 q)[k]?=some (il p (k0+k) o)
 |[],k0,k,i,o,h,_=>by simp at h
 |x::r,k0,0,i,o,h,ho=>by
  simp at h
  subst h
  simp only[se,yE,ho]
  rfl
 |x::r,k0,k+1,i,o,h,ho=>by
  rw[List.getElem?_cons_succ]at h
  simp only[se,List.getElem?_cons_succ]
  rw[gQ h ho,show k0+1+k=k0+(k+1)by omega]
theorem qq{p:List Nat}{ops:List Oper}: ∀{q:List Nat} {k0:Nat},(se p ops k0 q).length=q.length
 |[],_=>rfl
 |x::r,k0=>by simp[se,qq]
theorem Fj(p:List Nat)(k':Nat)(o:Oper)(K:Act->World->Prop):(il p k' o).wp P a w K Q=o.wp P a w K Q:=rfl
theorem M6(p:List Nat)(k':Nat)(o:Oper):(il p k' o).asks P a w=o.asks P a w:=rfl
theorem iD{big:List Oper}{p:List Nat}(hlen:p.length=big.length)(hnd:p.Nodup)(hlt: ∀i∈p,i<big.length)(hall: ∀i,i<big.length->i∈p)(hE: ∀i o,big[i]?=some o->∀e∈yt o,e<i)(hg: ∀(i:Nat) (o:Oper) (j:Nat) (want:Bool),big[i]?=some o->o.guard=some (j,want)->j<big.length):
  ∀(fuel:Nat) (listed listed':Array Bool) (a:Act) (w:World),listed.size=big.length->listed'.size=big.length->(∀k i,p[k]?=some i->listed'.getD k false=listed.getD i false)->
   wpAny P .any (se p big 0 p).toArray Q fuel listed' a w->wpAny P .any big.toArray Q fuel listed a w:=by
 have hidx: ∀i,i<big.length->p[tQ p i]?=some i:=λi hi=>Ui (hall i hi)
 have hidl: ∀i,i<big.length->tQ p i<big.length:=λi hi=>by
  have:=(List.getElem?_eq_some_iff.1 (hidx i hi)).1
  omega
 have hnew: ∀i o,big[i]?=some o->(se p big 0 p).toArray[tQ p i]?=some (il p (tQ p i) o):=λi o ho=>by
  have hi:=(List.getElem?_eq_some_iff.1 ho).1
  have:=gQ (p:=p) (k0:=0) (hidx i hi) ho
  rw[Nat.zero_add]at this
  simpa using this
 have up: ∀(listed listed':Array Bool),listed.size=big.length->listed'.size=big.length->(∀k i,p[k]?=some i->listed'.getD k false=listed.getD i false)->∀x,x∈Region.ready .any big.toArray listed->x<big.length/\tQ p x∈Region.ready .any (se p big 0 p).toArray listed':=by
  intro listed listed' h1 h2 h3 x hx
  obtain⟨hxl,o,ho,he⟩:=mem_ready.1 hx
  have hxb:x<big.length:=by have:=(Array.getElem?_eq_some_iff.1 ho).1;simpa using this
  have hob:big[x]?=some o:=by simpa using ho
  refine⟨hxb,mem_ready.2 ⟨?_,_,hnew x o hob,λe' he' hb=>?_⟩⟩
  ·rw[uX (by have:=hidl x hxb;omega),h3 _ _ (hidx x hxb)]
   exact(uX (by omega)).1 hxl
  ·simp only[il,List.mem_toArray,List.mem_filter,List.mem_map]at he'
   obtain⟨⟨e,hea,rfl⟩,_⟩:=he'
   have hbe:Region.binds .any e=true:=hb
   have hle:e.on<x:=hE x o hob _ (List.mem_filterMap.2 ⟨e,hea,by simp[hbe]⟩)
   show listed'.getD (tQ p e.on) false=true
   rw[h3 _ _ (hidx e.on (by omega))]
   exact he e (by simpa using hea) hbe
 intro fuel
 induction fuel with
 |zero=>
  intro listed listed' a w h1 h2 h3 h
  refine⟨List.eq_nil_iff_forall_not_mem.2 λx hx=>?_,h.2⟩
  have:=(up listed listed' h1 h2 h3 x hx).2
  rw[h.1]at this
  cases this
 |succ fuel ih=>
  intro listed listed' a w h1 h2 h3 h
  refine⟨λhe=>h.1 (List.eq_nil_iff_forall_not_mem.2 λk hk=>?_),λx hx=>?_⟩
  ·obtain⟨hkl,o',ho',_⟩:=mem_ready.1 hk
   have hkb:k<p.length:=by have:=(Array.getElem?_eq_some_iff.1 ho').1;simpa[qq]using this
   have hpk:p[k]?=some p[k]:=bA hkb
   have hun: ¬listed.getD p[k] false=true:=by
    rw[<-h3 k _ hpk]
    exact(uX (by omega)).1 hkl
   obtain⟨i,⟨hil,hin⟩,hleast⟩:=rB (p:=λi=>i<big.length/\¬listed.getD i false=true) ⟨p[k],hlt _ (cH hpk),hun⟩
   have hrd:i∈Region.ready .any big.toArray listed:=by
    refine mem_ready.2 ⟨(uX (by omega)).2 hin,big[i],by simp[hil],λe he hb=>?_⟩
    have hee:e.on∈yt big[i]:=List.mem_filterMap.2 ⟨e,by simpa using he,by simp[hb]⟩
    have hlt:=hE i _ (bA hil) _ hee
    exact Classical.byContradiction λhn=>by
     have:=hleast e.on ⟨by omega,hn⟩
     omega
   rw[he]at hrd
   cases hrd
  ·obtain⟨hxb,hxr⟩:=up listed listed' h1 h2 h3 x hx
   have hw:=h.2 _ hxr
   have hob:big[x]?=some big[x]:=bA hxb
   have hil:=hidl x hxb
   have next: ∀a' w',wpAny P .any (se p big 0 p).toArray Q fuel (listed'.setIfInBounds (tQ p x) true) a' w'->wpAny P .any big.toArray Q fuel (listed.setIfInBounds x true) a' w':=λa' w' hh=>by
    refine ih _ _ a' w' (by simpa using h1) (by simpa using h2) (λk i hk=>?_) hh
    rw[cD,pP (by omega),pP (by omega),h3 k i hk]
    refine or_congr Iff.rfl ⟨λe=>?_,λe=>?_⟩
    ·rw[e,hidx x hxb]at hk
     cases hk;rfl
    ·rw[e]at hk
     exact(kI hnd hk).symm
   unfold wpOp at hw⊢
   rw[hnew x _ hob]at hw
   have hba:big.toArray[x]?=some big[x]:=by simp
   rw[hba]
   simp only at hw⊢
   have hwant:Region.wanted (il p (tQ p x) big[x]) (yielded (se p big 0 p).toArray a.tmps)=Region.wanted big[x] (yielded big.toArray a.tmps):=by
    unfold Region.wanted
    have e:(il p (tQ p x) big[x]).guard=KV p big[x].guard:=rfl
    rw[e]
    cases hgd:big[x].guard with
    |none=>rfl
    |some q=>
     obtain⟨j,want⟩:=q
     have hj:=hg x _ j want hob hgd
     simp only[KV]
     have:yielded (se p big 0 p).toArray a.tmps (tQ p j)=yielded big.toArray a.tmps j:=by
      unfold yielded
      rw[hnew j _ (bA hj)]
      simp[hj,il]
     rw[this]
   rw[hwant]at hw
   split
   ·rename_i hw1
    rw[cO hw1]at hw
    rw[Fj,M6]at hw
    exact hw.imp (Oper.wp_mono next) id
   ·rename_i hw1
    rw[cQ hw1]at hw
    exact next _ _ hw
theorem fW{p:List Nat}{big:List Oper}(h:YY p big=true):p.length=big.length/\p.Nodup/\(∀i∈p,i<big.length)/\(∀i,i<big.length->i∈p)/\(∀i o,big[i]?=some o->∀e∈yt o,e<i)/\(∀(i:Nat) (o:Oper) (j:Nat) (want:Bool),big[i]?=some o->o.guard=some (j,want)->j<big.length):=by
 simp only[YY,bB]at h
 obtain⟨k1,k2,k3,k4,k5⟩:=h
 have key: ∀i o,big[i]?=some o->yZ (λe=>Nat.blt e i) (yt o)=true/\(match o.guard with |none=>true |some (j,_)=>Nat.blt j big.length)=true:=λi o ho=>by
  have:=(yC.1 k5) i (List.mem_range.2 (List.getElem?_eq_some_iff.1 ho).1)
  rw[yE,ho]at this
  simpa only[bB]using this
 refine⟨bI k1,wF k2,λi hi=>cE (yC.1 k3 i hi),λi hi=>yW.1 (yC.1 k4 i (List.mem_range.2 hi)),λi o ho e he=>cE (yC.1 (key i o ho).1 e he),λi o j want ho hg=>?_⟩
 have:=(key i o ho).2
 rw[hg]at this
 exact cE this
def wO(p:List Nat)(ops:List Oper):List Oper:=se p ops 0 p
def PJ(P:Program)(T:TT)(p:List Nat)(ops:List Oper)(S:St)(K:St->Prop):Prop:=rQ P T (wO p ops) (yq [] (wO p ops)) S.nx 0 (wO p ops) S [] [] K
def WX(p:List Nat)(ops:List Oper):Bool:=YY p ops&&qC (wO p ops)
theorem gP{p:List Nat}{ops:List Oper}(hb:YY p ops=true){N:Nat}(hN: ∀o∈ops,∀d,o.dst=some d->d<N): ∀o∈wO p ops,∀d,o.dst=some d->d<N:=λo ho d hod=>by
 obtain⟨k1,k2,k3,_⟩:=fW hb
 obtain⟨k,hk⟩:=List.getElem?_of_mem ho
 have hkl:k<p.length:=by have:=(List.getElem?_eq_some_iff.1 hk).1;simpa[wO,qq]using this
 have hpk:p[k]?=some p[k]:=bA hkl
 have hi:=k3 _ (cH hpk)
 have:=gQ (p:=p) (k0:=0) hpk (bA hi)
 rw[show se p ops 0 p=wO p ops from rfl,hk]at this
 cases this
 exact hN _ (bY hi) d hod
theorem eQ(hm:P.follows .mixedOrders=true)(hT:TOk P T){ops:List Oper}{S:St}{p:List Nat}(hN: ∀o∈ops,∀d,o.dst=some d->d<N){K:St->Prop}(hs:yK B N S a w k)(hok:WX p ops=true)
  (h:PJ P T p ops S K) (hQ: ∀S' a' w' k',K S'->yK B N S' a' w' k'->Q .normal a' w'):wpAny P .any ops.toArray Q ops.length (Array.replicate ops.length false) a w:=by
 simp only[WX,bB]at hok
 obtain⟨k1,k2,k3,k4,k5,k6⟩:=fW hok.1
 have hl:(wO p ops).length=ops.length:=by rw[wO,qq,k1]
 have:=TS (Q:=Q) hm hT (gP hok.1 hN) hs hok.2 h hQ
 rw[hl]at this
 exact iD k1 k2 k3 k4 k5 k6 _ _ _ a w (by simp) (by simp) (λx i hx=>by
  have h1:x<ops.length:=by have:=(List.getElem?_eq_some_iff.1 hx).1;omega
  have h2:=k3 i (cH hx)
  simp[h1,h2]) this
end
end Go.Proofs.YtkegaaonpekkgaaGreat.Sx
