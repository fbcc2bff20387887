import Derived.Test.YtddokcpcpoihmaaGreatZSxMg
import Derived.Test.YtddokcpcpoihmaaGreatZEx
import Derived.Test.YtddokcpcpoihmaaGreatZVb
namespace Go.Proofs.YtddokcpcpoihmaaGreat.Sx
open Go.RowKit
set_option linter.unusedVariables false
section
def iget:List (List UInt8×Int)->List UInt8->Int
 |[],_=>0
 |(m,c)::l,n=>if m=n then c else iget l n
def iput:List (List UInt8×Int)->List UInt8->Int->List (List UInt8×Int)
 |[],n,c=>[(n,c)]
 |(m,d)::l,n,c=>if m=n then(m,c)::l else(m,d)::iput l n c
abbrev embI(e:List (List UInt8×Int)):List (List UInt8×RV):=e.map λp=>(p.1,I p.2)
theorem zkn: ∀(e:List (List UInt8×Int)) (n:List UInt8),(aget (embI e) n).getD (I 0)=I (iget e n)
 |[],n=>rfl
 |(m,c)::l,n=>by
  simp only[embI,List.map_cons,aget,iget]
  by_cases h:m=n
  ·simp[h]
  ·rw[if_neg h,if_neg h];exact zkn l n
theorem zkp: ∀(e:List (List UInt8×Int)) (n:List UInt8) (c:Int),aput (embI e) n (I c)=embI (iput e n c)
 |[],n,c=>rfl
 |(m,d)::l,n,c=>by
  simp only[embI,List.map_cons,aput,iput]
  by_cases h:m=n
  ·simp[h]
  ·rw[if_neg h,if_neg h,List.map_cons];exact congrArg _ (zkp l n c)
theorem zqh: ∀(e:List (List UInt8×Int)) (n:List UInt8) (c:Int),(iput e n c).length=if n∈e.map (·.1)then e.length else e.length+1
 |[],n,c=>by simp[iput]
 |(m,d)::l,n,c=>by
  simp only[iput]
  by_cases h:m=n
  ·simp[h]
  ·rw[if_neg h,List.length_cons,zqh l n c]
   simp only[List.map_cons,List.mem_cons,List.length_cons]
   have h': ¬n=m:=λe=>h e.symm
   simp only[h',false_or]
   split<;>rfl
theorem zqi: ∀(e:List (List UInt8×Int)) (n:List UInt8) (c:Int) (x:List UInt8),x∈(iput e n c).map (·.1)↔x=n\/x∈e.map (·.1)
 |[],n,c,x=>by simp[iput]
 |(m,d)::l,n,c,x=>by
  simp only[iput]
  by_cases h:m=n
  ·subst h;simp
  ·rw[if_neg h]
   simp only[List.map_cons,List.mem_cons,zqi l n c x]
   constructor
   ·rintro(h1 |h1 |h1)<;>simp[h1]
   ·rintro(h1 |h1 |h1)<;>simp[h1]
theorem zjm{N:Int}: ∀(e:List (List UInt8×Int)) (n:List UInt8),(∀p∈e,0<=p.2/\p.2<=N)->0<=N->0<=iget e n/\iget e n<=N
 |[],n,_,h0=>by simp[iget];exact h0
 |(m,c)::l,n,h,h0=>by
  simp only[iget]
  split
  ·exact h _ List.mem_cons_self
  ·exact zjm l n (λp hp=>h p (List.mem_cons_of_mem _ hp)) h0
theorem zs2{N:Int}: ∀(e:List (List UInt8×Int)) (n:List UInt8) (c:Int),(∀p∈e,0<=p.2/\p.2<=N)->0<=c/\c<=N->∀p∈iput e n c,0<=p.2/\p.2<=N
 |[],n,c,_,hc=>by simpa[iput]using hc
 |(m,d)::l,n,c,h,hc=>by
  simp only[iput]
  split
  ·intro p hp
   rcases List.mem_cons.1 hp with rfl |hp
   ·exact hc
   ·exact h p (List.mem_cons_of_mem _ hp)
  ·intro p hp
   rcases List.mem_cons.1 hp with rfl |hp
   ·exact h _ List.mem_cons_self
   ·exact zs2 l n c (λq hq=>h q (List.mem_cons_of_mem _ hq)) hc p hp
def cntS(l:List (List UInt8)):List (List UInt8×Int):=l.foldl (λe x=>iput e x (iget e x+1)) []
theorem zfd(l:List (List UInt8))(x:List UInt8):cntS (l++[x])=iput (cntS l) x (iget (cntS l) x+1):=by simp[cntS]
theorem zk9{α:Type}{p:List α->Prop}(h0:p [])(hs: ∀l x,p l->p (l++[x]))(l:List α):p l:=by
 have: ∀l:List α,p l.reverse:=λl=>by
  induction l with
  |nil=>exact h0
  |cons x l ih=>rw[List.reverse_cons];exact hs _ _ ih
 have:=this l.reverse
 rwa[List.reverse_reverse]at this
theorem zyi(l:List (List UInt8)): ∀x,x∈(cntS l).map (·.1)↔x∈l:=by
 refine zk9 (p:=λl=>∀x,x∈(cntS l).map (·.1)↔x∈l) (by simp[cntS]) (λl y ih x=>?_) l
 rw[zfd,zqi,ih,List.mem_append,List.mem_singleton]
 exact Or.comm
theorem zsq(l:List (List UInt8)): ∀p∈cntS l,0<=p.2/\p.2<=(l.length:Int):=by
 refine zk9 (p:=λl=>∀p∈cntS l,0<=p.2/\p.2<=(l.length:Int)) (by simp[cntS]) (λl y ih=>?_) l
 rw[zfd]
 have h:=zjm (cntS l) y ih (by omega)
 refine zs2 _ _ _ (λp hp=>?_) ?_
 ·have:=ih p hp
  simp only[List.length_append,List.length_cons,List.length_nil]
  omega
 ·simp only[List.length_append,List.length_cons,List.length_nil]
  omega
theorem zpp(l:List (List UInt8)):(cntS l).length<=l.length/\((cntS l).length=l.length↔l.Nodup):=by
 refine zk9 (p:=λl=>(cntS l).length<=l.length/\((cntS l).length=l.length↔l.Nodup)) (by simp[cntS]) (λl x ih=>?_) l
 rw[zfd,zqh,List.nodup_append]
 have hm:=zyi l x
 obtain⟨h1,h2⟩:=ih
 simp only[List.length_append,List.length_cons,List.length_nil]
 split
 ·rename_i h
  refine⟨by omega,?_⟩
  constructor
  ·intro e;omega
  ·rintro⟨_,_,h3⟩
   exact absurd rfl (h3 x (hm.1 h) x (by simp))
 ·rename_i h
  refine⟨by omega,?_⟩
  constructor
  ·intro e
   refine⟨h2.1 (by omega),by simp,λa ha b hb=>?_⟩
   rw[List.mem_singleton.1 hb]
   rintro rfl
   exact h (hm.2 ha)
  ·rintro⟨h3,_,_⟩
   have:=h2.2 h3
   omega
def lvs(t:List Node):List Node:=t.filter isLf
theorem zqp{t:List Node}{j:Nat}(hj:j<t.length):lvs (t.take (j+1))=if isLf (nT t j)=true then lvs (t.take j)++[nT t j]else lvs (t.take j):=by
 unfold lvs
 rw[List.take_succ_eq_append_getElem hj,List.filter_append,z08 hj]
 by_cases h:isLf (nT t j)=true
 ·rw[if_pos h];simp[h]
 ·rw[if_neg h];simp[h]
theorem z2r(t:List Node)(j:Nat):(lvs (t.take j)).length<=j:=Nat.le_trans (List.length_filter_le _ _) (by rw[List.length_take];omega)
abbrev idsL(t:List Node):List (List UInt8):=(lvs t).map λn=>n.leaf.ident
abbrev sgnL(t:List Node):List (List UInt8):=(lvs t).map λn=>n.leaf.sign
def zgx(t:List Node):Bool:=decide ((idsL t).Nodup/\(sgnL t).Nodup)
theorem zj1:Tryz.prog.underlying 146=some (.map 9 3):=by kernel_rfl
theorem zph:Tryz.prog.underlying 9=some .string:=by kernel_rfl
theorem z1h:(Tryz.prog.info? 3).bind (·.zero)=some (.int .i64 0):=by kernel_rfl
def apI(t:List Node)(j:Nat):St:=⟨[(0, .r (nods t)),(3, .own 2),(4, .r (I ((lvs (t.take j)).length:Nat))),(10, .r (nods t)),(11, .r (I t.length)),(12, .r (I j))],[(0,some (.gen (mapG qS (embI (cntS (idsL (t.take j))))))),(1,some (.gen (mapG qS (embI (cntS (sgnL (t.take j))))))),(2,some (.box [.own 0, .own 1]))],3⟩
abbrev apF(t:List Node)(b1 b2:Nat):List (Nat×TF):=[(0, .r (nods t)),(3, .own 2),(4, .r (I 0)),(10, .r (nods t)),(11, .r (I t.length)),(12, .r (I 0)),(1000001, .nm 0 (.map (some b1))),(1000002, .nm 1 (.map (some b2)))]
abbrev apG:List (Nat×Option Ow):=[(0,some (.gen (mapG qS []))),(1,some (.gen (mapG qS [])))]
def apS0(t:List Node)(b1 b2:Nat):St:=⟨apF t b1 b2,apG++[(2,some (.box [.r (.x (.map (some b1))), .r (.x (.map (some b2)))]))],3⟩
theorem z57(t:List Node)(b1 b2:Nat):Sub (apS0 t b1 b2) (apI t 0):=
 (zki (S:=apS0 t b1 b2) (j:=2) (i:=0) (id:=0) (gh:=1000001) (cells:=[.r (.x (.map (some b1))), .r (.x (.map (some b2)))]) rfl rfl rfl rfl).trans
  ((zki (S:=⟨apF t b1 b2,(2,some (.box [.own 0, .r (.x (.map (some b2)))]))::(apS0 t b1 b2).O,3⟩) (j:=2) (i:=1) (id:=1) (gh:=1000002) (cells:=[.own 0, .r (.x (.map (some b2)))]) rfl rfl rfl rfl).trans
  (zac (S:=⟨apF t b1 b2,(2,some (.box [.own 0, .own 1]))::(2,some (.box [.own 0, .r (.x (.map (some b2)))]))::(apS0 t b1 b2).O,3⟩) [(0,0),(1,1),(2,2)] rfl ⟨cr,rfl,cr,cr,cr,cr,trivial⟩ ⟨λ_ _ _ hh=>hh,λ_ _ _ hh=>hh,⟨_,_,rfl,rfl,_,_,rfl,rfl,rfl⟩,trivial⟩))
theorem zpd(n:List UInt8): ∀(w:World) (k:Kp) (v:Value),(ofC (qS n)).at_ w k v->v=qS n:=λw k v h=>by simpa[ofC,RV.at_]using h
set_option maxHeartbeats 1000000 in
theorem z11(t:List Node)(h1:t.length<=1000000):zab Tryz.prog 38 [nods t] (.r (.b (zgx t))):=by
 refine zaa (T:=Tab) mixed Tab_ok Tryz.func38 rfl (by kernel_rfl) ?_
 refine Vcode.run Tab_ok ?_
 refine Vstep.mapGMkN qS 1000001 rfl λb1=>?_
 refine Vstep.mapGMkN qS 1000002 rfl λb2=>?_
 refine zw (apI t) (λj=>j<=t.length) (λj=>t.length-j) 0 (by omega) (Sub.trans (zac (S':=apS0 t b1 b2) [(0,0),(1,1),(2,2)] rfl ⟨cr,rfl,cr,cr,cr,cr,⟨rfl,rfl⟩,⟨rfl,rfl⟩,trivial⟩ ⟨λ_ _ _ hh=>hh,λ_ _ _ hh=>hh,⟨_,_,rfl,cr,_,_,rfl,cr,rfl⟩,trivial⟩) (z57 t b1 b2)) ?_
 intro j hj
 have hl:=z2r t j
 refine zg (λh=>zo ?_) (λh=>zp ?_)
 ·simp only[zb]at h
  have hj':j<t.length:=by omega
  refine zk (by omega) (by omega) (z4p rfl hj') ?_
  refine za rfl rfl ?_
  refine zg (λh2=>zo ?_) (λh2=>zp ?_)
  ·simp only[zb]at h2
   have e:lvs (t.take (j+1))=lvs (t.take j):=by rw[zqp hj',if_neg];unfold isLf;simp only[zb];omega
   have ei:idsL (t.take (j+1))=idsL (t.take j):=by unfold idsL;rw[e]
   have es:sgnL (t.take (j+1))=sgnL (t.take j):=by unfold sgnL;rw[e]
   refine zc (m:=((j+1:Nat):Int)) (by omega) (by omega) ?_
   exact⟨j+1,by omega,by omega,zac [(0,0),(1,1),(2,2)] rfl ⟨cr,rfl,ze (by rw[e]),cr,cr,cr,trivial⟩ ⟨λ_ _ _ hh=>by rw[ei];exact hh,λ_ _ _ hh=>by rw[es];exact hh,⟨_,_,rfl,rfl,_,_,rfl,rfl,rfl⟩,trivial⟩⟩
  ·simp only[zb]at h2
   have e:lvs (t.take (j+1))=lvs (t.take j)++[nT t j]:=by rw[zqp hj',if_pos];unfold isLf;simp only[zb];omega
   have ei:idsL (t.take (j+1))=idsL (t.take j)++[(nT t j).leaf.ident]:=by unfold idsL;rw[e,List.map_append];rfl
   have es:sgnL (t.take (j+1))=sgnL (t.take j)++[(nT t j).leaf.sign]:=by unfold sgnL;rw[e,List.map_append];rfl
   have li:(idsL (t.take j)).length=(lvs (t.take j)).length:=by simp
   have ls:(sgnL (t.take j)).length=(lvs (t.take j)).length:=by simp
   have bi:=zjm (cntS (idsL (t.take j))) (nT t j).leaf.ident (zsq _) (by omega)
   have b2:=zjm (cntS (sgnL (t.take j))) (nT t j).leaf.sign (zsq _) (by omega)
   refine zc (m:=(((lvs (t.take (j+1))).length:Nat):Int)) (by rw[e];simp) (by omega) ?_
   refine Vadr.mk' 0 rfl (by decide) ?_
   refine Vfun.str rfl rfl ?_
   refine Vstep.lookG (q:=qS) (n:=(nT t j).leaf.ident) (I 0) rfl rfl rfl rfl rfl (zpd _) zj1 (zhw zph) z1h (λ_ _=>by simp[RV.at_]) ?_
   rw[zkn]
   refine zc (m:=iget (cntS (idsL (t.take j))) (nT t j).leaf.ident+1) rfl (by omega) ?_
   refine Vstep.putG (q:=qS) (n:=(nT t j).leaf.ident) rfl rfl rfl rfl rfl (zpd _) rfl rfl zj1 (zhw zph) ?_
   rw[zkp,<-zfd,<-ei]
   refine Vadr.mk' 1 rfl (by decide) ?_
   refine Vfun.str rfl rfl ?_
   refine Vstep.lookG (q:=qS) (n:=(nT t j).leaf.sign) (I 0) rfl rfl rfl rfl rfl (zpd _) zj1 (zhw zph) z1h (λ_ _=>by simp[RV.at_]) ?_
   rw[zkn]
   refine zc (m:=iget (cntS (sgnL (t.take j))) (nT t j).leaf.sign+1) rfl (by omega) ?_
   refine Vstep.putG (q:=qS) (n:=(nT t j).leaf.sign) rfl rfl rfl rfl rfl (zpd _) rfl rfl zj1 (zhw zph) ?_
   rw[zkp,<-zfd,<-es]
   refine zc (m:=((j+1:Nat):Int)) (by omega) (by omega) ?_
   exact⟨j+1,by omega,by omega,zac [(0,0),(1,1),(2,2)] rfl ⟨cr,rfl,cr,cr,cr,cr,trivial⟩ ⟨λ_ _ _ hh=>hh,λ_ _ _ hh=>hh,⟨_,_,rfl,rfl,_,_,rfl,rfl,rfl⟩,trivial⟩⟩
 ·simp only[zb]at h
  have ht:t.take j=t:=List.take_of_length_le (by omega)
  have ci:=(zpp (idsL t)).2
  have cs:=(zpp (sgnL t)).2
  have li:(idsL t).length=(lvs t).length:=by simp
  have ls:(sgnL t).length=(lvs t).length:=by simp
  rw[li]at ci
  rw[ls]at cs
  unfold apI
  rw[ht]
  refine Vadr.mk' 0 rfl (by decide) ?_
  refine⟨⟨_,_,zj1⟩,?_⟩
  refine zg (λk1=>?_) (λk1=>?_)
  ·simp only[zb,embI,List.length_map]at k1
   refine Vadr.mk' 1 rfl (by decide) ?_
   refine⟨⟨_,_,zj1⟩,?_⟩
   refine Vcmp.mk' (m:=zgx t) ?_ (cr)
   unfold zgx
   rw[Bool.eq_iff_iff]
   simp only[zb,embI,List.length_map]
   have k2:=ci.1 (by omega)
   constructor
   ·rintro⟨_,h2⟩
    have:=cs.2 h2
    omega
   ·intro h2
    exact⟨k2,cs.1 (by omega)⟩
  ·simp only[zb,embI,List.length_map]at k1
   refine ze (congrArg RV.b (Eq.symm ?_))
   unfold zgx
   simp only[zb]
   rintro⟨h2,_⟩
   have:=ci.2 h2
   omega
end
section
section
variable {P:Program} {T:TT} {B:Bs} {N:Nat} {S0:St} {a:Act} {w:World} {k:Kp} {g:Env} {Q:Exit->Act->World->Prop} {res:RS}
def shE(n:Nat)(e:Edge):Edge:={e with on:=e.on-n}
def shG(n:Nat):Option (Nat×Bool)->Option (Nat×Bool)
 |none=>none
 |some (j,w)=>some (j-n,w)
def shO(n:Nat)(o:Oper):Oper:={o with after:=((o.after.toList.filter λe=>Nat.ble n e.on).map (shE n)).toArray,guard:=shG n o.guard}
theorem z5v(n:Nat)(o:Oper)(K:Act->World->Prop):(shO n o).wp P a w K Q=o.wp P a w K Q:=rfl
theorem z0a(n:Nat)(o:Oper):(shO n o).asks P a w=o.asks P a w:=rfl
theorem zpl(n:Nat)(e:Edge):Region.binds .any (shE n e)=Region.binds .any e:=rfl
theorem zcq{l:Array Bool}{j:Nat}(h:j<l.size):(l.getD j true=false↔¬l.getD j false=true):=by simp[h]
theorem ze1{l:Array Bool}{i j:Nat}(h:i<l.size):(l.setIfInBounds i true).getD j false=true↔(l.getD j false=true\/j=i):=by
 by_cases hji:j=i
 ·subst hji;simp[h]
 ·have:i≠j:=λe=>hji e.symm
  simp[Array.getElem?_setIfInBounds_ne this,hji]
theorem zxp{l:Array Bool}{i fuel:Nat}(h:i<l.size)(hn: ¬l.getD i false=true)(hc:l.toList.count false=fuel+1):(l.setIfInBounds i true).toList.count false=fuel:=by
 have hlt:i<l.toList.length:=by rw[Array.length_toList];exact h
 have hv:l.toList[i]=false:=by
  have:l[i]?=some l[i]:=Array.getElem?_eq_getElem h
  simp[h]at hn
  simpa using hn
 rw[Array.toList_setIfInBounds,List.count_set hlt,hc,hv]
 simp
theorem zkl{big:List Oper}{n:Nat}(hg: ∀i o j want,n<=i->big[i]?=some o->o.guard=some (j,want)->n<=j):
  ∀(fuel:Nat) (listed listed':Array Bool) (a:Act) (w:World),listed.size=big.length->listed'.size=big.length-n->n<=big.length->(∀j,j<n->listed.getD j false=true)->(∀i,listed.getD (n+i) false=listed'.getD i false)->
   wpAny P .any ((big.drop n).map (shO n)).toArray Q fuel listed' a w->wpAny P .any big.toArray Q fuel listed a w:=by
 intro fuel
 have hop: ∀i o,big[n+i]?=some o->((big.drop n).map (shO n)).toArray[i]?=some (shO n o):=λi o h=>by simp[h]
 have down: ∀(listed listed':Array Bool),listed.size=big.length->listed'.size=big.length-n->n<=big.length->(∀j,j<n->listed.getD j false=true)->(∀i,listed.getD (n+i) false=listed'.getD i false)->∀x,x∈Region.ready .any big.toArray listed↔∃i,x=n+i/\i∈Region.ready .any ((big.drop n).map (shO n)).toArray listed':=by
  intro listed listed' h1 h2 h3 h4 h5 x
  rw[mem_ready]
  constructor
  ·rintro⟨hx,o,ho,he⟩
   have hxl:x<big.length:=by have:=(Array.getElem?_eq_some_iff.1 ho).1;simpa using this
   have hxn:n<=x:=Nat.le_of_not_lt λhlt=>(zcq (by omega)).1 hx (h4 x hlt)
   obtain⟨i,rfl⟩:=Nat.exists_eq_add_of_le hxn
   refine⟨i,rfl,mem_ready.2 ⟨?_,shO n o,hop i o (by simpa using ho),λe' he' hb=>?_⟩⟩
   ·rw[zcq (by omega)]
    rw[<-h5 i]
    exact(zcq (by omega)).1 hx
   ·simp only[shO,List.mem_toArray,List.mem_map,List.mem_filter]at he'
    obtain⟨e,⟨hea,hen⟩,rfl⟩:=he'
    have hne:n<=e.on:=Nat.le_of_ble_eq_true hen
    have:=he e (by simpa using hea) (by rw[<-zpl n e];exact hb)
    show listed'.getD (e.on-n) false=true
    rw[<-h5,show n+(e.on-n)=e.on by omega]
    exact this
  ·rintro⟨i,rfl,hi⟩
   obtain⟨hx,o',ho',he'⟩:=mem_ready.1 hi
   have hil:i<big.length-n:=by have:=(Array.getElem?_eq_some_iff.1 ho').1;simpa using this
   have hb:big[n+i]?=some big[n+i]:=List.getElem?_eq_getElem (by omega)
   have:=hop i _ hb
   rw[this]at ho'
   cases ho'
   refine⟨?_,big[n+i],by simp,λe he hbd=>?_⟩
   ·rw[zcq (by omega),h5 i]
    exact(zcq (by omega)).1 hx
   ·rcases Nat.lt_or_ge e.on n with hlt |hge
    ·exact h4 _ hlt
    ·have:=he' (shE n e) (by simp only[shO,List.mem_toArray,List.mem_map,List.mem_filter];exact⟨e,⟨by simpa using he,Nat.ble_eq_true_of_le hge⟩,rfl⟩) (by rw[zpl];exact hbd)
     have e2:(shE n e).on=e.on-n:=rfl
     rw[e2,<-h5,show n+(e.on-n)=e.on by omega]at this
     exact this
 have emp: ∀(listed listed':Array Bool),listed.size=big.length->listed'.size=big.length-n->n<=big.length->(∀j,j<n->listed.getD j false=true)->(∀i,listed.getD (n+i) false=listed'.getD i false)->(Region.ready .any big.toArray listed=[]↔Region.ready .any ((big.drop n).map (shO n)).toArray listed'=[]):=by
  intro listed listed' h1 h2 h3 h4 h5
  constructor
  ·intro h
   refine List.eq_nil_iff_forall_not_mem.2 λi hi=>?_
   have:=(down listed listed' h1 h2 h3 h4 h5 (n+i)).2 ⟨i,rfl,hi⟩
   rw[h]at this
   cases this
  ·intro h
   refine List.eq_nil_iff_forall_not_mem.2 λx hx=>?_
   obtain⟨i,_,hi⟩:=(down listed listed' h1 h2 h3 h4 h5 x).1 hx
   rw[h]at hi
   cases hi
 induction fuel with
 |zero=>
  intro listed listed' a w h1 h2 h3 h4 h5 h
  exact⟨(emp listed listed' h1 h2 h3 h4 h5).2 h.1,h.2⟩
 |succ fuel ih=>
  intro listed listed' a w h1 h2 h3 h4 h5 h
  refine⟨λhe=>h.1 ((emp listed listed' h1 h2 h3 h4 h5).1 he),λx hx=>?_⟩
  obtain⟨i,rfl,hi⟩:=(down listed listed' h1 h2 h3 h4 h5 x).1 hx
  have hw:=h.2 i hi
  obtain⟨_,o',ho',_⟩:=mem_ready.1 hi
  have hil:i<big.length-n:=by have:=(Array.getElem?_eq_some_iff.1 ho').1;simpa using this
  have hb:big[n+i]?=some big[n+i]:=List.getElem?_eq_getElem (by omega)
  have ho:=hop i _ hb
  have next: ∀a' w',wpAny P .any ((big.drop n).map (shO n)).toArray Q fuel (listed'.setIfInBounds i true) a' w'->wpAny P .any big.toArray Q fuel (listed.setIfInBounds (n+i) true) a' w':=λa' w' hh=>by
   refine ih _ _ a' w' (by simpa using h1) (by simpa using h2) h3 (λj hj=>(ze1 (by omega)).2 (.inl (h4 j hj))) (λi'=>?_) hh
   rw[Bool.eq_iff_iff,ze1 (by omega),ze1 (by omega),h5 i']
   constructor
   ·rintro(h |h)
    ·exact .inl h
    ·exact .inr (by omega)
   ·rintro(h |h)
    ·exact .inl h
    ·exact .inr (by omega)
  unfold wpOp at hw⊢
  rw[ho]at hw
  have hba:big.toArray[n+i]?=some big[n+i]:=by simp
  rw[hba]
  simp only at hw⊢
  have hwant:Region.wanted (shO n big[n+i]) (yielded ((big.drop n).map (shO n)).toArray a.tmps)=Region.wanted big[n+i] (yielded big.toArray a.tmps):=by
   unfold Region.wanted
   have e:(shO n big[n+i]).guard=shG n big[n+i].guard:=rfl
   rw[e]
   cases hgd:big[n+i].guard with
   |none=>rfl
   |some q=>
    obtain⟨j,want⟩:=q
    have hnj:=hg (n+i) _ j want (by omega) hb hgd
    simp only[shG]
    have:yielded ((big.drop n).map (shO n)).toArray a.tmps (j-n)=yielded big.toArray a.tmps j:=by
     unfold yielded
     have e1:(((big.drop n).map (shO n)).toArray[j-n]?).bind (·.dst)=(big.toArray[j]?).bind (·.dst):=by
      simp only[List.getElem?_toArray,List.getElem?_map,List.getElem?_drop,show n+(j-n)=j by omega]
      cases big[j]?<;>rfl
     rw[e1]
    rw[this]
  rw[hwant]at hw
  split
  ·rename_i hw1
   rw[if_pos hw1]at hw
   rw[z5v,z0a]at hw
   exact hw.imp (Oper.wp_mono next) id
  ·rename_i hw1
   rw[if_neg hw1]at hw
   exact next _ _ hw
theorem zry(hm:P.follows .mixedOrders=true)(hT:TOk P T){ops:List Oper}{S:St}(hN: ∀o∈ops,∀d,o.dst=some d->d<N){K:St->Prop}(hs:Sat B N S a w k)(hok:zei ops=true)
  (h:rund P T ops (zag [] ops) S.nx 0 ops S [] [] K) (hQ: ∀S' a' w' k',K S'->Sat B N S' a' w' k'->Q .normal a' w'):wpAny P .any ops.toArray Q ops.length (Array.replicate ops.length false) a w:=by
 obtain⟨res,_,hstp,hend,hrun⟩:=zh7 (l:=ops) (S0:=S) (K:=K) ops 0 (λ_=>(.r .any,none)) rfl h
 simp only[Nat.zero_add]at hstp hrun hend
 have hL:=zqo hok
 obtain⟨g,hs⟩:=hs
 have h0: ∀i o,oget S.O i=some o->i<S.nx:=λi o ho=>(hs.owns i o ho).1
 have hnx:S.nx<=idAt ops S res (za6 ops):=by
  have:=zc5 (l:=ops) (S0:=S) (res:=res) (Nat.zero_le (za6 ops)) hL.le
  simpa only[idAt,Ls]using this
 have hf: ∀j,¬(Array.replicate ops.length false).getD j false=true:=λj=>by by_cases hlt:j<ops.length<;>simp[hlt]
 refine zps (Q:=Q) (B:=B) (N:=N) hm hT hN hL (λj hj=>hstp j (Nat.zero_le _) hj) h0 hend hrun hQ ops.length (Array.replicate ops.length false) a w (by simp) (by simp) (λi o hi=>absurd hi (hf i)) (.inl ⟨k,g,fget S.F,oget S.O,?_⟩)
 refine⟨hs.toF hnx,⟨λj t hj=>absurd hj (hf j),λt _=>rfl,λj o hj=>absurd hj (hf j),λi _=>rfl⟩,λt f hf' i hi=> .inl ?_,λi o ho j hj=> .inl ?_,λx o e=>(by cases e),λi _ hh=>absurd hh (hf i)⟩
 ·have:=(hs.facts t f hf').1
  cases f<;>simp[zaf]at hi<;>subst hi<;>exact this
 ·have:=(hs.owns i o ho).2.1
  cases o with
  |ch=>simp[za7]at hj
  |gen=>simp[za7]at hj
  |box cells=>
   obtain⟨f,hf,hid⟩:=List.mem_flatMap.1 hj
   have:=this f hf
   cases f<;>simp[zaf]at hid<;>subst hid<;>exact this
def idxB:List Nat->Nat->Nat
 |[],_=>0
 |x::r,i=>match Nat.beq x i with
  |true=>0
  |false=>idxB r i+1
def perE(p:List Nat)(e:Edge):Edge:={e with on:=idxB p e.on}
def perG(p:List Nat):Option (Nat×Bool)->Option (Nat×Bool)
 |none=>none
 |some (j,w)=>some (idxB p j,w)
def perO(p:List Nat)(k:Nat)(o:Oper):Oper:={o with after:=((o.after.toList.map (perE p)).filter λe=>Nat.blt e.on k).toArray,guard:=perG p o.guard}
def zdf(p:List Nat)(ops:List Oper):Nat->List Nat->List Oper
 |_,[]=>[]
 |k,i::r=>(match lget ops i with
  |some o=>perO p k o
  |none=>default)::zdf p ops (k+1) r
def perB(p:List Nat)(ops:List Oper):Bool:=
 Nat.beq p.length ops.length&&(zdm p&&(allB (λi=>Nat.blt i ops.length) p&&(allB (λi=>memB i p) (List.range ops.length)&&
 allB (λi=>match lget ops i with
  |none=>false
  |some o=>allB (λe=>Nat.blt e i) (zah o)&&(match o.guard with |none=>true |some (j,_)=>Nat.blt j ops.length)) (List.range ops.length))))
theorem zqg: ∀{p:List Nat} {i:Nat},i∈p->p[idxB p i]?=some i
 |[],i,h=>by cases h
 |x::r,i,h=>by
  simp only[idxB]
  split
  ·rename_i hb
   rw[Nat.eq_of_beq_eq_true hb]
   rfl
  ·rename_i hb
   have hne:x≠i:=λe=>by rw[e]at hb;simp at hb
   rw[List.getElem?_cons_succ]
   exact zqg ((List.mem_cons.1 h).resolve_left λe=>hne e.symm)
theorem zg8: ∀{p:List Nat} {k i:Nat},p.Nodup->p[k]?=some i->idxB p i=k
 |[],k,i,_,h=>by simp at h
 |x::r,0,i,_,h=>by
  simp at h
  subst h
  simp[idxB]
 |x::r,k+1,i,hn,h=>by
  rw[List.getElem?_cons_succ]at h
  have hm:=List.mem_of_getElem? h
  have hne:x≠i:=λe=>(List.nodup_cons.1 hn).1 (e▸hm)
  have hb:Nat.beq x i=false:=by
   cases hb:Nat.beq x i with
   |false=>rfl
   |true=>exact absurd (Nat.eq_of_beq_eq_true hb) hne
  simp only[idxB,hb]
  rw[zg8 (List.nodup_cons.1 hn).2 h]
theorem ziz{p:List Nat}{ops:List Oper}: ∀{q:List Nat} {k0 k i:Nat} {o:Oper},q[k]?=some i->ops[i]?=some o->(zdf p ops k0 q)[k]?=some (perO p (k0+k) o)
 |[],k0,k,i,o,h,_=>by simp at h
 |x::r,k0,0,i,o,h,ho=>by
  simp at h
  subst h
  simp only[zdf,zal,ho]
  rfl
 |x::r,k0,k+1,i,o,h,ho=>by
  rw[List.getElem?_cons_succ]at h
  simp only[zdf,List.getElem?_cons_succ]
  rw[ziz h ho,show k0+1+k=k0+(k+1)by omega]
theorem zeb{p:List Nat}{ops:List Oper}: ∀{q:List Nat} {k0:Nat},(zdf p ops k0 q).length=q.length
 |[],_=>rfl
 |x::r,k0=>by simp[zdf,zeb]
theorem z20(p:List Nat)(k':Nat)(o:Oper)(K:Act->World->Prop):(perO p k' o).wp P a w K Q=o.wp P a w K Q:=rfl
theorem zxd(p:List Nat)(k':Nat)(o:Oper):(perO p k' o).asks P a w=o.asks P a w:=rfl
theorem zib{big:List Oper}{p:List Nat}(hlen:p.length=big.length)(hnd:p.Nodup)(hlt: ∀i∈p,i<big.length)(hall: ∀i,i<big.length->i∈p)(hE: ∀i o,big[i]?=some o->∀e∈zah o,e<i)(hg: ∀(i:Nat) (o:Oper) (j:Nat) (want:Bool),big[i]?=some o->o.guard=some (j,want)->j<big.length):
  ∀(fuel:Nat) (listed listed':Array Bool) (a:Act) (w:World),listed.size=big.length->listed'.size=big.length->(∀k i,p[k]?=some i->listed'.getD k false=listed.getD i false)->
   wpAny P .any (zdf p big 0 p).toArray Q fuel listed' a w->wpAny P .any big.toArray Q fuel listed a w:=by
 have hidx: ∀i,i<big.length->p[idxB p i]?=some i:=λi hi=>zqg (hall i hi)
 have hidl: ∀i,i<big.length->idxB p i<big.length:=λi hi=>by
  have:=(List.getElem?_eq_some_iff.1 (hidx i hi)).1
  omega
 have hnew: ∀i o,big[i]?=some o->(zdf p big 0 p).toArray[idxB p i]?=some (perO p (idxB p i) o):=λi o ho=>by
  have hi:=(List.getElem?_eq_some_iff.1 ho).1
  have:=ziz (p:=p) (k0:=0) (hidx i hi) ho
  rw[Nat.zero_add]at this
  simpa using this
 have up: ∀(listed listed':Array Bool),listed.size=big.length->listed'.size=big.length->(∀k i,p[k]?=some i->listed'.getD k false=listed.getD i false)->∀x,x∈Region.ready .any big.toArray listed->x<big.length/\idxB p x∈Region.ready .any (zdf p big 0 p).toArray listed':=by
  intro listed listed' h1 h2 h3 x hx
  obtain⟨hxl,o,ho,he⟩:=mem_ready.1 hx
  have hxb:x<big.length:=by have:=(Array.getElem?_eq_some_iff.1 ho).1;simpa using this
  have hob:big[x]?=some o:=by simpa using ho
  refine⟨hxb,mem_ready.2 ⟨?_,_,hnew x o hob,λe' he' hb=>?_⟩⟩
  ·rw[zcq (by have:=hidl x hxb;omega),h3 _ _ (hidx x hxb)]
   exact(zcq (by omega)).1 hxl
  ·simp only[perO,List.mem_toArray,List.mem_filter,List.mem_map]at he'
   obtain⟨⟨e,hea,rfl⟩,_⟩:=he'
   have hbe:Region.binds .any e=true:=hb
   have hle:e.on<x:=hE x o hob _ (List.mem_filterMap.2 ⟨e,hea,by simp[hbe]⟩)
   show listed'.getD (idxB p e.on) false=true
   rw[h3 _ _ (hidx e.on (by omega))]
   exact he e (by simpa using hea) hbe
 intro fuel
 induction fuel with
 |zero=>
  intro listed listed' a w h1 h2 h3 h
  refine⟨List.eq_nil_iff_forall_not_mem.2 λx hx=>?_,h.2⟩
  have:=(up listed listed' h1 h2 h3 x hx).2
  rw[h.1]at this
  cases this
 |succ fuel ih=>
  intro listed listed' a w h1 h2 h3 h
  refine⟨λhe=>h.1 (List.eq_nil_iff_forall_not_mem.2 λk hk=>?_),λx hx=>?_⟩
  ·obtain⟨hkl,o',ho',_⟩:=mem_ready.1 hk
   have hkb:k<p.length:=by have:=(Array.getElem?_eq_some_iff.1 ho').1;simpa[zeb]using this
   have hpk:p[k]?=some p[k]:=List.getElem?_eq_getElem hkb
   have hun: ¬listed.getD p[k] false=true:=by
    rw[<-h3 k _ hpk]
    exact(zcq (by omega)).1 hkl
   obtain⟨i,⟨hil,hin⟩,hleast⟩:=zd0 (p:=λi=>i<big.length/\¬listed.getD i false=true) ⟨p[k],hlt _ (List.mem_of_getElem? hpk),hun⟩
   have hrd:i∈Region.ready .any big.toArray listed:=by
    refine mem_ready.2 ⟨(zcq (by omega)).2 hin,big[i],by simp[hil],λe he hb=>?_⟩
    have hee:e.on∈zah big[i]:=List.mem_filterMap.2 ⟨e,by simpa using he,by simp[hb]⟩
    have hlt:=hE i _ (List.getElem?_eq_getElem hil) _ hee
    exact Classical.byContradiction λhn=>by
     have:=hleast e.on ⟨by omega,hn⟩
     omega
   rw[he]at hrd
   cases hrd
  ·obtain⟨hxb,hxr⟩:=up listed listed' h1 h2 h3 x hx
   have hw:=h.2 _ hxr
   have hob:big[x]?=some big[x]:=List.getElem?_eq_getElem hxb
   have hil:=hidl x hxb
   have next: ∀a' w',wpAny P .any (zdf p big 0 p).toArray Q fuel (listed'.setIfInBounds (idxB p x) true) a' w'->wpAny P .any big.toArray Q fuel (listed.setIfInBounds x true) a' w':=λa' w' hh=>by
    refine ih _ _ a' w' (by simpa using h1) (by simpa using h2) (λk i hk=>?_) hh
    rw[Bool.eq_iff_iff,ze1 (by omega),ze1 (by omega),h3 k i hk]
    refine or_congr Iff.rfl ⟨λe=>?_,λe=>?_⟩
    ·rw[e,hidx x hxb]at hk
     cases hk;rfl
    ·rw[e]at hk
     exact(zg8 hnd hk).symm
   unfold wpOp at hw⊢
   rw[hnew x _ hob]at hw
   have hba:big.toArray[x]?=some big[x]:=by simp
   rw[hba]
   simp only at hw⊢
   have hwant:Region.wanted (perO p (idxB p x) big[x]) (yielded (zdf p big 0 p).toArray a.tmps)=Region.wanted big[x] (yielded big.toArray a.tmps):=by
    unfold Region.wanted
    have e:(perO p (idxB p x) big[x]).guard=perG p big[x].guard:=rfl
    rw[e]
    cases hgd:big[x].guard with
    |none=>rfl
    |some q=>
     obtain⟨j,want⟩:=q
     have hj:=hg x _ j want hob hgd
     simp only[perG]
     have:yielded (zdf p big 0 p).toArray a.tmps (idxB p j)=yielded big.toArray a.tmps j:=by
      unfold yielded
      rw[hnew j _ (List.getElem?_eq_getElem hj)]
      simp[hj,perO]
     rw[this]
   rw[hwant]at hw
   split
   ·rename_i hw1
    rw[if_pos hw1]at hw
    rw[z20,zxd]at hw
    exact hw.imp (Oper.wp_mono next) id
   ·rename_i hw1
    rw[if_neg hw1]at hw
    exact next _ _ hw
theorem zjq{p:List Nat}{big:List Oper}(h:perB p big=true):p.length=big.length/\p.Nodup/\(∀i∈p,i<big.length)/\(∀i,i<big.length->i∈p)/\(∀i o,big[i]?=some o->∀e∈zah o,e<i)/\(∀(i:Nat) (o:Oper) (j:Nat) (want:Bool),big[i]?=some o->o.guard=some (j,want)->j<big.length):=by
 simp only[perB,Bool.and_eq_true]at h
 obtain⟨k1,k2,k3,k4,k5⟩:=h
 have key: ∀i o,big[i]?=some o->allB (λe=>Nat.blt e i) (zah o)=true/\(match o.guard with |none=>true |some (j,_)=>Nat.blt j big.length)=true:=λi o ho=>by
  have:=(zai.1 k5) i (List.mem_range.2 (List.getElem?_eq_some_iff.1 ho).1)
  rw[zal,ho]at this
  simpa only[Bool.and_eq_true]using this
 refine⟨Nat.eq_of_beq_eq_true k1,zbf k2,λi hi=>Nat.le_of_ble_eq_true (zai.1 k3 i hi),λi hi=>zaq.1 (zai.1 k4 i (List.mem_range.2 hi)),λi o ho e he=>Nat.le_of_ble_eq_true (zai.1 (key i o ho).1 e he),λi o j want ho hg=>?_⟩
 have:=(key i o ho).2
 rw[hg]at this
 exact Nat.le_of_ble_eq_true this
def zbg(p:List Nat)(ops:List Oper):List Oper:=zdf p ops 0 p
def zuu(P:Program)(T:TT)(p:List Nat)(ops:List Oper)(S:St)(K:St->Prop):Prop:=rund P T (zbg p ops) (zag [] (zbg p ops)) S.nx 0 (zbg p ops) S [] [] K
def zpb(p:List Nat)(ops:List Oper):Bool:=perB p ops&&zei (zbg p ops)
theorem ziy{p:List Nat}{ops:List Oper}(hb:perB p ops=true){N:Nat}(hN: ∀o∈ops,∀d,o.dst=some d->d<N): ∀o∈zbg p ops,∀d,o.dst=some d->d<N:=λo ho d hod=>by
 obtain⟨k1,k2,k3,_⟩:=zjq hb
 obtain⟨k,hk⟩:=List.getElem?_of_mem ho
 have hkl:k<p.length:=by have:=(List.getElem?_eq_some_iff.1 hk).1;simpa[zbg,zeb]using this
 have hpk:p[k]?=some p[k]:=List.getElem?_eq_getElem hkl
 have hi:=k3 _ (List.mem_of_getElem? hpk)
 have:=ziz (p:=p) (k0:=0) hpk (List.getElem?_eq_getElem hi)
 rw[show zdf p ops 0 p=zbg p ops from rfl,hk]at this
 cases this
 exact hN _ (List.getElem_mem hi) d hod
theorem zke(hm:P.follows .mixedOrders=true)(hT:TOk P T){ops:List Oper}{S:St}{p:List Nat}(hN: ∀o∈ops,∀d,o.dst=some d->d<N){K:St->Prop}(hs:Sat B N S a w k)(hok:zpb p ops=true)
  (h:zuu P T p ops S K) (hQ: ∀S' a' w' k',K S'->Sat B N S' a' w' k'->Q .normal a' w'):wpAny P .any ops.toArray Q ops.length (Array.replicate ops.length false) a w:=by
 simp only[zpb,Bool.and_eq_true]at hok
 obtain⟨k1,k2,k3,k4,k5,k6⟩:=zjq hok.1
 have hl:(zbg p ops).length=ops.length:=by rw[zbg,zeb,k1]
 have:=zry (Q:=Q) hm hT (ziy hok.1 hN) hs hok.2 h hQ
 rw[hl]at this
 exact zib k1 k2 k3 k4 k5 k6 _ _ _ a w (by simp) (by simp) (λx i hx=>by
  have h1:x<ops.length:=by have:=(List.getElem?_eq_some_iff.1 hx).1;omega
  have h2:=k3 i (List.mem_of_getElem? hx)
  simp[h1,h2]) this
end
end
end Go.Proofs.YtddokcpcpoihmaaGreat.Sx
