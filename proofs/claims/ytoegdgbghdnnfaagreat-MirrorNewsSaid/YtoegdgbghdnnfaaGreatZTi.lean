import Derived.Test.YtoegdgbghdnnfaaGreatZKc
import Derived.Test.YtoegdgbghdnnfaaGreatZQc
import Derived.Test.YtoegdgbghdnnfaaGreatZOnes
import Derived.Test.YtoegdgbghdnnfaaGreatZEq
namespace Go.Proofs.YtoegdgbghdnnfaaGreat.Sx
open Go.RowKit
def zb4(O:List Spot)(n own:Int):List Int:=2*own::zc1 (2*own) n++(zb6 (2*own) n).flatMap λc=>(zbf O n c).1
def z8d(O:List Spot)(n own:Int):Bool:=(2*own::zc1 (2*own) n).all (found O)&&(zb6 (2*own) n).all λc=>(zbf O n c).2
def zdq(O:List Spot)(n own:Int):List Int:=(zb4 O n own).foldl (zee (zb4 O n own)) []
theorem zqh{α:Type}{p:α->Bool}{l:List α}{j:Nat}(hj:j<l.length):(l.take (j+1)).all p=((l.take j).all p&&p l[j]):=by
 rw[zir hj,List.all_append];simp
theorem zko{O:List Spot}{n own:Int}(hf:zck n=true)(h0:0<=own)(h1:own<n): ∀x∈zb4 O n own,zbt x=true:=λx hx=>by
 rcases List.mem_append.1 hx with h |h
 ·exact z8g (s:=⟨n,own,[],[]⟩) hf h0 h1 x h
 ·obtain⟨c,hc,hx⟩:=List.mem_flatMap.1 h
  exact z0q O n c (zh2 hf h0 h1 c hc) x hx
theorem z4u{O:List Spot}(hOl:zgx O){n own:Int}(hf:zck n=true)(h0:0<=own)(h1:own<n):(zb4 O n own).length<=3300000000000:=by
 have hpl:=zin (2*own) n
 have hcl:=zkm (2*own) n
 have:=zqp (f:=λc=>(zbf O n c).1) (b:=190000000000) (zb6 (2*own) n) λc hc=>ztc _ hOl _ _ (zh2 hf h0 h1 c hc)
 simp only[zb4,bL,List.length_cons]
 omega
set_option maxHeartbeats 1000000 in
theorem zdkb(O:List Spot)(n own:Int)(hO:O.length<=1000000)(hOl:zgx O)(hf:zck n=true)(h0:0<=own)(h1:own<n):
  bG 64 [zcw O,I n,I own, .b false] (.r (.tu [is (za8 (zb4 O n own)),is (za8 (zdq O n own)), .b (z8d O n own)])):=by
 refine bT Tryz.func64 rfl ?_
 have hn:=zdc hf
 have hpl:=zin (2*own) n
 have hcl:=zkm (2*own) n
 have hcn:=zh2 hf h0 h1
 have hLn:=zko (O:=O) hf h0 h1
 have hLl:=z4u hOl hf h0 h1
 obtain⟨P,hP⟩: ∃P,P=2*own::zc1 (2*own) n:=⟨_,rfl⟩
 obtain⟨C,hC⟩: ∃C,C=zb6 (2*own) n:=⟨_,rfl⟩
 have hPl:P.length<=18:=by rw[hP,List.length_cons];omega
 have hB:z8d O n own=(P.all (found O)&&C.all λc=>(zbf O n c).2):=by rw[hP,hC];rfl
 have hOL:zb4 O n own=P++C.flatMap λc=>(zbf O n c).1:=by rw[hP,hC];rfl
 refine zd rfl (by omega) ?_
 refine zy ?_
 refine zd rfl (by omega) ?_
 refine ze (zlv _ _) ?_
 refine Vapp.mk' (j:=P.length) (zs:=P.map I) (by simp[maxLen];omega) (by simp;omega) (by rw[hP];simp;omega) (by rw[hP];rfl) ?_
 refine zd rfl (by omega) ?_
 refine ze (zrx _ _) ?_
 rw[<-hC]at hcl hcn⊢
 have hCl:C.length<=17:=by omega
 refine Vloop.mk' (λi:Nat×Bool=>{F:=[(0, .r (zcw O)),(1, .r (I n)),(2, .r (I own)),(3, .r (.b false)),(11, .own 0),(12, .r (is C)),(13, .r (.b i.2)),(14, .r (I i.1))],O:=[(0,some (.ch 3 1 P.length (P.map I) true))],nx:=1})
  (λi=>i.1<=P.length/\i.2=(P.take i.1).all (found O)) (λi=>P.length-i.1) (0,true) ⟨by simp,rfl⟩
  (zac [(0,_)] rfl ⟨cr,cr,cr,cr,rfl,cr,cr,cr,trivial⟩ ⟨zau rfl,trivial⟩) ?_
 rintro⟨j,β⟩ ⟨hj,hβ⟩
 simp only at hj hβ
 refine zh (λh2=>zq ?_) (λh2=>zt ?_)
 ·simp only[zb]at h2
  have hj':j<P.length:=by omega
  have hsn:=zqh (p:=found O) hj'
  rw[<-hβ]at hsn
  refine zm (by omega) (by omega) (zaj rfl hj') (zg rfl ?_)
  have gf:=zge O P[j] (by omega)
  cases hfd:zaf O P[j]with
  |none=>
   rw[hfd]at gf
   refine ze gf ?_
   have hfo:found O P[j]=false:=by simp[found,hfd]
   rw[hfo]at hsn
   cases β with
   |true=>
    refine zd (m:=((j+1:Nat):Int)) (by omega) (by omega) ?_
    exact⟨(j+1,false),⟨hj',by rw[hsn];rfl⟩,by simp only;omega,zac [(0,_)] rfl ⟨cr,cr,cr,cr,rfl,cr,cr,cr,trivial⟩ ⟨zau rfl,trivial⟩⟩
   |false=>
    refine zd (m:=((j+1:Nat):Int)) (by omega) (by omega) ?_
    exact⟨(j+1,false),⟨hj',by rw[hsn];rfl⟩,by simp only;omega,zac [(0,_)] rfl ⟨cr,cr,cr,cr,rfl,cr,cr,cr,trivial⟩ ⟨zau rfl,trivial⟩⟩
  |some y=>
   rw[hfd]at gf
   refine ze gf ?_
   have hfo:found O P[j]=true:=by simp[found,hfd]
   rw[hfo]at hsn
   cases β with
   |true=>
    refine zd (m:=((j+1:Nat):Int)) (by omega) (by omega) ?_
    exact⟨(j+1,true),⟨hj',by rw[hsn];rfl⟩,by simp only;omega,zac [(0,_)] rfl ⟨cr,cr,cr,cr,rfl,cr,cr,cr,trivial⟩ ⟨zau rfl,trivial⟩⟩
   |false=>
    refine zd (m:=((j+1:Nat):Int)) (by omega) (by omega) ?_
    exact⟨(j+1,false),⟨hj',by rw[hsn];rfl⟩,by simp only;omega,zac [(0,_)] rfl ⟨cr,cr,cr,cr,rfl,cr,cr,cr,trivial⟩ ⟨zau rfl,trivial⟩⟩
 simp only[zb]at h2
 rw[List.take_of_length_le (by omega)]at hβ
 have hWl: ∀c∈C,(zbf O n c).1.length<=190000000000:=λc hc=>ztc _ hOl _ _ (hcn c hc)
 refine Vloop.mk' (λi:Nat×Bool=>{F:=[(0, .r (zcw O)),(1, .r (I n)),(2, .r (I own)),(3, .r (.b false)),(11, .own 0),(12, .r (is C)),(13, .r (.b i.2)),(17, .r (I i.1))],O:=[(0,some (.ch 3 1 (P++(C.take i.1).flatMap λc=>(zbf O n c).1).length ((P++(C.take i.1).flatMap λc=>(zbf O n c).1).map I) true))],nx:=1})
  (λi=>i.1<=C.length/\i.2=(β&&(C.take i.1).all λc=>(zbf O n c).2)) (λi=>C.length-i.1) (0,β) ⟨by simp,by simp⟩
  (zac [(0,0)] rfl ⟨cr,cr,cr,cr,rfl,cr,cr,cr,trivial⟩ ⟨zau (by simp),trivial⟩) ?_
 rintro⟨i,γ⟩ ⟨hi,hγ⟩
 simp only at hi hγ
 have hfl4:=zqp (f:=λc=>(zbf O n c).1) (b:=190000000000) (C.take i) λc hc=>hWl c (List.mem_of_mem_take hc)
 have htl4:(C.take i).length<=17:=by rw[List.length_take];omega
 refine zh (λh5=>?_) (λh5=>zt ?_)
 ·simp only[zb]at h5
  refine zu rfl (zq ?_)
  have hi':i<C.length:=by omega
  have hw:=hWl _ (List.getElem_mem hi')
  have hsn:=z50 (f:=λc=>(zbf O n c).1) hi'
  have hsa:=zqh (p:=λc=>(zbf O n c).2) hi'
  refine zm (by omega) (by omega) (zaj rfl hi') (zg rfl ?_)
  refine ze (zabb O hO hOl n _ (hcn _ (List.getElem_mem hi'))) ?_
  obtain⟨W,hW⟩: ∃W,W=P++(C.take (i+1)).flatMap λc=>(zbf O n c).1:=⟨_,rfl⟩
  have hWe:W=(P++(C.take i).flatMap λc=>(zbf O n c).1)++(zbf O n C[i]).1:=by rw[hW,hsn,List.append_assoc]
  refine Vapp.mk' (j:=W.length) (zs:=W.map I) (by simp only[maxLen,bL];omega) (by simp only[bL];omega) (by rw[hWe];simp only[bL]) (by rw[hWe];simp only[List.map_append]) ?_
  cases hb:(zbf O n C[i]).2 with
  |false=>
   simp only[hb]at hsa
   cases γ with
   |true=>
    refine zd (m:=((i+1:Nat):Int)) (by omega) (by omega) ?_
    exact⟨(i+1,false),⟨hi',by rw[hsa];simp⟩,by simp only;omega,zac [(0,_)] rfl ⟨cr,cr,cr,cr,rfl,cr,zf (by first|rfl|simp),cr,trivial⟩ ⟨zau hW,trivial⟩⟩
   |false=>
    refine zd (m:=((i+1:Nat):Int)) (by omega) (by omega) ?_
    exact⟨(i+1,false),⟨hi',by rw[hsa];simp⟩,by simp only;omega,zac [(0,_)] rfl ⟨cr,cr,cr,cr,rfl,cr,zf (by first|rfl|simp),cr,trivial⟩ ⟨zau hW,trivial⟩⟩
  |true=>
   simp only[hb,Bool.and_true]at hsa
   rw[<-hsa]at hγ
   cases γ with
   |true=>
    refine zd (m:=((i+1:Nat):Int)) (by omega) (by omega) ?_
    exact⟨(i+1,true),⟨hi',hγ⟩,by simp only;omega,zac [(0,_)] rfl ⟨cr,cr,cr,cr,rfl,cr,zf (by first|rfl|simp),cr,trivial⟩ ⟨zau hW,trivial⟩⟩
   |false=>
    refine zd (m:=((i+1:Nat):Int)) (by omega) (by omega) ?_
    exact⟨(i+1,false),⟨hi',hγ⟩,by simp only;omega,zac [(0,_)] rfl ⟨cr,cr,cr,cr,rfl,cr,zf (by first|rfl|simp),cr,trivial⟩ ⟨zau hW,trivial⟩⟩
 simp only[zb]at h5
 rw[List.take_of_length_le (by omega)]at hγ
 rw[List.take_of_length_le (by omega)]
 rw[hβ,<-hB]at hγ
 rw[<-hOL]
 have hSe:zdq O n own=(zb4 O n own).foldl (zee (zb4 O n own)) []:=rfl
 obtain⟨L,hL⟩: ∃L,L=zb4 O n own:=⟨_,rfl⟩
 rw[<-hL]at hLn hLl hSe⊢
 obtain⟨SH,hSH⟩: ∃SH,SH=zdq O n own:=⟨_,rfl⟩
 rw[<-hSH]at hSe⊢
 refine Vloop.mk' (λi:Nat×List Int=>{F:=[(0, .r (zcw O)),(1, .r (I n)),(2, .r (I own)),(3, .r (.b false)),(11, .r (is L)),(13, .r (.b γ)),(20, .own 0),(21, .r (I i.1))],O:=[(0,some (.ch 3 1 i.2.length (i.2.map I) true))],nx:=1})
  (λi=>i.1<=L.length/\(L.take i.1).foldl (zee L) []=i.2) (λi=>L.length-i.1) (0,[]) ⟨by simp,rfl⟩
  ((zb7 20 3 1 rfl).trans (zac [(0,1)] rfl ⟨cr,cr,cr,cr,cr,cr,rfl,cr,trivial⟩ ⟨⟨rfl,rfl,rfl,rfl,zn _⟩,trivial⟩)) ?_
 rintro⟨i5,acc⟩ ⟨hi5,hacc⟩
 simp only at hi5 hacc
 have hinv:=zqv (all:=L) (L.take i5) [] (by simp)
 rw[hacc]at hinv
 have htl:(L.take i5).length<=L.length:=by rw[List.length_take];omega
 have hal:acc.length<=6600000000000:=by have:=hinv.2;simp at this;omega
 refine zh (λh6=>zq ?_) (λh6=>zt ?_)
 ·simp only[zb]at h6
  have hi':i5<L.length:=by omega
  have hsn:=zfb (f:=zee L) (b:=[]) hi'
  rw[hacc]at hsn
  obtain⟨x,hx⟩: ∃x,x=L[i5]:=⟨_,rfl⟩
  rw[<-hx]at hsn
  refine zm (by omega) (by omega) (zaj rfl hi') (zg rfl ?_)
  rw[<-hx]
  refine ze (ze4 x) ?_
  obtain⟨a,ha⟩: ∃a,a=zbw x:=⟨_,rfl⟩
  obtain⟨b,hb⟩: ∃b,b=zbo x:=⟨_,rfl⟩
  have hsn2:(L.take (i5+1)).foldl (zee L) []=addK L (addK L acc a) b:=by rw[hsn,ha,hb];rfl
  rw[<-ha,<-hb]
  refine zh (λh7=>?_) (λh7=>zt ?_)
  ·simp only[zb]at h7
   refine Vcall.bool (zfo L a (by omega)) (λh8=>zw rfl (zt ?_)) (λh8=>zu rfl (zq ?_))
   ·simp only[zb]at h8
    have e1:addK L acc a=acc:=by unfold addK;rw[if_neg (λh=>h.2 h8)]
    rw[e1]at hsn2
    refine zh (λh9=>?_) (λh9=>zt ?_)
    ·simp only[zb]at h9
     refine Vcall.bool (zfo L b (by omega)) (λh10=>zw rfl (zt ?_)) (λh10=>zu rfl (zq ?_))
     ·simp only[zb]at h10
      have e2:addK L (acc) b=acc:=by unfold addK;rw[if_neg (λh=>h.2 h10)]
      rw[e2]at hsn2
      refine zd (m:=((i5+1:Nat):Int)) (by omega) (by omega) ?_
      exact⟨(i5+1,acc),⟨hi',hsn2⟩,by simp only;omega,zac [(0,_)] rfl ⟨cr,cr,cr,cr,cr,cr,rfl,cr,trivial⟩ ⟨zau rfl,trivial⟩⟩
     ·simp only[zb]at h10
      have e2:addK L (acc) b=acc++[b]:=by unfold addK;rw[if_pos ⟨by omega,h10⟩]
      rw[e2]at hsn2
      refine zy ?_
      refine Vapp.mk' (j:=(acc++[b]).length) (zs:=(acc++[b]).map I) (by simp only[maxLen,bL,List.length_cons,List.length_nil];omega) (by simp;omega) (by simp) (by simp[zbl,cellsOf]) ?_
      refine zd (m:=((i5+1:Nat):Int)) (by omega) (by omega) ?_
      exact⟨(i5+1,acc++[b]),⟨hi',hsn2⟩,by simp only;omega,zac [(0,_)] rfl ⟨cr,cr,cr,cr,cr,cr,rfl,cr,trivial⟩ ⟨zau rfl,trivial⟩⟩
    ·simp only[zb]at h9
     have e2:addK L (acc) b=acc:=by unfold addK;rw[if_neg (λh=>by omega)]
     rw[e2]at hsn2
     refine zd (m:=((i5+1:Nat):Int)) (by omega) (by omega) ?_
     exact⟨(i5+1,acc),⟨hi',hsn2⟩,by simp only;omega,zac [(0,_)] rfl ⟨cr,cr,cr,cr,cr,cr,rfl,cr,trivial⟩ ⟨zau rfl,trivial⟩⟩
   ·simp only[zb]at h8
    have e1:addK L acc a=acc++[a]:=by unfold addK;rw[if_pos ⟨by omega,h8⟩]
    rw[e1]at hsn2
    refine zy ?_
    refine Vapp.mk' (j:=(acc++[a]).length) (zs:=(acc++[a]).map I) (by simp only[maxLen,bL,List.length_cons,List.length_nil];omega) (by simp;omega) (by simp) (by simp[zbl,cellsOf]) ?_
    refine zh (λh9=>?_) (λh9=>zt ?_)
    ·simp only[zb]at h9
     refine Vcall.bool (zfo L b (by omega)) (λh10=>zw rfl (zt ?_)) (λh10=>zu rfl (zq ?_))
     ·simp only[zb]at h10
      have e2:addK L (acc++[a]) b=acc++[a]:=by unfold addK;rw[if_neg (λh=>h.2 h10)]
      rw[e2]at hsn2
      refine zd (m:=((i5+1:Nat):Int)) (by omega) (by omega) ?_
      exact⟨(i5+1,acc++[a]),⟨hi',hsn2⟩,by simp only;omega,zac [(0,_)] rfl ⟨cr,cr,cr,cr,cr,cr,rfl,cr,trivial⟩ ⟨zau rfl,trivial⟩⟩
     ·simp only[zb]at h10
      have e2:addK L (acc++[a]) b=acc++[a]++[b]:=by unfold addK;rw[if_pos ⟨by omega,h10⟩]
      rw[e2]at hsn2
      refine zy ?_
      refine Vapp.mk' (j:=(acc++[a]++[b]).length) (zs:=(acc++[a]++[b]).map I) (by simp only[maxLen,bL,List.length_cons,List.length_nil];omega) (by simp;omega) (by simp) (by simp[zbl,cellsOf]) ?_
      refine zd (m:=((i5+1:Nat):Int)) (by omega) (by omega) ?_
      exact⟨(i5+1,acc++[a]++[b]),⟨hi',hsn2⟩,by simp only;omega,zac [(0,_)] rfl ⟨cr,cr,cr,cr,cr,cr,rfl,cr,trivial⟩ ⟨zau rfl,trivial⟩⟩
    ·simp only[zb]at h9
     have e2:addK L (acc++[a]) b=acc++[a]:=by unfold addK;rw[if_neg (λh=>by omega)]
     rw[e2]at hsn2
     refine zd (m:=((i5+1:Nat):Int)) (by omega) (by omega) ?_
     exact⟨(i5+1,acc++[a]),⟨hi',hsn2⟩,by simp only;omega,zac [(0,_)] rfl ⟨cr,cr,cr,cr,cr,cr,rfl,cr,trivial⟩ ⟨zau rfl,trivial⟩⟩
  ·simp only[zb]at h7
   have e1:addK L acc a=acc:=by unfold addK;rw[if_neg (λh=>by omega)]
   rw[e1]at hsn2
   refine zh (λh9=>?_) (λh9=>zt ?_)
   ·simp only[zb]at h9
    refine Vcall.bool (zfo L b (by omega)) (λh10=>zw rfl (zt ?_)) (λh10=>zu rfl (zq ?_))
    ·simp only[zb]at h10
     have e2:addK L (acc) b=acc:=by unfold addK;rw[if_neg (λh=>h.2 h10)]
     rw[e2]at hsn2
     refine zd (m:=((i5+1:Nat):Int)) (by omega) (by omega) ?_
     exact⟨(i5+1,acc),⟨hi',hsn2⟩,by simp only;omega,zac [(0,_)] rfl ⟨cr,cr,cr,cr,cr,cr,rfl,cr,trivial⟩ ⟨zau rfl,trivial⟩⟩
    ·simp only[zb]at h10
     have e2:addK L (acc) b=acc++[b]:=by unfold addK;rw[if_pos ⟨by omega,h10⟩]
     rw[e2]at hsn2
     refine zy ?_
     refine Vapp.mk' (j:=(acc++[b]).length) (zs:=(acc++[b]).map I) (by simp only[maxLen,bL,List.length_cons,List.length_nil];omega) (by simp;omega) (by simp) (by simp[zbl,cellsOf]) ?_
     refine zd (m:=((i5+1:Nat):Int)) (by omega) (by omega) ?_
     exact⟨(i5+1,acc++[b]),⟨hi',hsn2⟩,by simp only;omega,zac [(0,_)] rfl ⟨cr,cr,cr,cr,cr,cr,rfl,cr,trivial⟩ ⟨zau rfl,trivial⟩⟩
   ·simp only[zb]at h9
    have e2:addK L (acc) b=acc:=by unfold addK;rw[if_neg (λh=>by omega)]
    rw[e2]at hsn2
    refine zd (m:=((i5+1:Nat):Int)) (by omega) (by omega) ?_
    exact⟨(i5+1,acc),⟨hi',hsn2⟩,by simp only;omega,zac [(0,_)] rfl ⟨cr,cr,cr,cr,cr,cr,rfl,cr,trivial⟩ ⟨zau rfl,trivial⟩⟩
 simp only[zb]at h6
 rw[List.take_of_length_le (by omega)]at hacc
 have hse:acc=SH:=by rw[hSe,<-hacc]
 subst hse
 refine ze (zi1 L (by omega)) ?_
 refine ze (zi1 acc (by omega)) ?_
 rw[<-hγ]
 exact⟨_,rfl,cr⟩
theorem za9{P:Program}{f:FuncId}{n0 n1:Nat}{O0 O1:List (Nat×Ow)}{args:List TF}{names names':List (Nat×Value)}{res:TF}(e:names=names')(h:Acts P f n0 O0 args names n1 O1 res):Acts P f n0 O0 args names' n1 O1 res:=e▸h
theorem z6j(u x:Int)(hu:za6 u):bG 222 [I u, .ptr [I x]] (.r (.b (!za2 (2*u) x))):=by
 refine bT Tryz.func222 rfl ?_
 unfold za6 at hu
 refine zd rfl (by omega) ?_
 refine zg rfl ?_
 refine ze (zk4 (2*u) x) ?_
 exact Vcmp.mk' rfl (cr)
theorem zdlb(u x:Int)(hu:za6 u):bG 218 [I u, .ptr [I x]] (.r (.b (za2 (2*u) x))):=by
 refine bT Tryz.func218 rfl ?_
 unfold za6 at hu
 refine zd rfl (by omega) ?_
 refine zg rfl ?_
 refine ze (zk4 (2*u) x) ?_
 exact cr
theorem zr1(l:List Int)(x:Int)(hl:l.length<=1000000000)(hd: ∀u∈l,za6 u):bG 160 [is l,I x] (.r (.b (l.any λu=>za2 (2*u) x))):=by
 refine bT Tryz.func160 rfl ?_
 refine Vstep.sub (zd7 (t:=3) [I x] rfl rfl) (Vstep.mkfun I za6 _ rfl rfl (λu hu=>zdlb u x hu) ?_)
 refine ze (zhm l za6 _ hl hd) ?_
 exact cr
theorem z9z(x:Int)(n:Node)(hn:n.fit):bG 166 [I x, .ag n.c] (.r (.b (zcy x n))):=by
 refine bT Tryz.func166 rfl ?_
 refine za rfl rfl ?_
 refine ze (zfc n hn) ?_
 have clo:=λ(u:Int) (hu:za6 u)=>z6j u x hu
 cases hr:n.right with
 |false=>
  refine⟨by decide,_,rfl,?_⟩
  refine zh (λh=>zq ?_) (λh=>zt ?_)
  ·refine zw rfl ?_
   exact zf (congrArg RV.b (by simp[zcy,hr]))
  ·refine zw rfl ?_
   exact zf (congrArg RV.b (by simp[zcy,hr]))
 |true=>
  have hlate:=Node.right_late hr
  have hll:n.par.late.length<=1000000000:=by have:=hn.2.2.2.1;omega
  have fin: ∀{β:Bool},β=n.par.late.any (λu=> !za2 (2*u) x)->n.kind.toNat≠zf0 x->(!β)=zcy x n:=λhb hk=>by
   subst hb
   rw[zc2b]
   simp[zcy,hr,hk]
  refine⟨by decide,_,rfl,?_⟩
  refine zh (λh=>zq ?_) (λh=>zt ?_)
  ·simp only[zb]at h
   refine zu rfl ?_
   refine zh (λh2=>?_) (λh2=>?_)
   ·simp only[zb]at h2
    refine Vstep.sub (zd7 (t:=2) [I x] rfl rfl) (Vstep.mkfun I za6 _ rfl rfl clo ?_)
    refine ze (zhm n.par.late za6 _ hll hlate) ?_
    exact Vcmp.mk' rfl (zf (congrArg RV.b (fin rfl (by simp[zf0,h];omega))))
   ·simp only[zb]at h2
    refine zf (congrArg RV.b ?_)
    have:n.kind.toNat=zf0 x:=by simp[zf0,h];omega
    simp[zcy,this]
  ·simp only[zb]at h
   refine zu rfl ?_
   refine zh (λh2=>?_) (λh2=>?_)
   ·simp only[zb]at h2
    refine Vstep.sub (zd7 (t:=2) [I x] rfl rfl) (Vstep.mkfun I za6 _ rfl rfl clo ?_)
    refine ze (zhm n.par.late za6 _ hll hlate) ?_
    exact Vcmp.mk' rfl (zf (congrArg RV.b (fin rfl (by simp[zf0,h];omega))))
   ·simp only[zb]at h2
    refine zf (congrArg RV.b ?_)
    have:n.kind.toNat=zf0 x:=by simp[zf0,h];omega
    simp[zcy,this]
def zdo(O:List Spot)(x:Int):Node:=(zaf O x).getD Node.zero
abbrev pbox(leaves own:Int)(O:List Spot)(H:List Stub):Ow:= .box [.r (I leaves), .r (I own), .r (.s (mapS (zby O))), .r (.s (mapS (zbx H)))]
theorem g_at(pv:Value)(leaves own:Int)(O:List Spot)(H:List Stub)(x:Int):Acts bP 167 1 [(0,pbox leaves own O H)] [.r (I x), .own 0] [(0,pv)] 2 [(0,pbox leaves own O H)] (.r (.tu [.ag (zdo O x).c, .b (found O x)])):=by
 refine zaz (T:=Tab) mixed Tab_ok Tryz.func167 rfl (by kernel_rfl) rfl ⟨⟨_,_,rfl,rfl,zai,zai⟩,trivial⟩ ?_
 refine Vstep.node2 rfl rfl rfl (λm hm=>?_) (λhm=>?_)
 ·refine za rfl rfl ?_
  have e1:zdo O x=m:=by unfold zdo;rw[hm];rfl
  have e2:found O x=true:=by unfold found;rw[hm];rfl
  rw[e1,e2]
  exact zaw (.inl rfl) [(0,0),(1,1)] [(3, .own 1),(4, .r (.b true))] [(1,some (.box (m.c.map .r)))] rfl ⟨rfl,cr,⟨rfl,rfl⟩,trivial⟩ ⟨(bC bZ),(bD (bB bZ)),trivial⟩ ⟨⟨1000000,rfl⟩,trivial⟩ (za rfl rfl ⟨_,rfl,cr⟩)
 ·refine za rfl rfl ?_
  have e1:zdo O x=Node.zero:=by unfold zdo;rw[hm];rfl
  have e2:found O x=false:=by unfold found;rw[hm];rfl
  rw[e1,e2]
  exact zaw (.inl rfl) [(0,0),(1,1)] [(3, .own 1),(4, .r (.b false))] [(1,some (.box (zc.map .r)))] rfl ⟨rfl,cr,⟨rfl,rfl⟩,trivial⟩ ⟨(bC bZ),(bD (bB bZ)),trivial⟩ ⟨⟨1000000,rfl⟩,trivial⟩ (za rfl rfl ⟨_,rfl,Cv.tu (zk zpw (zn _))⟩)
end Go.Proofs.YtoegdgbghdnnfaaGreat.Sx
