import Derived.Test.YtoegdgbghdnnfaaGreatZKc
import Derived.Test.YtoegdgbghdnnfaaGreatZKq
import Derived.Test.YtoegdgbghdnnfaaGreatZSha
import Derived.Test.YtoegdgbghdnnfaaGreatZSxNm
namespace Go.Proofs.YtoegdgbghdnnfaaGreat.Sx
open Go.RowKit
def upL(n u:Int):List Int:=2*u::zc1 (2*u) n
def zbq(O:List Spot)(x:Int)(a:List Int×Bool)(z:Int):List Int×Bool:=if z≠x/\za2 z x=true/\z∉a.1 then(a.1++[z],a.2&&(zaf O z).isSome)else a
def zc8(O:List Spot)(x n:Int)(late:List Int)(a:List Int×Bool):List Int×Bool:=late.foldl (λa u=>(upL n u).foldl (zbq O x) a) a
def zax(O:List Spot)(n:Int):Nat->Nat->List Int×Bool
 |0,k=>match zaf O (nd 0 k)with
  |none=>([],false)
  |some y=>zc8 O (nd 0 k) n y.par.late ([(nd 0 k:Int)],true)
 |h+1,k=>match zaf O (nd (h+1) k)with
  |none=>([],false)
  |some y=>if y.kind.toNat=0 then([(nd (h+1) k:Int)]++(zax O n h (2*k)).1++(zax O n h (2*k+1)).1,(zax O n h (2*k)).2&&(zax O n h (2*k+1)).2)
   else zc8 O (nd (h+1) k) n y.par.late ([(nd (h+1) k:Int)],true)
theorem zfb{α β:Type}{f:β->α->β}{b:β}{l:List α}{j:Nat}(hj:j<l.length):(l.take (j+1)).foldl f b=f ((l.take j).foldl f b) l[j]:=by
 rw[List.take_add_one,List.getElem?_eq_getElem hj,List.foldl_append];rfl
theorem zug(n u:Int):(upL n u).length<=18:=by
 have:=zin (2*u) n
 simp[upL];omega
theorem znm(O:List Spot)(hO:O.length<=1000000)(x n:Int)(y:Node)(hy:zaf O x=some y)(hk: ¬(y.kind.toNat=0/\x.tmod 2=1))(hl:y.par.late.length<=65536)(hd: ∀u∈y.par.late,za6 u):
  bG 105 [zcw O,I x,I n] (.r (.tu [is (zc8 O x n y.par.late ([x],true)).1, .b (zc8 O x n y.par.late ([x],true)).2])):=by
 refine bT Tryz.func105 rfl ?_
 have hfind:=zge O x (by omega)
 rw[hy]at hfind
 refine ze hfind ?_
 refine zw rfl (zt ?_)
 refine zy ?_
 refine zh (λh0=>?_) (λh0=>zt ?_)
 ·simp only[zb]at h0
  refine⟨by decide,_,rfl,?_⟩
  have hodd: ¬x.tmod 2=1:=λe=>hk ⟨by omega,e⟩
  refine zw (by simp only[zb];exact hodd) (zt ?_)
  refine Vloop.mk' (λi:Nat×List Int×Bool=>{F:=[(0, .r (zcw O)),(1, .r (I x)),(2, .r (I n)),(8, .own 0),(9, .r (.b i.2.2)),(10, .own 1),(17, .r (I i.1))],O:=[(0,some (.box (y.c.map .r))),(1,some (.ch 3 1 i.2.1.length (i.2.1.map I) true))],nx:=2})
   (λi=>i.1<=y.par.late.length/\zc8 O x n (y.par.late.take i.1) ([x],true)=(i.2.1,i.2.2)/\i.2.1.length<=1+18*i.1) (λi=>y.par.late.length-i.1) (0,[x],true) ⟨by simp,rfl,by simp⟩
   (zac [(0,0),(1,1)] rfl ⟨cr,cr,cr,rfl,cr,rfl,cr,trivial⟩ ⟨zae y.c,⟨rfl,rfl,rfl,rfl,zn _⟩,trivial⟩) ?_
  rintro⟨i,out0,ok0⟩ ⟨hi,hacc0,hlen0⟩
  simp only at hi hacc0 hlen0
  refine zh (λh1=>zq ?_) (λh1=>zt ?_)
  ·simp only[zb]at h1
   have hi':i<y.par.late.length:=by omega
   have hu:=hd _ (List.getElem_mem hi')
   unfold za6 at hu
   refine zm (by omega) (by omega) (zaj rfl hi') (zg rfl ?_)
   refine zd rfl (by omega) ?_
   refine zy ?_
   refine ze (zlv _ _) ?_
   obtain⟨u,hue⟩: ∃u,u=y.par.late[i]:=⟨_,rfl⟩
   have hul:=zug n u
   refine Vapp.mk' (j:=(upL n u).length) (zs:=(upL n u).map I) (by rw[<-hue];simp only[upL,List.length_cons,maxLen]at*;omega) (by rw[<-hue];simp only[upL,List.length_cons]at*;omega) (by rw[<-hue];simp only[upL,List.length_cons];omega) (by rw[<-hue];rfl) ?_
   refine Vloop.mk' (λq:Nat×List Int×Bool=>{F:=[(0, .r (zcw O)),(1, .r (I x)),(2, .r (I n)),(8, .own 0),(9, .r (.b q.2.2)),(10, .own 1),(17, .r (I i)),(19, .r (is (upL n u))),(20, .r (I q.1))],O:=[(0,some (.box (y.c.map .r))),(1,some (.ch 3 1 q.2.1.length (q.2.1.map I) true))],nx:=2})
    (λq=>q.1<=(upL n u).length/\((upL n u).take q.1).foldl (zbq O x) (out0,ok0)=(q.2.1,q.2.2)/\q.2.1.length<=1+18*i+q.1) (λq=>(upL n u).length-q.1) (0,out0,ok0) ⟨by simp,rfl,by simp only;omega⟩
    (zac [(0,0),(1,1)] rfl ⟨cr,cr,cr,rfl,cr,rfl,cr,cr,cr,trivial⟩ ⟨zae y.c,zau rfl,trivial⟩) ?_
   rintro⟨j,out,ok⟩ ⟨hj,hacc,hlen⟩
   simp only at hj hacc hlen
   refine zh (λh2=>zq ?_) (λh2=>zt ?_)
   ·simp only[zb]at h2
    have hj':j< (upL n u).length:=by omega
    have hsn:=zfb (f:=zbq O x) (b:=(out0,ok0)) hj'
    rw[hacc]at hsn
    obtain⟨z,hz⟩: ∃z,z=(upL n u)[j]:=⟨_,rfl⟩
    rw[<-hz]at hsn
    refine zm (by omega) (by omega) (zaj rfl hj') (zg rfl ?_)
    rw[<-hz]
    refine zh (λh3=>?_) (λh3=>zt ?_)
    ·simp only[zb]at h3
     refine zm (by omega) (by omega) (zaj rfl hj') (zg rfl ?_)
     rw[<-hz]
     refine Vcall.bool (zij z x) (λh4=>?_) (λh4=>zt ?_)
     ·refine zm (by omega) (by omega) (zaj rfl hj') (zg rfl ?_)
      rw[<-hz]
      refine Vcall.bool (zfo out z (by omega)) (λh5=>zw rfl (zt ?_)) (λh5=>zu rfl (zq ?_))
      ·simp only[zb]at h5
       refine zd (m:=((j+1:Nat):Int)) (by omega) (by omega) ?_
       exact⟨(j+1,out,ok),⟨hj',by rw[hsn];simp only[zbq];rw[if_neg (λh=>h.2.2 h5)],by simp only;omega⟩,by simp only;omega,zac [(0,0),(1,1)] rfl ⟨cr,cr,cr,rfl,cr,rfl,cr,cr,cr,trivial⟩ ⟨zae y.c,zau rfl,trivial⟩⟩
      ·simp only[zb]at h5
       have hst:zbq O x (out,ok) z=(out++[z],ok&&(zaf O z).isSome):=by simp only[zbq];rw[if_pos ⟨h3,h4,h5⟩]
       rw[hst]at hsn
       refine zm (by omega) (by omega) (zaj rfl hj') (zg rfl ?_)
       rw[<-hz]
       refine zy ?_
       refine Vapp.mk' (j:=(out++[z]).length) (zs:=(out++[z]).map I) (by simp only[maxLen];omega) (by simp;omega) (by simp) (by simp[zbl,cellsOf]) ?_
       refine zm (by omega) (by omega) (zaj rfl hj') (zg rfl ?_)
       rw[<-hz]
       refine ze (zge O z (by omega)) ?_
       have hle:(out++[z]).length<=1+18*i+(j+1):=by simp;omega
       cases hfz:zaf O z with
       |none=>
        rw[hfz]at hsn
        cases ok with
        |false=>
         refine zd (m:=((j+1:Nat):Int)) (by omega) (by omega) ?_
         exact⟨(j+1,out++[z],false),⟨hj',hsn,hle⟩,by simp only;omega,zac [(0,0),(1,_)] rfl ⟨cr,cr,cr,rfl,cr,rfl,cr,cr,cr,trivial⟩ ⟨zae y.c,zau rfl,trivial⟩⟩
        |true=>
         refine zd (m:=((j+1:Nat):Int)) (by omega) (by omega) ?_
         exact⟨(j+1,out++[z],false),⟨hj',hsn,hle⟩,by simp only;omega,zac [(0,0),(1,_)] rfl ⟨cr,cr,cr,rfl,cr,rfl,cr,cr,cr,trivial⟩ ⟨zae y.c,zau rfl,trivial⟩⟩
       |some m=>
        rw[hfz]at hsn
        cases ok with
        |false=>
         refine zd (m:=((j+1:Nat):Int)) (by omega) (by omega) ?_
         exact⟨(j+1,out++[z],false),⟨hj',hsn,hle⟩,by simp only;omega,zac [(0,0),(1,_)] rfl ⟨cr,cr,cr,rfl,cr,rfl,cr,cr,cr,trivial⟩ ⟨zae y.c,zau rfl,trivial⟩⟩
        |true=>
         refine zd (m:=((j+1:Nat):Int)) (by omega) (by omega) ?_
         exact⟨(j+1,out++[z],true),⟨hj',hsn,hle⟩,by simp only;omega,zac [(0,0),(1,_)] rfl ⟨cr,cr,cr,rfl,cr,rfl,cr,cr,cr,trivial⟩ ⟨zae y.c,zau rfl,trivial⟩⟩
     ·refine zd (m:=((j+1:Nat):Int)) (by omega) (by omega) ?_
      exact⟨(j+1,out,ok),⟨hj',by rw[hsn];simp only[zbq];rw[if_neg (λh=>by rw[h4]at h;cases h.2.1)],by simp only;omega⟩,by simp only;omega,zac [(0,0),(1,1)] rfl ⟨cr,cr,cr,rfl,cr,rfl,cr,cr,cr,trivial⟩ ⟨zae y.c,zau rfl,trivial⟩⟩
    ·simp only[zb]at h3
     refine zd (m:=((j+1:Nat):Int)) (by omega) (by omega) ?_
     exact⟨(j+1,out,ok),⟨hj',by rw[hsn];simp only[zbq];rw[if_neg (λh=>h.1 h3)],by simp only;omega⟩,by simp only;omega,zac [(0,0),(1,1)] rfl ⟨cr,cr,cr,rfl,cr,rfl,cr,cr,cr,trivial⟩ ⟨zae y.c,zau rfl,trivial⟩⟩
   ·simp only[zb]at h2
    rw[List.take_of_length_le (by omega)]at hacc
    have hsn:=zfb (f:=λa u=>(upL n u).foldl (zbq O x) a) (b:=([x],true)) hi'
    have hacc0':(y.par.late.take i).foldl (λa u=>(upL n u).foldl (zbq O x) a) ([x],true)=(out0,ok0):=hacc0
    rw[hacc0',<-hue,hacc]at hsn
    refine zd (m:=((i+1:Nat):Int)) (by omega) (by omega) ?_
    exact⟨(i+1,out,ok),⟨hi',hsn,by simp only;omega⟩,by simp only;omega,zac [(0,0),(1,1)] rfl ⟨cr,cr,cr,rfl,cr,rfl,cr,trivial⟩ ⟨zae y.c,zau rfl,trivial⟩⟩
  ·simp only[zb]at h1
   rw[List.take_of_length_le (by omega)]at hacc0
   rw[hacc0]
   exact⟨_,rfl,cr⟩
 ·refine Vloop.mk' (λi:Nat×List Int×Bool=>{F:=[(0, .r (zcw O)),(1, .r (I x)),(2, .r (I n)),(8, .own 0),(9, .r (.b i.2.2)),(10, .own 1),(17, .r (I i.1))],O:=[(0,some (.box (y.c.map .r))),(1,some (.ch 3 1 i.2.1.length (i.2.1.map I) true))],nx:=2})
   (λi=>i.1<=y.par.late.length/\zc8 O x n (y.par.late.take i.1) ([x],true)=(i.2.1,i.2.2)/\i.2.1.length<=1+18*i.1) (λi=>y.par.late.length-i.1) (0,[x],true) ⟨by simp,rfl,by simp⟩
   (zac [(0,0),(1,1)] rfl ⟨cr,cr,cr,rfl,cr,rfl,cr,trivial⟩ ⟨zae y.c,⟨rfl,rfl,rfl,rfl,zn _⟩,trivial⟩) ?_
  rintro⟨i,out0,ok0⟩ ⟨hi,hacc0,hlen0⟩
  simp only at hi hacc0 hlen0
  refine zh (λh1=>zq ?_) (λh1=>zt ?_)
  ·simp only[zb]at h1
   have hi':i<y.par.late.length:=by omega
   have hu:=hd _ (List.getElem_mem hi')
   unfold za6 at hu
   refine zm (by omega) (by omega) (zaj rfl hi') (zg rfl ?_)
   refine zd rfl (by omega) ?_
   refine zy ?_
   refine ze (zlv _ _) ?_
   obtain⟨u,hue⟩: ∃u,u=y.par.late[i]:=⟨_,rfl⟩
   have hul:=zug n u
   refine Vapp.mk' (j:=(upL n u).length) (zs:=(upL n u).map I) (by rw[<-hue];simp only[upL,List.length_cons,maxLen]at*;omega) (by rw[<-hue];simp only[upL,List.length_cons]at*;omega) (by rw[<-hue];simp only[upL,List.length_cons];omega) (by rw[<-hue];rfl) ?_
   refine Vloop.mk' (λq:Nat×List Int×Bool=>{F:=[(0, .r (zcw O)),(1, .r (I x)),(2, .r (I n)),(8, .own 0),(9, .r (.b q.2.2)),(10, .own 1),(17, .r (I i)),(19, .r (is (upL n u))),(20, .r (I q.1))],O:=[(0,some (.box (y.c.map .r))),(1,some (.ch 3 1 q.2.1.length (q.2.1.map I) true))],nx:=2})
    (λq=>q.1<=(upL n u).length/\((upL n u).take q.1).foldl (zbq O x) (out0,ok0)=(q.2.1,q.2.2)/\q.2.1.length<=1+18*i+q.1) (λq=>(upL n u).length-q.1) (0,out0,ok0) ⟨by simp,rfl,by simp only;omega⟩
    (zac [(0,0),(1,1)] rfl ⟨cr,cr,cr,rfl,cr,rfl,cr,cr,cr,trivial⟩ ⟨zae y.c,zau rfl,trivial⟩) ?_
   rintro⟨j,out,ok⟩ ⟨hj,hacc,hlen⟩
   simp only at hj hacc hlen
   refine zh (λh2=>zq ?_) (λh2=>zt ?_)
   ·simp only[zb]at h2
    have hj':j< (upL n u).length:=by omega
    have hsn:=zfb (f:=zbq O x) (b:=(out0,ok0)) hj'
    rw[hacc]at hsn
    obtain⟨z,hz⟩: ∃z,z=(upL n u)[j]:=⟨_,rfl⟩
    rw[<-hz]at hsn
    refine zm (by omega) (by omega) (zaj rfl hj') (zg rfl ?_)
    rw[<-hz]
    refine zh (λh3=>?_) (λh3=>zt ?_)
    ·simp only[zb]at h3
     refine zm (by omega) (by omega) (zaj rfl hj') (zg rfl ?_)
     rw[<-hz]
     refine Vcall.bool (zij z x) (λh4=>?_) (λh4=>zt ?_)
     ·refine zm (by omega) (by omega) (zaj rfl hj') (zg rfl ?_)
      rw[<-hz]
      refine Vcall.bool (zfo out z (by omega)) (λh5=>zw rfl (zt ?_)) (λh5=>zu rfl (zq ?_))
      ·simp only[zb]at h5
       refine zd (m:=((j+1:Nat):Int)) (by omega) (by omega) ?_
       exact⟨(j+1,out,ok),⟨hj',by rw[hsn];simp only[zbq];rw[if_neg (λh=>h.2.2 h5)],by simp only;omega⟩,by simp only;omega,zac [(0,0),(1,1)] rfl ⟨cr,cr,cr,rfl,cr,rfl,cr,cr,cr,trivial⟩ ⟨zae y.c,zau rfl,trivial⟩⟩
      ·simp only[zb]at h5
       have hst:zbq O x (out,ok) z=(out++[z],ok&&(zaf O z).isSome):=by simp only[zbq];rw[if_pos ⟨h3,h4,h5⟩]
       rw[hst]at hsn
       refine zm (by omega) (by omega) (zaj rfl hj') (zg rfl ?_)
       rw[<-hz]
       refine zy ?_
       refine Vapp.mk' (j:=(out++[z]).length) (zs:=(out++[z]).map I) (by simp only[maxLen];omega) (by simp;omega) (by simp) (by simp[zbl,cellsOf]) ?_
       refine zm (by omega) (by omega) (zaj rfl hj') (zg rfl ?_)
       rw[<-hz]
       refine ze (zge O z (by omega)) ?_
       have hle:(out++[z]).length<=1+18*i+(j+1):=by simp;omega
       cases hfz:zaf O z with
       |none=>
        rw[hfz]at hsn
        cases ok with
        |false=>
         refine zd (m:=((j+1:Nat):Int)) (by omega) (by omega) ?_
         exact⟨(j+1,out++[z],false),⟨hj',hsn,hle⟩,by simp only;omega,zac [(0,0),(1,_)] rfl ⟨cr,cr,cr,rfl,cr,rfl,cr,cr,cr,trivial⟩ ⟨zae y.c,zau rfl,trivial⟩⟩
        |true=>
         refine zd (m:=((j+1:Nat):Int)) (by omega) (by omega) ?_
         exact⟨(j+1,out++[z],false),⟨hj',hsn,hle⟩,by simp only;omega,zac [(0,0),(1,_)] rfl ⟨cr,cr,cr,rfl,cr,rfl,cr,cr,cr,trivial⟩ ⟨zae y.c,zau rfl,trivial⟩⟩
       |some m=>
        rw[hfz]at hsn
        cases ok with
        |false=>
         refine zd (m:=((j+1:Nat):Int)) (by omega) (by omega) ?_
         exact⟨(j+1,out++[z],false),⟨hj',hsn,hle⟩,by simp only;omega,zac [(0,0),(1,_)] rfl ⟨cr,cr,cr,rfl,cr,rfl,cr,cr,cr,trivial⟩ ⟨zae y.c,zau rfl,trivial⟩⟩
        |true=>
         refine zd (m:=((j+1:Nat):Int)) (by omega) (by omega) ?_
         exact⟨(j+1,out++[z],true),⟨hj',hsn,hle⟩,by simp only;omega,zac [(0,0),(1,_)] rfl ⟨cr,cr,cr,rfl,cr,rfl,cr,cr,cr,trivial⟩ ⟨zae y.c,zau rfl,trivial⟩⟩
     ·refine zd (m:=((j+1:Nat):Int)) (by omega) (by omega) ?_
      exact⟨(j+1,out,ok),⟨hj',by rw[hsn];simp only[zbq];rw[if_neg (λh=>by rw[h4]at h;cases h.2.1)],by simp only;omega⟩,by simp only;omega,zac [(0,0),(1,1)] rfl ⟨cr,cr,cr,rfl,cr,rfl,cr,cr,cr,trivial⟩ ⟨zae y.c,zau rfl,trivial⟩⟩
    ·simp only[zb]at h3
     refine zd (m:=((j+1:Nat):Int)) (by omega) (by omega) ?_
     exact⟨(j+1,out,ok),⟨hj',by rw[hsn];simp only[zbq];rw[if_neg (λh=>h.1 h3)],by simp only;omega⟩,by simp only;omega,zac [(0,0),(1,1)] rfl ⟨cr,cr,cr,rfl,cr,rfl,cr,cr,cr,trivial⟩ ⟨zae y.c,zau rfl,trivial⟩⟩
   ·simp only[zb]at h2
    rw[List.take_of_length_le (by omega)]at hacc
    have hsn:=zfb (f:=λa u=>(upL n u).foldl (zbq O x) a) (b:=([x],true)) hi'
    have hacc0':(y.par.late.take i).foldl (λa u=>(upL n u).foldl (zbq O x) a) ([x],true)=(out0,ok0):=hacc0
    rw[hacc0',<-hue,hacc]at hsn
    refine zd (m:=((i+1:Nat):Int)) (by omega) (by omega) ?_
    exact⟨(i+1,out,ok),⟨hi',hsn,by simp only;omega⟩,by simp only;omega,zac [(0,0),(1,1)] rfl ⟨cr,cr,cr,rfl,cr,rfl,cr,trivial⟩ ⟨zae y.c,zau rfl,trivial⟩⟩
  ·simp only[zb]at h1
   rw[List.take_of_length_le (by omega)]at hacc0
   rw[hacc0]
   exact⟨_,rfl,cr⟩
theorem zv7(O:List Spot)(x n:Int): ∀(late:List Int) (a:List Int×Bool),(zc8 O x n late a).1.length<=a.1.length+18*late.length:=by
 have one: ∀(l:List Int) (a:List Int×Bool),(l.foldl (zbq O x) a).1.length<=a.1.length+l.length:=by
  intro l
  induction l with
  |nil=>intro a;simp
  |cons z l ih=>
   intro a
   have:=ih (zbq O x a z)
   have h1:(zbq O x a z).1.length<=a.1.length+1:=by unfold zbq;split<;>simp
   simp only[List.foldl_cons,List.length_cons]
   omega
 intro late
 induction late with
 |nil=>intro a;simp[zc8]
 |cons u late ih=>
  intro a
  have h1:=ih ((upL n u).foldl (zbq O x) a)
  have h2:=one (upL n u) a
  have h3:=zug n u
  simp only[zc8,List.foldl_cons,List.length_cons]at*
  omega
def zgx(O:List Spot):Prop:=∀s∈O,s.node.par.late.length<=65536/\∀u∈s.node.par.late,za6 u
theorem zhk(O:List Spot)(hO:zgx O)(n:Int): ∀h k,(zax O n h k).1.length<=1400000*2^(h+1)-1400000
 |0,k=>by
  unfold zax
  split
  ·simp
  ·rename_i y hy
   obtain⟨sp,hsp,_,rfl⟩:=zej hy
   have:=zv7 O (nd 0 k) n sp.node.par.late ([(nd 0 k:Int)],true)
   have:=(hO sp hsp).1
   simp at*;omega
 |h+1,k=>by
  have h1:=zhk O hO n h (2*k)
  have h2:=zhk O hO n h (2*k+1)
  have hp:=zag (h+1)
  rw[Nat.pow_succ 2 (h+1)]
  unfold zax
  split
  ·simp
  ·rename_i y hy
   obtain⟨sp,hsp,_,rfl⟩:=zej hy
   split
   ·simp;omega
   ·have:=zv7 O (nd (h+1) k) n sp.node.par.late ([(nd (h+1) k:Int)],true)
    have:=(hO sp hsp).1
    simp at*;omega
theorem z4x{h:Nat}(hh:h<=16):2^(h+1)<=131072:=Nat.pow_le_pow_right (n:=2) (by omega) (show h+1<=17 by omega)
theorem zwd(O:List Spot)(hO:O.length<=1000000)(hOl:zgx O)(n:Int)(h:Nat)(hh:h+1<=16)(ih: ∀k,k<2^(16-h)->bG 105 [zcw O,I (nd h k),I n] (.r (.tu [is (zax O n h k).1, .b (zax O n h k).2])))
  (k:Nat) (hk:k<2^(16-(h+1))) (y:Node) (hy:zaf O (nd (h+1) k)=some y) (hy0:y.kind.toNat=0):
  bG 105 [zcw O,I (nd (h+1) k),I n] (.r (.tu [is (zax O n (h+1) k).1, .b (zax O n (h+1) k).2])):=by
 refine bT Tryz.func105 rfl ?_
 have hleft:=zd4 (d:=16) (by omega) (show h+1<=16 by omega) hk
 have hright:=zdn (d:=16) (by omega) (show h+1<=16 by omega) hk
 have hk2:2^(16-h)=2*2^(16-(h+1)):=by rw[show 16-h=(16-(h+1))+1 by omega,Nat.pow_succ];omega
 have hfind:=zge O (nd (h+1) k) (by omega)
 rw[hy]at hfind
 have e:zax O n (h+1) k=([(nd (h+1) k:Int)]++(zax O n h (2*k)).1++(zax O n h (2*k+1)).1,(zax O n h (2*k)).2&&(zax O n h (2*k+1)).2):=by
  simp[zax,hy,hy0]
 rw[e]
 have l1:=zhk O hOl n h (2*k)
 have l2:=zhk O hOl n h (2*k+1)
 have p17:=z4x (show h<=16 by omega)
 have g1:=ih (2*k) (by omega)
 have g2:=ih (2*k+1) (by omega)
 obtain⟨p1,b1,e1⟩: ∃p b,zax O n h (2*k)=(p,b):=⟨_,_,rfl⟩
 obtain⟨p2,b2,e2⟩: ∃p b,zax O n h (2*k+1)=(p,b):=⟨_,_,rfl⟩
 rw[e1]at g1 l1
 rw[e2]at g2 l2
 rw[e1,e2]
 simp only at g1 g2 l1 l2⊢
 refine ze hfind ?_
 refine zw rfl (zt ?_)
 refine zy ?_
 refine zu (by simp only[zb];omega) ?_
 refine⟨by decide,_,rfl,?_⟩
 refine zu (by rw[zc4];rfl) (zq ?_)
 refine ze (ze4 _) ?_
 rw[hleft,hright]
 refine ze g1 ?_
 refine ze g2 ?_
 refine Vapp.mk' (j:=([(nd (h+1) k:Int)]++p1).length) (zs:=([(nd (h+1) k:Int)]++p1).map I) (by simp only[maxLen];omega) (by simp;omega) (by simp;omega) (by simp[zbl,cellsOf]) ?_
 refine Vapp.mk' (j:=([(nd (h+1) k:Int)]++p1++p2).length) (zs:=([(nd (h+1) k:Int)]++p1++p2).map I) (by simp[maxLen];omega) (by simp;omega) (by simp;omega) (by simp) ?_
 cases b1<;>exact⟨_,rfl,cr⟩
theorem zdob(O:List Spot)(hO:O.length<=1000000)(hOl:zgx O)(n:Int): ∀(h k:Nat),h<=16->k<2^(16-h)->bG 105 [zcw O,I (nd h k),I n] (.r (.tu [is (zax O n h k).1, .b (zax O n h k).2])):=by
 have none_case: ∀(x:Int),zaf O x=none->bG 105 [zcw O,I x,I n] (.r (.tu [is [], .b false])):=λx hx=>by
  refine bT Tryz.func105 rfl ?_
  have hfind:=zge O x (by omega)
  rw[hx]at hfind
  refine ze hfind ?_
  refine zu rfl (zq ?_)
  exact⟨_,rfl,Cv.tu (zk (Cv.nil 1) (zn _))⟩
 intro h
 induction h with
 |zero=>
  intro k _ hk
  cases hy:zaf O (nd 0 k)with
  |none=>
   have e:zax O n 0 k=([],false):=by simp[zax,hy]
   rw[e];exact none_case _ hy
  |some y=>
   obtain⟨sp,hsp,_,rfl⟩:=zej hy
   have e:zax O n 0 k=zc8 O (nd 0 k) n sp.node.par.late ([(nd 0 k:Int)],true):=by simp[zax,hy]
   rw[e]
   exact znm O hO _ n _ hy (λh=>by rw[zcn]at h;omega) (hOl sp hsp).1 (hOl sp hsp).2
 |succ h ih=>
  intro k hh hk
  cases hy:zaf O (nd (h+1) k)with
  |none=>
   have e:zax O n (h+1) k=([],false):=by simp[zax,hy]
   rw[e];exact none_case _ hy
  |some y=>
   by_cases h0:y.kind.toNat=0
   ·exact zwd O hO hOl n h hh (λk hk=>ih k (by omega) hk) k hk y hy h0
   ·obtain⟨sp,hsp,_,rfl⟩:=zej hy
    have e:zax O n (h+1) k=zc8 O (nd (h+1) k) n sp.node.par.late ([(nd (h+1) k:Int)],true):=by simp[zax,hy,h0]
    rw[e]
    exact znm O hO _ n _ hy (λh=>h0 h.1) (hOl sp hsp).1 (hOl sp hsp).2
def zbf(O:List Spot)(n c:Int):List Int×Bool:=zax O n (lv c.toNat) (c.toNat/2^(lv c.toNat+1))
def addK(all acc:List Int)(c:Int):List Int:=if 0<=c/\c∉all then acc++[c]else acc
def zee(all:List Int)(acc:List Int)(x:Int):List Int:=addK all (addK all acc (zbw x)) (zbo x)
def ownL(s:Lean_):List Int:=2*s.own::zc1 (2*s.own) s.leaves
def allL(s:Lean_):List Int:=ownL s++(zg1 s true).flatMap λc=>(zbf s.opn s.leaves c).1
def zpo(s:Lean_):List Int:=(allL s).foldl (zee (allL s)) []
theorem zabb(O:List Spot)(hO:O.length<=1000000)(hOl:zgx O)(n x:Int)(hx:zbt x=true):bG 105 [zcw O,I x,I n] (.r (.tu [is (zbf O n x).1, .b (zbf O n x).2])):=by
 obtain⟨h,k,hh,hk,e,e1,e2⟩:=zjl hx
 unfold zbf
 rw[e1]at e2⊢
 rw[e2]
 have:=zdob O hO hOl n h k hh hk
 rw[<-e]at this
 exact this
theorem ztc(O:List Spot)(hOl:zgx O)(n x:Int)(hx:zbt x=true):(zbf O n x).1.length<=190000000000:=by
 obtain⟨h,k,hh,hk,e,e1,e2⟩:=zjl hx
 unfold zbf
 have:=zhk O hOl n (lv x.toNat) (x.toNat/2^(lv x.toNat+1))
 have:=z4x (h:=lv x.toNat) (by omega)
 omega
theorem z5h{O:List Spot}{x:Int}: ∀(l:List Int) (a:List Int×Bool),(∀z∈a.1,zbt z=true)->∀z∈(l.foldl (zbq O x) a).1,zbt z=true:=by
 intro l
 induction l with
 |nil=>intro a h;exact h
 |cons y l ih=>
  intro a h
  refine ih _ ?_
  unfold zbq
  split
  ·rename_i hc
   intro z hz
   rcases List.mem_append.1 hz with hz |hz
   ·exact h z hz
   ·simp at hz;subst hz
    have:=hc.2.1
    rw[zmw]at this
    exact this.1.1
  ·exact h
theorem zta{O:List Spot}{x n:Int}: ∀(late:List Int) (a:List Int×Bool),(∀z∈a.1,zbt z=true)->∀z∈(zc8 O x n late a).1,zbt z=true:=by
 intro late
 induction late with
 |nil=>intro a h;exact h
 |cons u late ih=>
  intro a h
  exact ih _ (z5h _ _ h)
theorem zkt(O:List Spot)(n:Int): ∀(h k:Nat),h<=16->k<2^(16-h)->∀z∈(zax O n h k).1,zbt z=true
 |0,k,hh,hk=>by
  unfold zax
  split
  ·simp
  ·exact zta _ _ (by intro z hz;simp at hz;subst hz;exact zeb (d:=16) (by omega) hh hk)
 |h+1,k,hh,hk=>by
  have hk2:2^(16-h)=2*2^(16-(h+1)):=by rw[show 16-h=(16-(h+1))+1 by omega,Nat.pow_succ];omega
  have i1:=zkt O n h (2*k) (by omega) (by omega)
  have i2:=zkt O n h (2*k+1) (by omega) (by omega)
  have i0:=zeb (d:=16) (by omega) hh hk
  unfold zax
  split
  ·simp
  ·split
   ·intro z hz
    simp only[List.mem_append,List.mem_cons,List.not_mem_nil,or_false]at hz
    rcases hz with(rfl |hz) |hz
    ·exact i0
    ·exact i1 z hz
    ·exact i2 z hz
   ·exact zta _ _ (by intro z hz;simp at hz;subst hz;exact i0)
theorem z0q(O:List Spot)(n x:Int)(hx:zbt x=true): ∀z∈(zbf O n x).1,zbt z=true:=by
 obtain⟨h,k,hh,hk,e,e1,e2⟩:=zjl hx
 unfold zbf
 rw[e1]at e2⊢
 rw[e2]
 exact zkt O n h k hh hk
theorem z8g{s:Lean_}(hf:zck s.leaves=true)(h0:0<=s.own)(h1:s.own<s.leaves): ∀x∈ownL s,zbt x=true:=by
 have hb:=zdc hf
 intro x hx
 rcases List.mem_cons.1 hx with rfl |hx
 ·rw[zdk];omega
 ·have:=zbob hx
  rw[zdk];omega
theorem zw3(all acc:List Int)(c:Int):(addK all acc c).length<=acc.length+1:=by unfold addK;split<;>simp
theorem z0u{all acc:List Int}{c:Int}(h: ∀x∈acc,0<=x): ∀x∈addK all acc c,0<=x:=by
 unfold addK
 split
 ·rename_i hc
  intro x hx
  rcases List.mem_append.1 hx with hx |hx
  ·exact h x hx
  ·simp at hx;subst hx;exact hc.1
 ·exact h
theorem zqv{all:List Int}: ∀(l acc:List Int),(∀x∈acc,0<=x)->(∀x∈l.foldl (zee all) acc,0<=x)/\(l.foldl (zee all) acc).length<=acc.length+2*l.length:=by
 intro l
 induction l with
 |nil=>intro acc h;exact⟨h,by simp⟩
 |cons y l ih=>
  intro acc h
  have h1:=ih (zee all acc y) (z0u (z0u h))
  have h2:=zw3 all (addK all acc (zbw y)) (zbo y)
  have h3:=zw3 all acc (zbw y)
  refine⟨h1.1,?_⟩
  have:=h1.2
  simp only[List.foldl_cons,List.length_cons,zee]at*
  omega
theorem zqp{f:Int->List Int}{b:Nat}: ∀(l:List Int),(∀x∈l,(f x).length<=b)->(l.flatMap f).length<=b*l.length
 |[],_=>by simp
 |x::l,h=>by
  have h1:=h x (by simp)
  have h2:=zqp l λy hy=>h y (by simp[hy])
  simp only[List.flatMap_cons,List.length_append,List.length_cons,Nat.mul_add]
  omega
theorem z50{f:Int->List Int}{l:List Int}{j:Nat}(hj:j<l.length):(l.take (j+1)).flatMap f=(l.take j).flatMap f++f l[j]:=by
 rw[List.take_add_one,List.getElem?_eq_getElem hj,List.flatMap_append];simp
end Go.Proofs.YtoegdgbghdnnfaaGreat.Sx

namespace Go.Proofs.YtoegdgbghdnnfaaGreat
theorem zig(x t:Nat):x/2^t%2=(x.testBit t).toNat:=by
 rw[Nat.testBit_eq_decide_div_mod_eq]
 have:x/2^t%2<2:=Nat.mod_lt _ (by omega)
 by_cases h:x/2^t%2=1
 ·simp[h]
 ·simp[h];omega
theorem zyo(x t:Nat):x%2^(t+1)=x%2^t+x/2^t%2*2^t:=by rw[Nat.pow_succ,Nat.mod_mul,Nat.mul_comm]
theorem zexb{e t:Nat}(he:e<4294967296)(ht:t<32):(4294967295-e).testBit t= !e.testBit t:=by
 have h:=Nat.testBit_two_pow_sub_succ (x:=e) (n:=32) (by simpa using he) t
 rw[show 2^32-(e+1)=4294967295-e by omega]at h
 rw[h];simp[ht]
theorem zdab{e f g t:Nat}(he:e<4294967296)(ht:t<32):
  (e/2^t%2=1->chN e f g%2^(t+1)=chN e f g%2^t+f/2^t%2*2^t)/\(¬e/2^t%2=1->chN e f g%2^(t+1)=chN e f g%2^t+g/2^t%2*2^t):=by
 have hb:(chN e f g).testBit t=((e.testBit t&&f.testBit t)^^(!e.testBit t&&g.testBit t)):=by
  unfold chN
  rw[Nat.testBit_xor,Nat.testBit_and,Nat.testBit_and,zexb he ht]
 rw[zyo,zig e,zig f,zig g,zig (chN e f g),hb]
 cases e.testBit t<;>cases f.testBit t<;>cases g.testBit t<;>simp
theorem zma{a b c t:Nat}:
  (2<=a/2^t%2+b/2^t%2+c/2^t%2->majN a b c%2^(t+1)=majN a b c%2^t+2^t)/\(¬2<=a/2^t%2+b/2^t%2+c/2^t%2->majN a b c%2^(t+1)=majN a b c%2^t):=by
 have hb:(majN a b c).testBit t=(((a.testBit t&&b.testBit t)^^(a.testBit t&&c.testBit t))^^(b.testBit t&&c.testBit t)):=by
  unfold majN
  rw[Nat.testBit_xor,Nat.testBit_xor,Nat.testBit_and,Nat.testBit_and,Nat.testBit_and]
 rw[zyo,zig a,zig b,zig c,zig (majN a b c),hb]
 cases a.testBit t<;>cases b.testBit t<;>cases c.testBit t<;>simp
end Go.Proofs.YtoegdgbghdnnfaaGreat

namespace Go.Proofs.YtoegdgbghdnnfaaGreat.Sx
open Go.RowKit
def us(l:List Nat):RV:= .sl 1 l.length (l.map U64)
theorem Vbits.xor{a b:Int}{K:Int->Prop}(x y:Nat)(ha:a=(x:Int))(hb:b=(y:Int))(hx:x<18446744073709551616)(hy:y<18446744073709551616)(hK:K ((x^^^y:Nat):Int)):Vbits .u64 .xor a b K:=by
 subst ha;subst hb
 refine⟨_,?_,hK⟩
 have hxy:x^^^y<18446744073709551616:=Nat.xor_lt_two_pow (n:=64) hx hy
 have e: ∀z:Nat,z<18446744073709551616->(BitVec.ofInt 64 (z:Int)).toNat=z:=λz hz=>by
  rw[BitVec.toNat_ofInt];omega
 show((x^^^y:Nat):Int)=IntKind.u64.wrap (((BitVec.ofInt 64 (x:Int)^^^BitVec.ofInt 64 (y:Int)).toNat:Nat):Int)
 rw[BitVec.toNat_xor,e x hx,e y hy,zgs hxy]
theorem zsw{x:Nat}:rotr 0 x=x:=by simp[rotr,Nat.mod_one]
theorem z40{x i:Nat}(hi:i<32):rotr (i+1) x=rotr i x/2+rotr i x%2*2147483648:=by
 unfold rotr
 have h1:x/2^(i+1)=x/2^i/2:=by rw[Nat.pow_succ,Nat.div_div_eq_div_mul]
 have h2:x%2^(i+1)=x%2^i+2^i*(x/2^i%2):=by rw[Nat.pow_succ,Nat.mod_mul]
 have h3:2^(32-i)=2*2^(32-(i+1)):=by rw[show 32-i=(32-(i+1))+1 by omega,Nat.pow_succ,Nat.mul_comm]
 have h4:2^i*2^(32-(i+1))=2147483648:=by rw[<-Nat.pow_add,show i+(32-(i+1))=31 by omega]
 rw[h1,h2,h3]
 generalize x/2^i=r
 generalize x%2^i=m
 generalize 2^(32-(i+1))=p at*
 generalize 2^i=q at*
 have e1:m*(2*p)=2*(m*p):=by rw[Nat.mul_left_comm]
 have e2:(m+q*(r%2))*p=m*p+r%2*2147483648:=by
  rw[Nat.add_mul,<-h4,Nat.mul_comm q,Nat.mul_assoc]
 rw[e1,e2]
 omega
theorem zb3{x:Nat}(hx:x<4294967296): ∀{n:Nat},n<=31->rotr n x<4294967296
 |0,_=>by rw[zsw];exact hx
 |n+1,h=>zb2 hx (by omega) h
theorem zgf(x n:Nat)(hx:x<4294967296)(hn:n<=31):bG 147 [U64 x,I n] (.r (U64 (rotr n x))):=by
 refine bT Tryz.func147 rfl ?_
 refine Vloop.mk' (λj:Nat=>{F:=[(0, .r (U64 (rotr j x))),(1, .r (I n)),(5, .r (I j))],O:=[],nx:=0}) (λj=>j<=n) (λj=>n-j) 0 (by omega) (zac [] rfl ⟨zf (by rw[zsw]),cr,cr,trivial⟩ trivial) ?_
 intro j hj
 refine zh (λh=>zq ?_) (λh=>zt ?_)
 ·simp only[zb]at h
  have hr:=zb3 hx (show j<=31 by omega)
  refine Vquo.nat (rotr j x) 2 rfl rfl (by omega) (by omega) ?_
  refine Vrem.nat (rotr j x) 2 rfl rfl (by omega) ?_
  refine Vint.u64 (rotr j x%2*2147483648) (by omega) (by omega) ?_
  refine Vint.u64 (rotr j x/2+rotr j x%2*2147483648) (by omega) (by omega) ?_
  refine zd (m:=((j+1:Nat):Int)) (by omega) (by omega) ?_
  exact⟨j+1,by omega,by omega,zac [] rfl ⟨zf (by rw[z40 (by omega)]),cr,cr,trivial⟩ trivial⟩
 ·simp only[zb]at h
  obtain rfl:j=n:=by omega
  exact cr
theorem z1d(x n:Nat)(hx:x<4294967296)(hn:n<=31):bG 148 [U64 x,I n] (.r (U64 (x/2^n))):=by
 refine bT Tryz.func148 rfl ?_
 refine Vloop.mk' (λj:Nat=>{F:=[(0, .r (U64 (x/2^j))),(1, .r (I n)),(5, .r (I j))],O:=[],nx:=0}) (λj=>j<=n) (λj=>n-j) 0 (by omega) (zac [] rfl ⟨zf (by simp),cr,cr,trivial⟩ trivial) ?_
 intro j hj
 refine zh (λh=>zq ?_) (λh=>zt ?_)
 ·simp only[zb]at h
  have hr:=Nat.div_le_self x (2^j)
  refine Vquo.nat (x/2^j) 2 rfl rfl (by omega) (by omega) ?_
  refine zd (m:=((j+1:Nat):Int)) (by omega) (by omega) ?_
  exact⟨j+1,by omega,by omega,zac [] rfl ⟨zf (by rw[Nat.pow_succ,Nat.div_div_eq_div_mul]),cr,cr,trivial⟩ trivial⟩
 ·simp only[zb]at h
  obtain rfl:j=n:=by omega
  exact cr
set_option maxRecDepth 20000 in
theorem zdnb:bG 90 [] (.r (.tu [us h0Tab.list,us kTab])):=by
 refine bT Tryz.func90 rfl ?_
 refine zy ?_
 refine zy ?_
 exact⟨_,rfl,cr⟩
end Go.Proofs.YtoegdgbghdnnfaaGreat.Sx
