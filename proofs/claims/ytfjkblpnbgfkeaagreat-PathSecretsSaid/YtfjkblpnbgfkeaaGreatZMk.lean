import Derived.Test.YtfjkblpnbgfkeaaGreatZKo
import Derived.Test.YtfjkblpnbgfkeaaGreatZSxSt
import Derived.Test.YtfjkblpnbgfkeaaGreatZKv
namespace Go.Proofs.YtfjkblpnbgfkeaaGreat.Sx
open Go.RowKit
section
def upL(n u:Int):List Int:=2*u::zb2 (2*u) n
def zca(O:List Spot)(x:Int)(a:List Int×Bool)(z:Int):List Int×Bool:=if z≠x/\zbh z x=true/\z∉a.1 then(a.1++[z],a.2&&(zay O z).isSome)else a
def zfx(O:List Spot)(x n:Int)(late:List Int)(a:List Int×Bool):List Int×Bool:=late.foldl (λa u=>(upL n u).foldl (zca O x) a) a
def za3(O:List Spot)(n:Int):Nat->Nat->List Int×Bool
 |0,k=>match zay O (nd 0 k)with
  |none=>([],false)
  |some y=>zfx O (nd 0 k) n y.par.late ([(nd 0 k:Int)],true)
 |h+1,k=>match zay O (nd (h+1) k)with
  |none=>([],false)
  |some y=>if y.kind.toNat=0 then([(nd (h+1) k:Int)]++(za3 O n h (2*k)).1++(za3 O n h (2*k+1)).1,(za3 O n h (2*k)).2&&(za3 O n h (2*k+1)).2)
   else zfx O (nd (h+1) k) n y.par.late ([(nd (h+1) k:Int)],true)
theorem ze9{α β:Type}{f:β->α->β}{b:β}{l:List α}{j:Nat}(hj:j<l.length):(l.take (j+1)).foldl f b=f ((l.take j).foldl f b) l[j]:=by
 rw[List.take_add_one,List.getElem?_eq_getElem hj,List.foldl_append];rfl
theorem zsg(n u:Int):(upL n u).length<=18:=by
 have:=zjf (2*u) n
 simp[upL];omega
theorem zmg(O:List Spot)(hO:O.length<=1000000)(x n:Int)(y:Node)(hy:zay O x=some y)(hk: ¬(y.kind.toNat=0/\x.tmod 2=1))(hl:y.par.late.length<=65536)(hd: ∀u∈y.par.late,zb9 u):
  zab Tryz.prog 79 [zc4 O,I x,I n] (.r (.tu [is (zfx O x n y.par.late ([x],true)).1, .b (zfx O x n y.par.late ([x],true)).2])):=by
 refine zaa (T:=Tab) mixed Tab_ok Tryz.func79 rfl (by kernel_rfl) ?_
 have hfind:=zj7 O x (by omega)
 rw[hy]at hfind
 refine ze hfind ?_
 refine zu rfl (zq ?_)
 refine zw ?_
 refine zh (λh0=>?_) (λh0=>zq ?_)
 ·simp only[zb]at h0
  refine⟨by decide,_,rfl,?_⟩
  have hodd: ¬x.tmod 2=1:=λe=>hk ⟨by omega,e⟩
  refine zu (by simp only[zb];exact hodd) (zq ?_)
  refine zx (λi:Nat×List Int×Bool=>{F:=[(0, .r (zc4 O)),(1, .r (I x)),(2, .r (I n)),(8, .own 0),(9, .r (.b i.2.2)),(10, .own 1),(17, .r (I i.1))],O:=[(0,some (.box (y.c.map .r))),(1,some (.ch 3 1 i.2.1.length (i.2.1.map I) true))],nx:=2})
   (λi=>i.1<=y.par.late.length/\zfx O x n (y.par.late.take i.1) ([x],true)=(i.2.1,i.2.2)/\i.2.1.length<=1+18*i.1) (λi=>y.par.late.length-i.1) (0,[x],true) ⟨by simp,rfl,by simp⟩
   (zac [(0,0),(1,1)] rfl ⟨cr,cr,cr,rfl,cr,rfl,cr,trivial⟩ ⟨zad y.c,⟨rfl,rfl,rfl,rfl,zn _⟩,trivial⟩) ?_
  rintro⟨i,out0,ok0⟩ ⟨hi,hacc0,hlen0⟩
  simp only at hi hacc0 hlen0
  refine zh (λh1=>zp ?_) (λh1=>zq ?_)
  ·simp only[zb]at h1
   have hi':i<y.par.late.length:=by omega
   have hu:=hd _ (List.getElem_mem hi')
   unfold zb9 at hu
   refine zm (by omega) (by omega) (zak rfl hi') (zg rfl ?_)
   refine zd rfl (by omega) ?_
   refine zw ?_
   refine ze (zow _ _) ?_
   obtain⟨u,hue⟩: ∃u,u=y.par.late[i]:=⟨_,rfl⟩
   have hul:=zsg n u
   refine Vapp.mk' (j:=(upL n u).length) (zs:=(upL n u).map I) (by rw[<-hue];simp only[upL,List.length_cons,maxLen]at*;omega) (by rw[<-hue];simp only[upL,List.length_cons]at*;omega) (by rw[<-hue];simp only[upL,List.length_cons];omega) (by rw[<-hue];rfl) ?_
   refine zx (λq:Nat×List Int×Bool=>{F:=[(0, .r (zc4 O)),(1, .r (I x)),(2, .r (I n)),(8, .own 0),(9, .r (.b q.2.2)),(10, .own 1),(17, .r (I i)),(19, .r (is (upL n u))),(20, .r (I q.1))],O:=[(0,some (.box (y.c.map .r))),(1,some (.ch 3 1 q.2.1.length (q.2.1.map I) true))],nx:=2})
    (λq=>q.1<=(upL n u).length/\((upL n u).take q.1).foldl (zca O x) (out0,ok0)=(q.2.1,q.2.2)/\q.2.1.length<=1+18*i+q.1) (λq=>(upL n u).length-q.1) (0,out0,ok0) ⟨by simp,rfl,by simp only;omega⟩
    (zac [(0,0),(1,1)] rfl ⟨cr,cr,cr,rfl,cr,rfl,cr,cr,cr,trivial⟩ ⟨zad y.c,za4 rfl,trivial⟩) ?_
   rintro⟨j,out,ok⟩ ⟨hj,hacc,hlen⟩
   simp only at hj hacc hlen
   refine zh (λh2=>zp ?_) (λh2=>zq ?_)
   ·simp only[zb]at h2
    have hj':j< (upL n u).length:=by omega
    have hsn:=ze9 (f:=zca O x) (b:=(out0,ok0)) hj'
    rw[hacc]at hsn
    obtain⟨z,hz⟩: ∃z,z=(upL n u)[j]:=⟨_,rfl⟩
    rw[<-hz]at hsn
    refine zm (by omega) (by omega) (zak rfl hj') (zg rfl ?_)
    rw[<-hz]
    refine zh (λh3=>?_) (λh3=>zq ?_)
    ·simp only[zb]at h3
     refine zm (by omega) (by omega) (zak rfl hj') (zg rfl ?_)
     rw[<-hz]
     refine zy (zs5 z x) (λh4=>?_) (λh4=>zq ?_)
     ·refine zm (by omega) (by omega) (zak rfl hj') (zg rfl ?_)
      rw[<-hz]
      refine zy (zie out z (by omega)) (λh5=>zu rfl (zq ?_)) (λh5=>zt rfl (zp ?_))
      ·simp only[zb]at h5
       refine zd (m:=((j+1:Nat):Int)) (by omega) (by omega) ?_
       exact⟨(j+1,out,ok),⟨hj',by rw[hsn];simp only[zca];rw[if_neg (λh=>h.2.2 h5)],by simp only;omega⟩,by simp only;omega,zac [(0,0),(1,1)] rfl ⟨cr,cr,cr,rfl,cr,rfl,cr,cr,cr,trivial⟩ ⟨zad y.c,za4 rfl,trivial⟩⟩
      ·simp only[zb]at h5
       have hst:zca O x (out,ok) z=(out++[z],ok&&(zay O z).isSome):=by simp only[zca];rw[if_pos ⟨h3,h4,h5⟩]
       rw[hst]at hsn
       refine zm (by omega) (by omega) (zak rfl hj') (zg rfl ?_)
       rw[<-hz]
       refine zw ?_
       refine Vapp.mk' (j:=(out++[z]).length) (zs:=(out++[z]).map I) (by simp only[maxLen];omega) (by simp;omega) (by simp) (by simp[zbb,cellsOf]) ?_
       refine zm (by omega) (by omega) (zak rfl hj') (zg rfl ?_)
       rw[<-hz]
       refine ze (zj7 O z (by omega)) ?_
       have hle:(out++[z]).length<=1+18*i+(j+1):=by simp;omega
       cases hfz:zay O z with
       |none=>
        rw[hfz]at hsn
        cases ok with
        |false=>
         refine zd (m:=((j+1:Nat):Int)) (by omega) (by omega) ?_
         exact⟨(j+1,out++[z],false),⟨hj',hsn,hle⟩,by simp only;omega,zac [(0,0),(1,_)] rfl ⟨cr,cr,cr,rfl,cr,rfl,cr,cr,cr,trivial⟩ ⟨zad y.c,za4 rfl,trivial⟩⟩
        |true=>
         refine zd (m:=((j+1:Nat):Int)) (by omega) (by omega) ?_
         exact⟨(j+1,out++[z],false),⟨hj',hsn,hle⟩,by simp only;omega,zac [(0,0),(1,_)] rfl ⟨cr,cr,cr,rfl,cr,rfl,cr,cr,cr,trivial⟩ ⟨zad y.c,za4 rfl,trivial⟩⟩
       |some m=>
        rw[hfz]at hsn
        cases ok with
        |false=>
         refine zd (m:=((j+1:Nat):Int)) (by omega) (by omega) ?_
         exact⟨(j+1,out++[z],false),⟨hj',hsn,hle⟩,by simp only;omega,zac [(0,0),(1,_)] rfl ⟨cr,cr,cr,rfl,cr,rfl,cr,cr,cr,trivial⟩ ⟨zad y.c,za4 rfl,trivial⟩⟩
        |true=>
         refine zd (m:=((j+1:Nat):Int)) (by omega) (by omega) ?_
         exact⟨(j+1,out++[z],true),⟨hj',hsn,hle⟩,by simp only;omega,zac [(0,0),(1,_)] rfl ⟨cr,cr,cr,rfl,cr,rfl,cr,cr,cr,trivial⟩ ⟨zad y.c,za4 rfl,trivial⟩⟩
     ·refine zd (m:=((j+1:Nat):Int)) (by omega) (by omega) ?_
      exact⟨(j+1,out,ok),⟨hj',by rw[hsn];simp only[zca];rw[if_neg (λh=>by rw[h4]at h;cases h.2.1)],by simp only;omega⟩,by simp only;omega,zac [(0,0),(1,1)] rfl ⟨cr,cr,cr,rfl,cr,rfl,cr,cr,cr,trivial⟩ ⟨zad y.c,za4 rfl,trivial⟩⟩
    ·simp only[zb]at h3
     refine zd (m:=((j+1:Nat):Int)) (by omega) (by omega) ?_
     exact⟨(j+1,out,ok),⟨hj',by rw[hsn];simp only[zca];rw[if_neg (λh=>h.1 h3)],by simp only;omega⟩,by simp only;omega,zac [(0,0),(1,1)] rfl ⟨cr,cr,cr,rfl,cr,rfl,cr,cr,cr,trivial⟩ ⟨zad y.c,za4 rfl,trivial⟩⟩
   ·simp only[zb]at h2
    rw[List.take_of_length_le (by omega)]at hacc
    have hsn:=ze9 (f:=λa u=>(upL n u).foldl (zca O x) a) (b:=([x],true)) hi'
    have hacc0':(y.par.late.take i).foldl (λa u=>(upL n u).foldl (zca O x) a) ([x],true)=(out0,ok0):=hacc0
    rw[hacc0',<-hue,hacc]at hsn
    refine zd (m:=((i+1:Nat):Int)) (by omega) (by omega) ?_
    exact⟨(i+1,out,ok),⟨hi',hsn,by simp only;omega⟩,by simp only;omega,zac [(0,0),(1,1)] rfl ⟨cr,cr,cr,rfl,cr,rfl,cr,trivial⟩ ⟨zad y.c,za4 rfl,trivial⟩⟩
  ·simp only[zb]at h1
   rw[List.take_of_length_le (by omega)]at hacc0
   rw[hacc0]
   exact⟨_,rfl,cr⟩
 ·refine zx (λi:Nat×List Int×Bool=>{F:=[(0, .r (zc4 O)),(1, .r (I x)),(2, .r (I n)),(8, .own 0),(9, .r (.b i.2.2)),(10, .own 1),(17, .r (I i.1))],O:=[(0,some (.box (y.c.map .r))),(1,some (.ch 3 1 i.2.1.length (i.2.1.map I) true))],nx:=2})
   (λi=>i.1<=y.par.late.length/\zfx O x n (y.par.late.take i.1) ([x],true)=(i.2.1,i.2.2)/\i.2.1.length<=1+18*i.1) (λi=>y.par.late.length-i.1) (0,[x],true) ⟨by simp,rfl,by simp⟩
   (zac [(0,0),(1,1)] rfl ⟨cr,cr,cr,rfl,cr,rfl,cr,trivial⟩ ⟨zad y.c,⟨rfl,rfl,rfl,rfl,zn _⟩,trivial⟩) ?_
  rintro⟨i,out0,ok0⟩ ⟨hi,hacc0,hlen0⟩
  simp only at hi hacc0 hlen0
  refine zh (λh1=>zp ?_) (λh1=>zq ?_)
  ·simp only[zb]at h1
   have hi':i<y.par.late.length:=by omega
   have hu:=hd _ (List.getElem_mem hi')
   unfold zb9 at hu
   refine zm (by omega) (by omega) (zak rfl hi') (zg rfl ?_)
   refine zd rfl (by omega) ?_
   refine zw ?_
   refine ze (zow _ _) ?_
   obtain⟨u,hue⟩: ∃u,u=y.par.late[i]:=⟨_,rfl⟩
   have hul:=zsg n u
   refine Vapp.mk' (j:=(upL n u).length) (zs:=(upL n u).map I) (by rw[<-hue];simp only[upL,List.length_cons,maxLen]at*;omega) (by rw[<-hue];simp only[upL,List.length_cons]at*;omega) (by rw[<-hue];simp only[upL,List.length_cons];omega) (by rw[<-hue];rfl) ?_
   refine zx (λq:Nat×List Int×Bool=>{F:=[(0, .r (zc4 O)),(1, .r (I x)),(2, .r (I n)),(8, .own 0),(9, .r (.b q.2.2)),(10, .own 1),(17, .r (I i)),(19, .r (is (upL n u))),(20, .r (I q.1))],O:=[(0,some (.box (y.c.map .r))),(1,some (.ch 3 1 q.2.1.length (q.2.1.map I) true))],nx:=2})
    (λq=>q.1<=(upL n u).length/\((upL n u).take q.1).foldl (zca O x) (out0,ok0)=(q.2.1,q.2.2)/\q.2.1.length<=1+18*i+q.1) (λq=>(upL n u).length-q.1) (0,out0,ok0) ⟨by simp,rfl,by simp only;omega⟩
    (zac [(0,0),(1,1)] rfl ⟨cr,cr,cr,rfl,cr,rfl,cr,cr,cr,trivial⟩ ⟨zad y.c,za4 rfl,trivial⟩) ?_
   rintro⟨j,out,ok⟩ ⟨hj,hacc,hlen⟩
   simp only at hj hacc hlen
   refine zh (λh2=>zp ?_) (λh2=>zq ?_)
   ·simp only[zb]at h2
    have hj':j< (upL n u).length:=by omega
    have hsn:=ze9 (f:=zca O x) (b:=(out0,ok0)) hj'
    rw[hacc]at hsn
    obtain⟨z,hz⟩: ∃z,z=(upL n u)[j]:=⟨_,rfl⟩
    rw[<-hz]at hsn
    refine zm (by omega) (by omega) (zak rfl hj') (zg rfl ?_)
    rw[<-hz]
    refine zh (λh3=>?_) (λh3=>zq ?_)
    ·simp only[zb]at h3
     refine zm (by omega) (by omega) (zak rfl hj') (zg rfl ?_)
     rw[<-hz]
     refine zy (zs5 z x) (λh4=>?_) (λh4=>zq ?_)
     ·refine zm (by omega) (by omega) (zak rfl hj') (zg rfl ?_)
      rw[<-hz]
      refine zy (zie out z (by omega)) (λh5=>zu rfl (zq ?_)) (λh5=>zt rfl (zp ?_))
      ·simp only[zb]at h5
       refine zd (m:=((j+1:Nat):Int)) (by omega) (by omega) ?_
       exact⟨(j+1,out,ok),⟨hj',by rw[hsn];simp only[zca];rw[if_neg (λh=>h.2.2 h5)],by simp only;omega⟩,by simp only;omega,zac [(0,0),(1,1)] rfl ⟨cr,cr,cr,rfl,cr,rfl,cr,cr,cr,trivial⟩ ⟨zad y.c,za4 rfl,trivial⟩⟩
      ·simp only[zb]at h5
       have hst:zca O x (out,ok) z=(out++[z],ok&&(zay O z).isSome):=by simp only[zca];rw[if_pos ⟨h3,h4,h5⟩]
       rw[hst]at hsn
       refine zm (by omega) (by omega) (zak rfl hj') (zg rfl ?_)
       rw[<-hz]
       refine zw ?_
       refine Vapp.mk' (j:=(out++[z]).length) (zs:=(out++[z]).map I) (by simp only[maxLen];omega) (by simp;omega) (by simp) (by simp[zbb,cellsOf]) ?_
       refine zm (by omega) (by omega) (zak rfl hj') (zg rfl ?_)
       rw[<-hz]
       refine ze (zj7 O z (by omega)) ?_
       have hle:(out++[z]).length<=1+18*i+(j+1):=by simp;omega
       cases hfz:zay O z with
       |none=>
        rw[hfz]at hsn
        cases ok with
        |false=>
         refine zd (m:=((j+1:Nat):Int)) (by omega) (by omega) ?_
         exact⟨(j+1,out++[z],false),⟨hj',hsn,hle⟩,by simp only;omega,zac [(0,0),(1,_)] rfl ⟨cr,cr,cr,rfl,cr,rfl,cr,cr,cr,trivial⟩ ⟨zad y.c,za4 rfl,trivial⟩⟩
        |true=>
         refine zd (m:=((j+1:Nat):Int)) (by omega) (by omega) ?_
         exact⟨(j+1,out++[z],false),⟨hj',hsn,hle⟩,by simp only;omega,zac [(0,0),(1,_)] rfl ⟨cr,cr,cr,rfl,cr,rfl,cr,cr,cr,trivial⟩ ⟨zad y.c,za4 rfl,trivial⟩⟩
       |some m=>
        rw[hfz]at hsn
        cases ok with
        |false=>
         refine zd (m:=((j+1:Nat):Int)) (by omega) (by omega) ?_
         exact⟨(j+1,out++[z],false),⟨hj',hsn,hle⟩,by simp only;omega,zac [(0,0),(1,_)] rfl ⟨cr,cr,cr,rfl,cr,rfl,cr,cr,cr,trivial⟩ ⟨zad y.c,za4 rfl,trivial⟩⟩
        |true=>
         refine zd (m:=((j+1:Nat):Int)) (by omega) (by omega) ?_
         exact⟨(j+1,out++[z],true),⟨hj',hsn,hle⟩,by simp only;omega,zac [(0,0),(1,_)] rfl ⟨cr,cr,cr,rfl,cr,rfl,cr,cr,cr,trivial⟩ ⟨zad y.c,za4 rfl,trivial⟩⟩
     ·refine zd (m:=((j+1:Nat):Int)) (by omega) (by omega) ?_
      exact⟨(j+1,out,ok),⟨hj',by rw[hsn];simp only[zca];rw[if_neg (λh=>by rw[h4]at h;cases h.2.1)],by simp only;omega⟩,by simp only;omega,zac [(0,0),(1,1)] rfl ⟨cr,cr,cr,rfl,cr,rfl,cr,cr,cr,trivial⟩ ⟨zad y.c,za4 rfl,trivial⟩⟩
    ·simp only[zb]at h3
     refine zd (m:=((j+1:Nat):Int)) (by omega) (by omega) ?_
     exact⟨(j+1,out,ok),⟨hj',by rw[hsn];simp only[zca];rw[if_neg (λh=>h.1 h3)],by simp only;omega⟩,by simp only;omega,zac [(0,0),(1,1)] rfl ⟨cr,cr,cr,rfl,cr,rfl,cr,cr,cr,trivial⟩ ⟨zad y.c,za4 rfl,trivial⟩⟩
   ·simp only[zb]at h2
    rw[List.take_of_length_le (by omega)]at hacc
    have hsn:=ze9 (f:=λa u=>(upL n u).foldl (zca O x) a) (b:=([x],true)) hi'
    have hacc0':(y.par.late.take i).foldl (λa u=>(upL n u).foldl (zca O x) a) ([x],true)=(out0,ok0):=hacc0
    rw[hacc0',<-hue,hacc]at hsn
    refine zd (m:=((i+1:Nat):Int)) (by omega) (by omega) ?_
    exact⟨(i+1,out,ok),⟨hi',hsn,by simp only;omega⟩,by simp only;omega,zac [(0,0),(1,1)] rfl ⟨cr,cr,cr,rfl,cr,rfl,cr,trivial⟩ ⟨zad y.c,za4 rfl,trivial⟩⟩
  ·simp only[zb]at h1
   rw[List.take_of_length_le (by omega)]at hacc0
   rw[hacc0]
   exact⟨_,rfl,cr⟩
theorem zt3(O:List Spot)(x n:Int): ∀(late:List Int) (a:List Int×Bool),(zfx O x n late a).1.length<=a.1.length+18*late.length:=by
 have one: ∀(l:List Int) (a:List Int×Bool),(l.foldl (zca O x) a).1.length<=a.1.length+l.length:=by
  intro l
  induction l with
  |nil=>intro a;simp
  |cons z l ih=>
   intro a
   have:=ih (zca O x a z)
   have h1:(zca O x a z).1.length<=a.1.length+1:=by unfold zca;split<;>simp
   simp only[List.foldl_cons,List.length_cons]
   omega
 intro late
 induction late with
 |nil=>intro a;simp[zfx]
 |cons u late ih=>
  intro a
  have h1:=ih ((upL n u).foldl (zca O x) a)
  have h2:=one (upL n u) a
  have h3:=zsg n u
  simp only[zfx,List.foldl_cons,List.length_cons]at*
  omega
def zf7(O:List Spot):Prop:=∀s∈O,s.node.par.late.length<=65536/\∀u∈s.node.par.late,zb9 u
theorem zg0(O:List Spot)(hO:zf7 O)(n:Int): ∀h k,(za3 O n h k).1.length<=1400000*2^(h+1)-1400000
 |0,k=>by
  unfold za3
  split
  ·simp
  ·rename_i y hy
   obtain⟨sp,hsp,_,rfl⟩:=zf4 hy
   have:=zt3 O (nd 0 k) n sp.node.par.late ([(nd 0 k:Int)],true)
   have:=(hO sp hsp).1
   simp at*;omega
 |h+1,k=>by
  have h1:=zg0 O hO n h (2*k)
  have h2:=zg0 O hO n h (2*k+1)
  have hp:=zag (h+1)
  rw[Nat.pow_succ 2 (h+1)]
  unfold za3
  split
  ·simp
  ·rename_i y hy
   obtain⟨sp,hsp,_,rfl⟩:=zf4 hy
   split
   ·simp;omega
   ·have:=zt3 O (nd (h+1) k) n sp.node.par.late ([(nd (h+1) k:Int)],true)
    have:=(hO sp hsp).1
    simp at*;omega
theorem z9u{h:Nat}(hh:h<=16):2^(h+1)<=131072:=Nat.pow_le_pow_right (n:=2) (by omega) (show h+1<=17 by omega)
theorem zt8(O:List Spot)(hO:O.length<=1000000)(hOl:zf7 O)(n:Int)(h:Nat)(hh:h+1<=16)(ih: ∀k,k<2^(16-h)->zab Tryz.prog 79 [zc4 O,I (nd h k),I n] (.r (.tu [is (za3 O n h k).1, .b (za3 O n h k).2])))
  (k:Nat) (hk:k<2^(16-(h+1))) (y:Node) (hy:zay O (nd (h+1) k)=some y) (hy0:y.kind.toNat=0):
  zab Tryz.prog 79 [zc4 O,I (nd (h+1) k),I n] (.r (.tu [is (za3 O n (h+1) k).1, .b (za3 O n (h+1) k).2])):=by
 refine zaa (T:=Tab) mixed Tab_ok Tryz.func79 rfl (by kernel_rfl) ?_
 have hleft:=zif (d:=16) (by omega) (show h+1<=16 by omega) hk
 have hright:=zi3 (d:=16) (by omega) (show h+1<=16 by omega) hk
 have hk2:2^(16-h)=2*2^(16-(h+1)):=by rw[show 16-h=(16-(h+1))+1 by omega,Nat.pow_succ];omega
 have hfind:=zj7 O (nd (h+1) k) (by omega)
 rw[hy]at hfind
 have e:za3 O n (h+1) k=([(nd (h+1) k:Int)]++(za3 O n h (2*k)).1++(za3 O n h (2*k+1)).1,(za3 O n h (2*k)).2&&(za3 O n h (2*k+1)).2):=by
  simp[za3,hy,hy0]
 rw[e]
 have l1:=zg0 O hOl n h (2*k)
 have l2:=zg0 O hOl n h (2*k+1)
 have p17:=z9u (show h<=16 by omega)
 have g1:=ih (2*k) (by omega)
 have g2:=ih (2*k+1) (by omega)
 obtain⟨p1,b1,e1⟩: ∃p b,za3 O n h (2*k)=(p,b):=⟨_,_,rfl⟩
 obtain⟨p2,b2,e2⟩: ∃p b,za3 O n h (2*k+1)=(p,b):=⟨_,_,rfl⟩
 rw[e1]at g1 l1
 rw[e2]at g2 l2
 rw[e1,e2]
 simp only at g1 g2 l1 l2⊢
 refine ze hfind ?_
 refine zu rfl (zq ?_)
 refine zw ?_
 refine zt (by simp only[zb];omega) ?_
 refine⟨by decide,_,rfl,?_⟩
 refine zt (by rw[zhc];rfl) (zp ?_)
 refine ze (zin _) ?_
 rw[hleft,hright]
 refine ze g1 ?_
 refine ze g2 ?_
 refine Vapp.mk' (j:=([(nd (h+1) k:Int)]++p1).length) (zs:=([(nd (h+1) k:Int)]++p1).map I) (by simp only[maxLen];omega) (by simp;omega) (by simp;omega) (by simp[zbb,cellsOf]) ?_
 refine Vapp.mk' (j:=([(nd (h+1) k:Int)]++p1++p2).length) (zs:=([(nd (h+1) k:Int)]++p1++p2).map I) (by simp[maxLen];omega) (by simp;omega) (by simp;omega) (by simp) ?_
 cases b1<;>exact⟨_,rfl,cr⟩
theorem zaxb(O:List Spot)(hO:O.length<=1000000)(hOl:zf7 O)(n:Int): ∀(h k:Nat),h<=16->k<2^(16-h)->zab Tryz.prog 79 [zc4 O,I (nd h k),I n] (.r (.tu [is (za3 O n h k).1, .b (za3 O n h k).2])):=by
 have none_case: ∀(x:Int),zay O x=none->zab Tryz.prog 79 [zc4 O,I x,I n] (.r (.tu [is [], .b false])):=λx hx=>by
  refine zaa (T:=Tab) mixed Tab_ok Tryz.func79 rfl (by kernel_rfl) ?_
  have hfind:=zj7 O x (by omega)
  rw[hx]at hfind
  refine ze hfind ?_
  refine zt rfl (zp ?_)
  exact⟨_,rfl,Cv.tu (zk (Cv.nil 1) (zn _))⟩
 intro h
 induction h with
 |zero=>
  intro k _ hk
  cases hy:zay O (nd 0 k)with
  |none=>
   have e:za3 O n 0 k=([],false):=by simp[za3,hy]
   rw[e];exact none_case _ hy
  |some y=>
   obtain⟨sp,hsp,_,rfl⟩:=zf4 hy
   have e:za3 O n 0 k=zfx O (nd 0 k) n sp.node.par.late ([(nd 0 k:Int)],true):=by simp[za3,hy]
   rw[e]
   exact zmg O hO _ n _ hy (λh=>by rw[zge]at h;omega) (hOl sp hsp).1 (hOl sp hsp).2
 |succ h ih=>
  intro k hh hk
  cases hy:zay O (nd (h+1) k)with
  |none=>
   have e:za3 O n (h+1) k=([],false):=by simp[za3,hy]
   rw[e];exact none_case _ hy
  |some y=>
   by_cases h0:y.kind.toNat=0
   ·exact zt8 O hO hOl n h hh (λk hk=>ih k (by omega) hk) k hk y hy h0
   ·obtain⟨sp,hsp,_,rfl⟩:=zf4 hy
    have e:za3 O n (h+1) k=zfx O (nd (h+1) k) n sp.node.par.late ([(nd (h+1) k:Int)],true):=by simp[za3,hy,h0]
    rw[e]
    exact zmg O hO _ n _ hy (λh=>h0 h.1) (hOl sp hsp).1 (hOl sp hsp).2
end
section
def zb3(O:List Spot)(n c:Int):List Int×Bool:=za3 O n (lv c.toNat) (c.toNat/2^(lv c.toNat+1))
def addK(all acc:List Int)(c:Int):List Int:=if 0<=c/\c∉all then acc++[c]else acc
def zh7(all:List Int)(acc:List Int)(x:Int):List Int:=addK all (addK all acc (zbl x)) (zby x)
def ownL(s:Lean_):List Int:=2*s.own::zb2 (2*s.own) s.leaves
theorem z7c(O:List Spot)(hO:O.length<=1000000)(hOl:zf7 O)(n x:Int)(hx:za6 x=true):zab Tryz.prog 79 [zc4 O,I x,I n] (.r (.tu [is (zb3 O n x).1, .b (zb3 O n x).2])):=by
 obtain⟨h,k,hh,hk,e,e1,e2⟩:=znm hx
 unfold zb3
 rw[e1]at e2⊢
 rw[e2]
 have:=zaxb O hO hOl n h k hh hk
 rw[<-e]at this
 exact this
theorem zrm(O:List Spot)(hOl:zf7 O)(n x:Int)(hx:za6 x=true):(zb3 O n x).1.length<=190000000000:=by
 obtain⟨h,k,hh,hk,e,e1,e2⟩:=znm hx
 unfold zb3
 have:=zg0 O hOl n (lv x.toNat) (x.toNat/2^(lv x.toNat+1))
 have:=z9u (h:=lv x.toNat) (by omega)
 omega
theorem z2d{O:List Spot}{x:Int}: ∀(l:List Int) (a:List Int×Bool),(∀z∈a.1,za6 z=true)->∀z∈(l.foldl (zca O x) a).1,za6 z=true:=by
 intro l
 induction l with
 |nil=>intro a h;exact h
 |cons y l ih=>
  intro a h
  refine ih _ ?_
  unfold zca
  split
  ·rename_i hc
   intro z hz
   rcases List.mem_append.1 hz with hz |hz
   ·exact h z hz
   ·simp at hz;subst hz
    have:=hc.2.1
    rw[zic]at this
    exact this.1.1
  ·exact h
theorem zrk{O:List Spot}{x n:Int}: ∀(late:List Int) (a:List Int×Bool),(∀z∈a.1,za6 z=true)->∀z∈(zfx O x n late a).1,za6 z=true:=by
 intro late
 induction late with
 |nil=>intro a h;exact h
 |cons u late ih=>
  intro a h
  exact ih _ (z2d _ _ h)
theorem zjy(O:List Spot)(n:Int): ∀(h k:Nat),h<=16->k<2^(16-h)->∀z∈(za3 O n h k).1,za6 z=true
 |0,k,hh,hk=>by
  unfold za3
  split
  ·simp
  ·exact zrk _ _ (by intro z hz;simp at hz;subst hz;exact zg8 (d:=16) (by omega) hh hk)
 |h+1,k,hh,hk=>by
  have hk2:2^(16-h)=2*2^(16-(h+1)):=by rw[show 16-h=(16-(h+1))+1 by omega,Nat.pow_succ];omega
  have i1:=zjy O n h (2*k) (by omega) (by omega)
  have i2:=zjy O n h (2*k+1) (by omega) (by omega)
  have i0:=zg8 (d:=16) (by omega) hh hk
  unfold za3
  split
  ·simp
  ·split
   ·intro z hz
    simp only[List.mem_append,List.mem_cons,List.not_mem_nil,or_false]at hz
    rcases hz with(rfl |hz) |hz
    ·exact i0
    ·exact i1 z hz
    ·exact i2 z hz
   ·exact zrk _ _ (by intro z hz;simp at hz;subst hz;exact i0)
theorem zyg(O:List Spot)(n x:Int)(hx:za6 x=true): ∀z∈(zb3 O n x).1,za6 z=true:=by
 obtain⟨h,k,hh,hk,e,e1,e2⟩:=znm hx
 unfold zb3
 rw[e1]at e2⊢
 rw[e2]
 exact zjy O n h k hh hk
theorem z49{s:Lean_}(hf:zbj s.leaves=true)(h0:0<=s.own)(h1:s.own<s.leaves): ∀x∈ownL s,za6 x=true:=by
 have hb:=ze8 hf
 intro x hx
 rcases List.mem_cons.1 hx with rfl |hx
 ·rw[zdo];omega
 ·have:=zwp hx
  rw[zdo];omega
theorem zuy(all acc:List Int)(c:Int):(addK all acc c).length<=acc.length+1:=by unfold addK;split<;>simp
theorem zyl{all acc:List Int}{c:Int}(h: ∀x∈acc,0<=x): ∀x∈addK all acc c,0<=x:=by
 unfold addK
 split
 ·rename_i hc
  intro x hx
  rcases List.mem_append.1 hx with hx |hx
  ·exact h x hx
  ·simp at hx;subst hx;exact hc.1
 ·exact h
theorem z7s{all:List Int}: ∀(l acc:List Int),(∀x∈acc,0<=x)->(∀x∈l.foldl (zh7 all) acc,0<=x)/\(l.foldl (zh7 all) acc).length<=acc.length+2*l.length:=by
 intro l
 induction l with
 |nil=>intro acc h;exact⟨h,by simp⟩
 |cons y l ih=>
  intro acc h
  have h1:=ih (zh7 all acc y) (zyl (zyl h))
  have h2:=zuy all (addK all acc (zbl y)) (zby y)
  have h3:=zuy all acc (zbl y)
  refine⟨h1.1,?_⟩
  have:=h1.2
  simp only[List.foldl_cons,List.length_cons,zh7]at*
  omega
theorem zou{f:Int->List Int}{b:Nat}: ∀(l:List Int),(∀x∈l,(f x).length<=b)->(l.flatMap f).length<=b*l.length
 |[],_=>by simp
 |x::l,h=>by
  have h1:=h x (by simp)
  have h2:=zou l λy hy=>h y (by simp[hy])
  simp only[List.flatMap_cons,List.length_append,List.length_cons,Nat.mul_add]
  omega
theorem z3f{f:Int->List Int}{l:List Int}{j:Nat}(hj:j<l.length):(l.take (j+1)).flatMap f=(l.take j).flatMap f++f l[j]:=by
 rw[List.take_add_one,List.getElem?_eq_getElem hj,List.flatMap_append];simp
end
section
def inR(h k:Nat)(x:Int):Prop:=((k*2^(h+1):Nat):Int)<=x/\x+2<=((k*2^(h+1)+2^(h+1):Nat):Int)
theorem zzh(k h:Nat):2*k*2^(h+1)=k*2^(h+1+1):=by rw[Nat.pow_succ 2 (h+1),Nat.mul_comm 2 k,Nat.mul_assoc,Nat.mul_comm 2]
theorem z7y(k h:Nat):(2*k+1)*2^(h+1)=k*2^(h+1+1)+2^(h+1):=by rw[Nat.add_mul,zzh,Nat.one_mul]
theorem zit(h k:Nat):inR h k (nd h k):=by
 have hp:=zag h
 unfold inR nd
 rw[Nat.pow_succ 2 h]
 generalize k*(2^h*2)=q
 omega
end
section
abbrev zb0(O:List Spot)(z:Int):Bool:=(zay O z).isSome
theorem z8g{d:Nat}(hd:d<=16):2^d<=65536:=Nat.pow_le_pow_right (n:=2) (by omega) (show d<=16 from hd)
theorem lt16{d h k:Nat}(hd:d<=16)(hk:k<2^(d-h)):k<2^(16-h):=Nat.lt_of_lt_of_le hk (Nat.pow_le_pow_right (by omega) (by omega))
end
section
theorem zbvb{h k:Nat}(hh:h<=16)(hk:k<2^(16-h)):lv ((nd h k:Int)).toNat=h/\((nd h k:Int)).toNat/2^(lv ((nd h k:Int)).toNat+1)=k:=by
 have hn:=zg8 (d:=16) (by omega) hh hk
 obtain⟨h',k',hh',hk',e,e1,e2⟩:=znm hn
 obtain⟨rfl,rfl⟩:=ziy hh hh' (Int.ofNat.inj e)
 exact⟨e1,e2⟩
end
section
theorem zbe{S:St}(pub:Bool)(id i:Nat)(e:TypeId)(sz:Nat){cells:List TF}(ho:oget S.O id=some (.box cells))(hc:cells[i]?=some (.r (.x (.slice none 0 0)))):
  Sub S {F:=S.F,O:=(id,some (.box (cells.set i (.own S.nx))))::(S.nx,some (.ch e sz 0 [] pub))::S.O,nx:=S.nx+1}:=by
 rintro B N a w k ⟨g,hs⟩
 have h:=hs.adopt (dst:=none) (λd hd=>by cases hd) (o:= .ch e sz 0 [] pub) (vb:=(.slice none 0 0,none)) trivial ⟨by simp, .inl ⟨rfl, .inl ⟨rfl,none,rfl⟩⟩⟩ (λb hb=>by cases hb) (λi o' b _ hb=>by cases hb)
 have e0:a.put none (.slice none 0 0)=a:=rfl
 simp only[St.mk_]at h
 rw[e0]at h
 obtain⟨p1,p2,p3,p4⟩:=hs.owns id _ ho
 have hid:oget ((S.nx,some (Ow.ch e sz 0 [] pub))::S.O) id=some (.box cells):=by
  simp only[oget]
  split
  ·rename_i hb;have:=Nat.eq_of_beq_eq_true hb;omega
  ·exact ho
 have hg:(g.set S.nx ((Value.slice none 0 0),none)) S.nx=((Value.slice none 0 0),none):=by rw[Env.set_eq]
 have old: ∀x ox,oget ((id,some (Ow.box (cells.set i (.own S.nx))))::(S.nx,some (Ow.ch e sz 0 [] pub))::S.O) x=some ox->∃ox',oget ((S.nx,some (Ow.ch e sz 0 [] pub))::S.O) x=some ox':=λx ox hx=>by
  rcases zao hx with⟨rfl,_⟩ |⟨_,h'⟩
  ·exact⟨_,hid⟩
  ·exact⟨_,h'⟩
 refine⟨k,_,h.size,h.defers,h.keep,h.kk,h.facts,λj o' ho'=>?_,λx y ox oy b hx hy hne hb=>?_⟩
 ·rcases zao ho' with⟨rfl,e'⟩ |⟨hne,h'⟩
  ·cases e'
   obtain⟨q1,q2,q3,q4⟩:=h.owns _ _ hid
   refine⟨q1,λf hf=>?_,?_,q4⟩
   ·rcases List.mem_or_eq_of_mem_set hf with hf |rfl
    ·exact q2 f hf
    ·exact Nat.lt_succ_self _
   ·obtain⟨b,cur,t,e1,e2,e3,e4,e5⟩:=q3
    refine⟨b,cur,t,e1,e2,e3,by simpa using e4,λj f u hf hu=>?_⟩
    rw[List.getElem?_set]at hf
    split at hf
    ·rename_i hij
     subst hij
     split at hf
     ·cases hf
      obtain⟨u1,u2⟩:=e5 i _ u hc hu
      simp only[TF.at_,RV.at_]at u2
      exact⟨u1,by simp only[TF.at_];rw[hg];exact u2⟩
     ·cases hf
    ·exact e5 j f u hf hu
  ·exact h.owns j o' h'
 ·obtain⟨ox',hx'⟩:=old x ox hx
  obtain⟨oy',hy'⟩:=old y oy hy
  exact h.apart x y ox' oy' b hx' hy' hne hb
end
section
theorem cvc{ρ:List (Nat×Nat)}{S:St}{f g:TF}{fs gs:List TF}(h:cvTF ρ S f g)(r:zf3 ρ S fs gs):zf3 ρ S (f::fs) (g::gs):=⟨_,_,rfl,h,r⟩
abbrev zrc(L:List Spot):Ow:= .ch 96 11 L.length (L.flatMap Spot.c) true
abbrev zxc(L:List Stub):Ow:= .ch 99 2 L.length (L.flatMap Stub.c) true
abbrev zero4:List RV:=[I 0,I 0, .x (.slice none 0 0), .x (.slice none 0 0)]
end
section
theorem z6z(l:List Int)(hl:l.length<=1000000000)(h64: ∀x∈l,i64 x):zab Tryz.prog 75 [is l] (ich l):=
 za7 (zaw Tryz.func75 rfl (by kernel_rfl)) λw k vs hp=>by
  obtain⟨a,rfl,h1⟩:=zfo hp
  obtain⟨p,rfl,hp1⟩:=zfjb h64 h1
  exact(z0a p l w hp1 (by omega)).mono λ_ _ ⟨v,he,hx,_,hv⟩=>⟨v,he,hx,zmj hv⟩
theorem zj6(n:Node)(hn:n.fit)(hcl:zab Tryz.prog 65 [.ag n.leaf.c] (.r (.ag n.leaf.c))):zab Tryz.prog 31 [.ag n.c] (.r (.ag n.c)):=by
 refine zaa (T:=Tab) mixed Tab_ok Tryz.func31 rfl (by kernel_rfl) ?_
 obtain⟨h1,h2⟩:=hn
 refine za rfl rfl ?_
 refine ze hcl ?_
 refine Vdraw.mk' (by kernel_rfl) ?_
 refine ze (zkz n.par.box (by have:=h2.1;omega)) ?_
 refine ze (zkz n.par.hash (by have:=h2.2.1;omega)) ?_
 refine ze (z6z n.par.late (by have:=h2.2.2.1;omega) h2.2.2.2) ?_
 refine za rfl rfl ?_
 refine za rfl rfl ?_
 exact cr
end
section
theorem Vstep.thenSub{P:Program}{S:St}{o:Oper}{K:St->Prop}(h:Vstep P S o λS1=>∃S2,Sub S1 S2/\K S2):Vstep P S o K:=by
 obtain⟨ι,S1,hy,h⟩:=h
 exact⟨ι,λi=>(h i).choose,λB N a w k Q hs0 hd=>Oper.wp_mono (λa' w' ⟨i,k',hk'⟩=>⟨i,(h i).choose_spec.1 B N a' w' k' hk'⟩) (hy B N a w k Q hs0 hd),λi=>(h i).choose_spec.2⟩
end
end Go.Proofs.YtfjkblpnbgfkeaaGreat.Sx
