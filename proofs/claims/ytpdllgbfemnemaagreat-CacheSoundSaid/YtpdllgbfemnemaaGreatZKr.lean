import Derived.Test.YtpdllgbfemnemaaGreatZKq
namespace Go.Proofs.YtpdllgbfemnemaaGreat.Sx
open Go.RowKit
def upL(n u:Int):List Int:=2*u::za4 (2*u) n
def zby(O:List Spot)(x:Int)(a:List Int×Bool)(z:Int):List Int×Bool:=if z≠x/\zal z x=true/\z∉a.1 then(a.1++[z],a.2&&(zae O z).isSome)else a
def zd5(O:List Spot)(x n:Int)(late:List Int)(a:List Int×Bool):List Int×Bool:=late.foldl (λa u=>(upL n u).foldl (zby O x) a) a
def zay(O:List Spot)(n:Int):Nat->Nat->List Int×Bool
 |0,k=>match zae O (nd 0 k)with
  |none=>([],false)
  |some y=>zd5 O (nd 0 k) n y.par.late ([(nd 0 k:Int)],true)
 |h+1,k=>match zae O (nd (h+1) k)with
  |none=>([],false)
  |some y=>if y.kind.toNat=0 then([(nd (h+1) k:Int)]++(zay O n h (2*k)).1++(zay O n h (2*k+1)).1,(zay O n h (2*k)).2&&(zay O n h (2*k+1)).2)
   else zd5 O (nd (h+1) k) n y.par.late ([(nd (h+1) k:Int)],true)
theorem zfx{α β:Type}{f:β->α->β}{b:β}{l:List α}{j:Nat}(hj:j<l.length):(l.take (j+1)).foldl f b=f ((l.take j).foldl f b) l[j]:=by
 rw[List.take_add_one,List.getElem?_eq_getElem hj,List.foldl_append];rfl
theorem zv7(n u:Int):(upL n u).length<=18:=by
 have:=zd2 (2*u) n
 simp[upL];omega
theorem zqg(O:List Spot)(hO:O.length<=1000000)(x n:Int)(y:Node)(hy:zae O x=some y)(hk: ¬(y.kind.toNat=0/\x.tmod 2=1))(hl:y.par.late.length<=65536)(hd: ∀u∈y.par.late,za6 u):
  zaf Tryz.prog 48 [spots O,I x,I n] (.r (.tu [is (zd5 O x n y.par.late ([x],true)).1, .b (zd5 O x n y.par.late ([x],true)).2])):=by
 refine zac (T:=Tab) mixed Tab_ok Tryz.func48 rfl (by kernel_rfl) ?_
 have hfind:=ze5 O x (by omega)
 rw[hy]at hfind
 refine ze hfind ?_
 refine zw rfl (zt ?_)
 refine zx ?_
 refine zh (λh0=>?_) (λh0=>zt ?_)
 ·simp only[zb]at h0
  refine⟨by decide,_,rfl,?_⟩
  have hodd: ¬x.tmod 2=1:=λe=>hk ⟨by omega,e⟩
  refine zw (by simp only[zb];exact hodd) (zt ?_)
  refine zy (λi:Nat×List Int×Bool=>{F:=[(0, .r (spots O)),(1, .r (I x)),(2, .r (I n)),(8, .own 0),(9, .r (.b i.2.2)),(10, .own 1),(17, .r (I i.1))],O:=[(0,some (.box (y.c.map .r))),(1,some (.ch 3 1 i.2.1.length (i.2.1.map I) true))],nx:=2})
   (λi=>i.1<=y.par.late.length/\zd5 O x n (y.par.late.take i.1) ([x],true)=(i.2.1,i.2.2)/\i.2.1.length<=1+18*i.1) (λi=>y.par.late.length-i.1) (0,[x],true) ⟨by simp,rfl,by simp⟩
   (zad [(0,0),(1,1)] rfl ⟨cr,cr,cr,rfl,cr,rfl,cr,trivial⟩ ⟨zab y.c,⟨rfl,rfl,rfl,rfl,zn _⟩,trivial⟩) ?_
  rintro⟨i,out0,ok0⟩ ⟨hi,hacc0,hlen0⟩
  simp only at hi hacc0 hlen0
  refine zh (λh1=>zq ?_) (λh1=>zt ?_)
  ·simp only[zb]at h1
   have hi':i<y.par.late.length:=by omega
   have hu:=hd _ (List.getElem_mem hi')
   unfold za6 at hu
   refine zm (by omega) (by omega) (zai rfl hi') (zg rfl ?_)
   refine zd rfl (by omega) ?_
   refine zx ?_
   refine ze (zsy _ _) ?_
   obtain⟨u,hue⟩: ∃u,u=y.par.late[i]:=⟨_,rfl⟩
   have hul:=zv7 n u
   refine Vapp.mk' (j:=(upL n u).length) (zs:=(upL n u).map I) (by rw[<-hue];simp only[upL,List.length_cons,maxLen]at*;omega) (by rw[<-hue];simp only[upL,List.length_cons]at*;omega) (by rw[<-hue];simp only[upL,List.length_cons];omega) (by rw[<-hue];rfl) ?_
   refine zy (λq:Nat×List Int×Bool=>{F:=[(0, .r (spots O)),(1, .r (I x)),(2, .r (I n)),(8, .own 0),(9, .r (.b q.2.2)),(10, .own 1),(17, .r (I i)),(19, .r (is (upL n u))),(20, .r (I q.1))],O:=[(0,some (.box (y.c.map .r))),(1,some (.ch 3 1 q.2.1.length (q.2.1.map I) true))],nx:=2})
    (λq=>q.1<=(upL n u).length/\((upL n u).take q.1).foldl (zby O x) (out0,ok0)=(q.2.1,q.2.2)/\q.2.1.length<=1+18*i+q.1) (λq=>(upL n u).length-q.1) (0,out0,ok0) ⟨by simp,rfl,by simp only;omega⟩
    (zad [(0,0),(1,1)] rfl ⟨cr,cr,cr,rfl,cr,rfl,cr,cr,cr,trivial⟩ ⟨zab y.c,zbg rfl,trivial⟩) ?_
   rintro⟨j,out,ok⟩ ⟨hj,hacc,hlen⟩
   simp only at hj hacc hlen
   refine zh (λh2=>zq ?_) (λh2=>zt ?_)
   ·simp only[zb]at h2
    have hj':j< (upL n u).length:=by omega
    have hsn:=zfx (f:=zby O x) (b:=(out0,ok0)) hj'
    rw[hacc]at hsn
    obtain⟨z,hz⟩: ∃z,z=(upL n u)[j]:=⟨_,rfl⟩
    rw[<-hz]at hsn
    refine zm (by omega) (by omega) (zai rfl hj') (zg rfl ?_)
    rw[<-hz]
    refine zh (λh3=>?_) (λh3=>zt ?_)
    ·simp only[zb]at h3
     refine zm (by omega) (by omega) (zai rfl hj') (zg rfl ?_)
     rw[<-hz]
     refine Vcall.bool (zj5 z x) (λh4=>?_) (λh4=>zt ?_)
     ·refine zm (by omega) (by omega) (zai rfl hj') (zg rfl ?_)
      rw[<-hz]
      refine Vcall.bool (zk2 out z (by omega)) (λh5=>zw rfl (zt ?_)) (λh5=>zu rfl (zq ?_))
      ·simp only[zb]at h5
       refine zd (m:=((j+1:Nat):Int)) (by omega) (by omega) ?_
       exact⟨(j+1,out,ok),⟨hj',by rw[hsn];simp only[zby];rw[if_neg (λh=>h.2.2 h5)],by simp only;omega⟩,by simp only;omega,zad [(0,0),(1,1)] rfl ⟨cr,cr,cr,rfl,cr,rfl,cr,cr,cr,trivial⟩ ⟨zab y.c,zbg rfl,trivial⟩⟩
      ·simp only[zb]at h5
       have hst:zby O x (out,ok) z=(out++[z],ok&&(zae O z).isSome):=by simp only[zby];rw[if_pos ⟨h3,h4,h5⟩]
       rw[hst]at hsn
       refine zm (by omega) (by omega) (zai rfl hj') (zg rfl ?_)
       rw[<-hz]
       refine zx ?_
       refine Vapp.mk' (j:=(out++[z]).length) (zs:=(out++[z]).map I) (by simp only[maxLen];omega) (by simp;omega) (by simp) (by simp[zb8,cellsOf]) ?_
       refine zm (by omega) (by omega) (zai rfl hj') (zg rfl ?_)
       rw[<-hz]
       refine ze (ze5 O z (by omega)) ?_
       have hle:(out++[z]).length<=1+18*i+(j+1):=by simp;omega
       cases hfz:zae O z with
       |none=>
        rw[hfz]at hsn
        cases ok with
        |false=>
         refine zd (m:=((j+1:Nat):Int)) (by omega) (by omega) ?_
         exact⟨(j+1,out++[z],false),⟨hj',hsn,hle⟩,by simp only;omega,zad [(0,0),(1,_)] rfl ⟨cr,cr,cr,rfl,cr,rfl,cr,cr,cr,trivial⟩ ⟨zab y.c,zbg rfl,trivial⟩⟩
        |true=>
         refine zd (m:=((j+1:Nat):Int)) (by omega) (by omega) ?_
         exact⟨(j+1,out++[z],false),⟨hj',hsn,hle⟩,by simp only;omega,zad [(0,0),(1,_)] rfl ⟨cr,cr,cr,rfl,cr,rfl,cr,cr,cr,trivial⟩ ⟨zab y.c,zbg rfl,trivial⟩⟩
       |some m=>
        rw[hfz]at hsn
        cases ok with
        |false=>
         refine zd (m:=((j+1:Nat):Int)) (by omega) (by omega) ?_
         exact⟨(j+1,out++[z],false),⟨hj',hsn,hle⟩,by simp only;omega,zad [(0,0),(1,_)] rfl ⟨cr,cr,cr,rfl,cr,rfl,cr,cr,cr,trivial⟩ ⟨zab y.c,zbg rfl,trivial⟩⟩
        |true=>
         refine zd (m:=((j+1:Nat):Int)) (by omega) (by omega) ?_
         exact⟨(j+1,out++[z],true),⟨hj',hsn,hle⟩,by simp only;omega,zad [(0,0),(1,_)] rfl ⟨cr,cr,cr,rfl,cr,rfl,cr,cr,cr,trivial⟩ ⟨zab y.c,zbg rfl,trivial⟩⟩
     ·refine zd (m:=((j+1:Nat):Int)) (by omega) (by omega) ?_
      exact⟨(j+1,out,ok),⟨hj',by rw[hsn];simp only[zby];rw[if_neg (λh=>by rw[h4]at h;cases h.2.1)],by simp only;omega⟩,by simp only;omega,zad [(0,0),(1,1)] rfl ⟨cr,cr,cr,rfl,cr,rfl,cr,cr,cr,trivial⟩ ⟨zab y.c,zbg rfl,trivial⟩⟩
    ·simp only[zb]at h3
     refine zd (m:=((j+1:Nat):Int)) (by omega) (by omega) ?_
     exact⟨(j+1,out,ok),⟨hj',by rw[hsn];simp only[zby];rw[if_neg (λh=>h.1 h3)],by simp only;omega⟩,by simp only;omega,zad [(0,0),(1,1)] rfl ⟨cr,cr,cr,rfl,cr,rfl,cr,cr,cr,trivial⟩ ⟨zab y.c,zbg rfl,trivial⟩⟩
   ·simp only[zb]at h2
    rw[List.take_of_length_le (by omega)]at hacc
    have hsn:=zfx (f:=λa u=>(upL n u).foldl (zby O x) a) (b:=([x],true)) hi'
    have hacc0':(y.par.late.take i).foldl (λa u=>(upL n u).foldl (zby O x) a) ([x],true)=(out0,ok0):=hacc0
    rw[hacc0',<-hue,hacc]at hsn
    refine zd (m:=((i+1:Nat):Int)) (by omega) (by omega) ?_
    exact⟨(i+1,out,ok),⟨hi',hsn,by simp only;omega⟩,by simp only;omega,zad [(0,0),(1,1)] rfl ⟨cr,cr,cr,rfl,cr,rfl,cr,trivial⟩ ⟨zab y.c,zbg rfl,trivial⟩⟩
  ·simp only[zb]at h1
   rw[List.take_of_length_le (by omega)]at hacc0
   rw[hacc0]
   exact⟨_,rfl,cr⟩
 ·refine zy (λi:Nat×List Int×Bool=>{F:=[(0, .r (spots O)),(1, .r (I x)),(2, .r (I n)),(8, .own 0),(9, .r (.b i.2.2)),(10, .own 1),(17, .r (I i.1))],O:=[(0,some (.box (y.c.map .r))),(1,some (.ch 3 1 i.2.1.length (i.2.1.map I) true))],nx:=2})
   (λi=>i.1<=y.par.late.length/\zd5 O x n (y.par.late.take i.1) ([x],true)=(i.2.1,i.2.2)/\i.2.1.length<=1+18*i.1) (λi=>y.par.late.length-i.1) (0,[x],true) ⟨by simp,rfl,by simp⟩
   (zad [(0,0),(1,1)] rfl ⟨cr,cr,cr,rfl,cr,rfl,cr,trivial⟩ ⟨zab y.c,⟨rfl,rfl,rfl,rfl,zn _⟩,trivial⟩) ?_
  rintro⟨i,out0,ok0⟩ ⟨hi,hacc0,hlen0⟩
  simp only at hi hacc0 hlen0
  refine zh (λh1=>zq ?_) (λh1=>zt ?_)
  ·simp only[zb]at h1
   have hi':i<y.par.late.length:=by omega
   have hu:=hd _ (List.getElem_mem hi')
   unfold za6 at hu
   refine zm (by omega) (by omega) (zai rfl hi') (zg rfl ?_)
   refine zd rfl (by omega) ?_
   refine zx ?_
   refine ze (zsy _ _) ?_
   obtain⟨u,hue⟩: ∃u,u=y.par.late[i]:=⟨_,rfl⟩
   have hul:=zv7 n u
   refine Vapp.mk' (j:=(upL n u).length) (zs:=(upL n u).map I) (by rw[<-hue];simp only[upL,List.length_cons,maxLen]at*;omega) (by rw[<-hue];simp only[upL,List.length_cons]at*;omega) (by rw[<-hue];simp only[upL,List.length_cons];omega) (by rw[<-hue];rfl) ?_
   refine zy (λq:Nat×List Int×Bool=>{F:=[(0, .r (spots O)),(1, .r (I x)),(2, .r (I n)),(8, .own 0),(9, .r (.b q.2.2)),(10, .own 1),(17, .r (I i)),(19, .r (is (upL n u))),(20, .r (I q.1))],O:=[(0,some (.box (y.c.map .r))),(1,some (.ch 3 1 q.2.1.length (q.2.1.map I) true))],nx:=2})
    (λq=>q.1<=(upL n u).length/\((upL n u).take q.1).foldl (zby O x) (out0,ok0)=(q.2.1,q.2.2)/\q.2.1.length<=1+18*i+q.1) (λq=>(upL n u).length-q.1) (0,out0,ok0) ⟨by simp,rfl,by simp only;omega⟩
    (zad [(0,0),(1,1)] rfl ⟨cr,cr,cr,rfl,cr,rfl,cr,cr,cr,trivial⟩ ⟨zab y.c,zbg rfl,trivial⟩) ?_
   rintro⟨j,out,ok⟩ ⟨hj,hacc,hlen⟩
   simp only at hj hacc hlen
   refine zh (λh2=>zq ?_) (λh2=>zt ?_)
   ·simp only[zb]at h2
    have hj':j< (upL n u).length:=by omega
    have hsn:=zfx (f:=zby O x) (b:=(out0,ok0)) hj'
    rw[hacc]at hsn
    obtain⟨z,hz⟩: ∃z,z=(upL n u)[j]:=⟨_,rfl⟩
    rw[<-hz]at hsn
    refine zm (by omega) (by omega) (zai rfl hj') (zg rfl ?_)
    rw[<-hz]
    refine zh (λh3=>?_) (λh3=>zt ?_)
    ·simp only[zb]at h3
     refine zm (by omega) (by omega) (zai rfl hj') (zg rfl ?_)
     rw[<-hz]
     refine Vcall.bool (zj5 z x) (λh4=>?_) (λh4=>zt ?_)
     ·refine zm (by omega) (by omega) (zai rfl hj') (zg rfl ?_)
      rw[<-hz]
      refine Vcall.bool (zk2 out z (by omega)) (λh5=>zw rfl (zt ?_)) (λh5=>zu rfl (zq ?_))
      ·simp only[zb]at h5
       refine zd (m:=((j+1:Nat):Int)) (by omega) (by omega) ?_
       exact⟨(j+1,out,ok),⟨hj',by rw[hsn];simp only[zby];rw[if_neg (λh=>h.2.2 h5)],by simp only;omega⟩,by simp only;omega,zad [(0,0),(1,1)] rfl ⟨cr,cr,cr,rfl,cr,rfl,cr,cr,cr,trivial⟩ ⟨zab y.c,zbg rfl,trivial⟩⟩
      ·simp only[zb]at h5
       have hst:zby O x (out,ok) z=(out++[z],ok&&(zae O z).isSome):=by simp only[zby];rw[if_pos ⟨h3,h4,h5⟩]
       rw[hst]at hsn
       refine zm (by omega) (by omega) (zai rfl hj') (zg rfl ?_)
       rw[<-hz]
       refine zx ?_
       refine Vapp.mk' (j:=(out++[z]).length) (zs:=(out++[z]).map I) (by simp only[maxLen];omega) (by simp;omega) (by simp) (by simp[zb8,cellsOf]) ?_
       refine zm (by omega) (by omega) (zai rfl hj') (zg rfl ?_)
       rw[<-hz]
       refine ze (ze5 O z (by omega)) ?_
       have hle:(out++[z]).length<=1+18*i+(j+1):=by simp;omega
       cases hfz:zae O z with
       |none=>
        rw[hfz]at hsn
        cases ok with
        |false=>
         refine zd (m:=((j+1:Nat):Int)) (by omega) (by omega) ?_
         exact⟨(j+1,out++[z],false),⟨hj',hsn,hle⟩,by simp only;omega,zad [(0,0),(1,_)] rfl ⟨cr,cr,cr,rfl,cr,rfl,cr,cr,cr,trivial⟩ ⟨zab y.c,zbg rfl,trivial⟩⟩
        |true=>
         refine zd (m:=((j+1:Nat):Int)) (by omega) (by omega) ?_
         exact⟨(j+1,out++[z],false),⟨hj',hsn,hle⟩,by simp only;omega,zad [(0,0),(1,_)] rfl ⟨cr,cr,cr,rfl,cr,rfl,cr,cr,cr,trivial⟩ ⟨zab y.c,zbg rfl,trivial⟩⟩
       |some m=>
        rw[hfz]at hsn
        cases ok with
        |false=>
         refine zd (m:=((j+1:Nat):Int)) (by omega) (by omega) ?_
         exact⟨(j+1,out++[z],false),⟨hj',hsn,hle⟩,by simp only;omega,zad [(0,0),(1,_)] rfl ⟨cr,cr,cr,rfl,cr,rfl,cr,cr,cr,trivial⟩ ⟨zab y.c,zbg rfl,trivial⟩⟩
        |true=>
         refine zd (m:=((j+1:Nat):Int)) (by omega) (by omega) ?_
         exact⟨(j+1,out++[z],true),⟨hj',hsn,hle⟩,by simp only;omega,zad [(0,0),(1,_)] rfl ⟨cr,cr,cr,rfl,cr,rfl,cr,cr,cr,trivial⟩ ⟨zab y.c,zbg rfl,trivial⟩⟩
     ·refine zd (m:=((j+1:Nat):Int)) (by omega) (by omega) ?_
      exact⟨(j+1,out,ok),⟨hj',by rw[hsn];simp only[zby];rw[if_neg (λh=>by rw[h4]at h;cases h.2.1)],by simp only;omega⟩,by simp only;omega,zad [(0,0),(1,1)] rfl ⟨cr,cr,cr,rfl,cr,rfl,cr,cr,cr,trivial⟩ ⟨zab y.c,zbg rfl,trivial⟩⟩
    ·simp only[zb]at h3
     refine zd (m:=((j+1:Nat):Int)) (by omega) (by omega) ?_
     exact⟨(j+1,out,ok),⟨hj',by rw[hsn];simp only[zby];rw[if_neg (λh=>h.1 h3)],by simp only;omega⟩,by simp only;omega,zad [(0,0),(1,1)] rfl ⟨cr,cr,cr,rfl,cr,rfl,cr,cr,cr,trivial⟩ ⟨zab y.c,zbg rfl,trivial⟩⟩
   ·simp only[zb]at h2
    rw[List.take_of_length_le (by omega)]at hacc
    have hsn:=zfx (f:=λa u=>(upL n u).foldl (zby O x) a) (b:=([x],true)) hi'
    have hacc0':(y.par.late.take i).foldl (λa u=>(upL n u).foldl (zby O x) a) ([x],true)=(out0,ok0):=hacc0
    rw[hacc0',<-hue,hacc]at hsn
    refine zd (m:=((i+1:Nat):Int)) (by omega) (by omega) ?_
    exact⟨(i+1,out,ok),⟨hi',hsn,by simp only;omega⟩,by simp only;omega,zad [(0,0),(1,1)] rfl ⟨cr,cr,cr,rfl,cr,rfl,cr,trivial⟩ ⟨zab y.c,zbg rfl,trivial⟩⟩
  ·simp only[zb]at h1
   rw[List.take_of_length_le (by omega)]at hacc0
   rw[hacc0]
   exact⟨_,rfl,cr⟩
theorem zw7(O:List Spot)(x n:Int): ∀(late:List Int) (a:List Int×Bool),(zd5 O x n late a).1.length<=a.1.length+18*late.length:=by
 have one: ∀(l:List Int) (a:List Int×Bool),(l.foldl (zby O x) a).1.length<=a.1.length+l.length:=by
  intro l
  induction l with
  |nil=>intro a;simp
  |cons z l ih=>
   intro a
   have:=ih (zby O x a z)
   have h1:(zby O x a z).1.length<=a.1.length+1:=by unfold zby;split<;>simp
   simp only[List.foldl_cons,List.length_cons]
   omega
 intro late
 induction late with
 |nil=>intro a;simp[zd5]
 |cons u late ih=>
  intro a
  have h1:=ih ((upL n u).foldl (zby O x) a)
  have h2:=one (upL n u) a
  have h3:=zv7 n u
  simp only[zd5,List.foldl_cons,List.length_cons]at*
  omega
def zh8(O:List Spot):Prop:=∀s∈O,s.node.par.late.length<=65536/\∀u∈s.node.par.late,za6 u
theorem ziu(O:List Spot)(hO:zh8 O)(n:Int): ∀h k,(zay O n h k).1.length<=1400000*2^(h+1)-1400000
 |0,k=>by
  unfold zay
  split
  ·simp
  ·rename_i y hy
   obtain⟨sp,hsp,_,rfl⟩:=za7 hy
   have:=zw7 O (nd 0 k) n sp.node.par.late ([(nd 0 k:Int)],true)
   have:=(hO sp hsp).1
   simp at*;omega
 |h+1,k=>by
  have h1:=ziu O hO n h (2*k)
  have h2:=ziu O hO n h (2*k+1)
  have hp:=zag (h+1)
  rw[Nat.pow_succ 2 (h+1)]
  unfold zay
  split
  ·simp
  ·rename_i y hy
   obtain⟨sp,hsp,_,rfl⟩:=za7 hy
   split
   ·simp;omega
   ·have:=zw7 O (nd (h+1) k) n sp.node.par.late ([(nd (h+1) k:Int)],true)
    have:=(hO sp hsp).1
    simp at*;omega
theorem ztt{h:Nat}(hh:h<=16):2^(h+1)<=131072:=Nat.pow_le_pow_right (n:=2) (by omega) (show h+1<=17 by omega)
theorem zye(O:List Spot)(hO:O.length<=1000000)(hOl:zh8 O)(n:Int)(h:Nat)(hh:h+1<=16)(ih: ∀k,k<2^(16-h)->zaf Tryz.prog 48 [spots O,I (nd h k),I n] (.r (.tu [is (zay O n h k).1, .b (zay O n h k).2])))
  (k:Nat) (hk:k<2^(16-(h+1))) (y:Node) (hy:zae O (nd (h+1) k)=some y) (hy0:y.kind.toNat=0):
  zaf Tryz.prog 48 [spots O,I (nd (h+1) k),I n] (.r (.tu [is (zay O n (h+1) k).1, .b (zay O n (h+1) k).2])):=by
 refine zac (T:=Tab) mixed Tab_ok Tryz.func48 rfl (by kernel_rfl) ?_
 have hleft:=zdk (d:=16) (by omega) (show h+1<=16 by omega) hk
 have hright:=zc7 (d:=16) (by omega) (show h+1<=16 by omega) hk
 have hk2:2^(16-h)=2*2^(16-(h+1)):=by rw[show 16-h=(16-(h+1))+1 by omega,Nat.pow_succ];omega
 have hfind:=ze5 O (nd (h+1) k) (by omega)
 rw[hy]at hfind
 have e:zay O n (h+1) k=([(nd (h+1) k:Int)]++(zay O n h (2*k)).1++(zay O n h (2*k+1)).1,(zay O n h (2*k)).2&&(zay O n h (2*k+1)).2):=by
  simp[zay,hy,hy0]
 rw[e]
 have l1:=ziu O hOl n h (2*k)
 have l2:=ziu O hOl n h (2*k+1)
 have p17:=ztt (show h<=16 by omega)
 have g1:=ih (2*k) (by omega)
 have g2:=ih (2*k+1) (by omega)
 obtain⟨p1,b1,e1⟩: ∃p b,zay O n h (2*k)=(p,b):=⟨_,_,rfl⟩
 obtain⟨p2,b2,e2⟩: ∃p b,zay O n h (2*k+1)=(p,b):=⟨_,_,rfl⟩
 rw[e1]at g1 l1
 rw[e2]at g2 l2
 rw[e1,e2]
 simp only at g1 g2 l1 l2⊢
 refine ze hfind ?_
 refine zw rfl (zt ?_)
 refine zx ?_
 refine zu (by simp only[zb];omega) ?_
 refine⟨by decide,_,rfl,?_⟩
 refine zu (by rw[zc5];rfl) (zq ?_)
 refine ze (zgq _) ?_
 rw[hleft,hright]
 refine ze g1 ?_
 refine ze g2 ?_
 refine Vapp.mk' (j:=([(nd (h+1) k:Int)]++p1).length) (zs:=([(nd (h+1) k:Int)]++p1).map I) (by simp only[maxLen];omega) (by simp;omega) (by simp;omega) (by simp[zb8,cellsOf]) ?_
 refine Vapp.mk' (j:=([(nd (h+1) k:Int)]++p1++p2).length) (zs:=([(nd (h+1) k:Int)]++p1++p2).map I) (by simp[maxLen];omega) (by simp;omega) (by simp;omega) (by simp) ?_
 cases b1<;>exact⟨_,rfl,cr⟩
theorem zeib(O:List Spot)(hO:O.length<=1000000)(hOl:zh8 O)(n:Int): ∀(h k:Nat),h<=16->k<2^(16-h)->zaf Tryz.prog 48 [spots O,I (nd h k),I n] (.r (.tu [is (zay O n h k).1, .b (zay O n h k).2])):=by
 have none_case: ∀(x:Int),zae O x=none->zaf Tryz.prog 48 [spots O,I x,I n] (.r (.tu [is [], .b false])):=λx hx=>by
  refine zac (T:=Tab) mixed Tab_ok Tryz.func48 rfl (by kernel_rfl) ?_
  have hfind:=ze5 O x (by omega)
  rw[hx]at hfind
  refine ze hfind ?_
  refine zu rfl (zq ?_)
  exact⟨_,rfl,Cv.tu (zk (Cv.nil 1) (zn _))⟩
 intro h
 induction h with
 |zero=>
  intro k _ hk
  cases hy:zae O (nd 0 k)with
  |none=>
   have e:zay O n 0 k=([],false):=by simp[zay,hy]
   rw[e];exact none_case _ hy
  |some y=>
   obtain⟨sp,hsp,_,rfl⟩:=za7 hy
   have e:zay O n 0 k=zd5 O (nd 0 k) n sp.node.par.late ([(nd 0 k:Int)],true):=by simp[zay,hy]
   rw[e]
   exact zqg O hO _ n _ hy (λh=>by rw[zck]at h;omega) (hOl sp hsp).1 (hOl sp hsp).2
 |succ h ih=>
  intro k hh hk
  cases hy:zae O (nd (h+1) k)with
  |none=>
   have e:zay O n (h+1) k=([],false):=by simp[zay,hy]
   rw[e];exact none_case _ hy
  |some y=>
   by_cases h0:y.kind.toNat=0
   ·exact zye O hO hOl n h hh (λk hk=>ih k (by omega) hk) k hk y hy h0
   ·obtain⟨sp,hsp,_,rfl⟩:=za7 hy
    have e:zay O n (h+1) k=zd5 O (nd (h+1) k) n sp.node.par.late ([(nd (h+1) k:Int)],true):=by simp[zay,hy,h0]
    rw[e]
    exact zqg O hO _ n _ hy (λh=>h0 h.1) (hOl sp hsp).1 (hOl sp hsp).2
end Go.Proofs.YtpdllgbfemnemaaGreat.Sx
