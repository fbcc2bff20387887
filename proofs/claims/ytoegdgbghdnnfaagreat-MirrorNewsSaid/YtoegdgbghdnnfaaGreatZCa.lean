import Derived.Test.YtoegdgbghdnnfaaGreatZKc
import Derived.Test.YtoegdgbghdnnfaaGreatZHp
import Derived.Test.YtoegdgbghdnnfaaGreatZKq
import Derived.Test.YtoegdgbghdnnfaaGreatZSxPt
import Derived.Test.YtoegdgbghdnnfaaGreatZHi
import Derived.Test.YtoegdgbghdnnfaaGreatZEq
namespace Go.Proofs.YtoegdgbghdnnfaaGreat.Sx
open Go.RowKit
def okT(t:List Node)(j:Nat):Prop:=(nT t j).right=true/\¬(j%2=0/\(nT t j).kind.toNat=2)/\¬(j%2=1/\(nT t j).kind.toNat=1)
def zf9(t:List Node)(n:Int)(j:Nat):Bool:=(List.range j).any λi=>decide ((nT t i).kind.toNat=1/\(n=1\/n<=(i:Int)))
theorem zd3(t:List Node)(n:Int)(j:Nat):zf9 t n (j+1)=(zf9 t n j||decide ((nT t j).kind.toNat=1/\(n=1\/n<=(j:Int)))):=by
 unfold zf9
 rw[List.range_succ,List.any_append]
 simp
def zww(t:List Node)(j:Nat)(u:Int)(y:Nat):Prop:=¬((nT t y).kind.toNat=2/\za2 (2*u) (y:Int)=true/\za2 (y:Int) (j:Int)=true/\u∉(nT t y).par.late)
def zdv(t:List Node)(n:Int)(j:Nat)(u:Int):Prop:=u<n/\(nT t (2*u).toNat).kind.toNat=1/\za2 (2*u) (j:Int)=true/\∀y,y<t.length->zww t j u y
structure RightT (t:List Node):Prop where
 n:zat t≠0
 ok: ∀j,j<t.length->okT t j
 some:zf9 t (zat t) t.length=true
 late: ∀j,j<t.length->∀u∈(nT t j).par.late,zdv t (zat t) j u
open Classical in
noncomputable def rightT (t:List Node):Bool:=decide (RightT t)
theorem zeq{t:List Node}:rightT t=true↔RightT t:=by simp[rightT]
theorem zvv{t:List Node}(h: ¬RightT t):rightT t=false:=by simp[rightT,h]
theorem zff{t:List Node}(h:zat t≠0):((t.length:Nat):Int)=2*zat t-1/\zck (zat t)=true/\0<t.length:=by
 unfold zat at h⊢
 split at h
 ·rename_i h2
  obtain⟨h3,h4⟩:=h2
  have:=zdc h3
  rw[if_pos ⟨h3,h4⟩]
  exact⟨by omega,h3,by omega⟩
 ·exact absurd rfl h
set_option maxHeartbeats 1000000 in
theorem z6l(t:List Node)(h1:t.length<=1000000)(hfit: ∀x∈t,x.fit):bG 7 [nods t] (.r (.b (rightT t))):=by
 refine bT Tryz.func7 rfl ?_
 have no: ¬RightT t->RV.b false=RV.b (rightT t):=λh=>by rw[zvv h]
 refine ze (z3h t h1) ?_
 refine zh (λh=>zq ?_) (λh=>zt ?_)
 ·simp only[zb]at h
  exact zf (no λr=>r.n h)
 simp only[zb]at h
 obtain⟨hl,hf,hpos⟩:=zff h
 have hb:=zdc hf
 obtain⟨n,hn⟩: ∃n,n=zat t:=⟨_,rfl⟩
 rw[<-hn]at hl hf hb h⊢
 refine Vloop.mk' (λj:Nat=>{F:=[(0, .r (nods t)),(3, .r (I n)),(4, .r (.b (zf9 t n j))),(5, .r (I j))],O:=[],nx:=0}) (λj=>j<=t.length/\∀i,i<j->okT t i) (λj=>t.length-j) 0 ⟨by omega,by omega⟩ (zac [] rfl ⟨cr,cr,cr,cr,trivial⟩ trivial) ?_
 rintro j ⟨hj,hok⟩
 refine zh (λh2=>zq ?_) (λh2=>zt ?_)
 ·simp only[zb]at h2
  have hj':j<t.length:=by omega
  have hmod:(j:Int).tmod 2=((j%2:Nat):Int):=by rw[Int.tmod_eq_emod_of_nonneg (by omega)];omega
  have bad: ¬okT t j->RV.b false=RV.b (rightT t):=λhh=>no λr=>hh (r.ok j hj')
  have g16:=z6k (nT t j) (hfit _ (zci hj'))
  refine zm (by omega) (by omega) (zbs rfl hj') (zg rfl ?_)
  refine zm (by omega) (by omega) (zbs rfl hj') ?_
  refine za rfl rfl ?_
  refine Vcall.bool g16 (λhr=>zw rfl ?_) (λhr=>zu rfl (zq ?_))
  rotate_left
  ·exact zf (bad λk=>by rw[k.1]at hr;cases hr)
  refine⟨by decide,_,rfl,?_⟩
  have next:okT t j->∀i,i<j+1->okT t i:=λhk i hi=>by
   rcases Nat.lt_or_ge i j with h3 |h3
   ·exact hok i h3
   ·have:i=j:=by omega
    subst this;exact hk
  refine zh (λh3=>?_) (λh3=>?_)
  ·simp only[zb]at h3
   rw[hmod]at h3
   refine zh (λh4=>zq ?_) (λh4=>?_)
   ·simp only[zb]at h4
    exact zf (bad λk=>k.2.1 ⟨by omega,by omega⟩)
   simp only[zb]at h4
   refine⟨by decide,_,rfl,?_⟩
   refine zw (by simp only[zb];rw[hmod];omega) (zt ?_)
   have hk:okT t j:=⟨hr,by omega,by omega⟩
   cases hs:zf9 t n j with
   |true=>
    refine zd (m:=((j+1:Nat):Int)) (by omega) (by omega) ?_
    exact⟨j+1,⟨hj',next hk⟩,by omega,zac [] rfl ⟨cr,cr,zf (congrArg RV.b (by rw[zd3,hs];simp[])),cr,trivial⟩ trivial⟩
   |false=>
    refine zh (λk1=>?_) (λk1=>?_)
    ·simp only[zb]at k1
     have k1':(nT t j).kind.toNat=1:=by omega
     refine zh (λk2=>?_) (λk2=>?_)
     ·simp only[zb]at k2
      refine zd (m:=((j+1:Nat):Int)) (by omega) (by omega) ?_
      exact⟨j+1,⟨hj',next hk⟩,by omega,zac [] rfl ⟨cr,cr,zf (congrArg RV.b (by rw[zd3,hs];simp[k1',k2])),cr,trivial⟩ trivial⟩
     ·simp only[zb]at k2
      refine zh (λk3=>?_) (λk3=>?_)
      ·simp only[zb]at k3
       have k3':n<=(j:Int):=by omega
       refine zd (m:=((j+1:Nat):Int)) (by omega) (by omega) ?_
       exact⟨j+1,⟨hj',next hk⟩,by omega,zac [] rfl ⟨cr,cr,zf (congrArg RV.b (by rw[zd3,hs];simp[k1',k3'])),cr,trivial⟩ trivial⟩
      ·simp only[zb]at k3
       have k3': ¬n<=(j:Int):=by omega
       refine zd (m:=((j+1:Nat):Int)) (by omega) (by omega) ?_
       exact⟨j+1,⟨hj',next hk⟩,by omega,zac [] rfl ⟨cr,cr,zf (congrArg RV.b (by rw[zd3,hs];simp[k2,k3'])),cr,trivial⟩ trivial⟩
    ·simp only[zb]at k1
     have k1': ¬(nT t j).kind.toNat=1:=by omega
     refine zd (m:=((j+1:Nat):Int)) (by omega) (by omega) ?_
     exact⟨j+1,⟨hj',next hk⟩,by omega,zac [] rfl ⟨cr,cr,zf (congrArg RV.b (by rw[zd3,hs];simp[k1'])),cr,trivial⟩ trivial⟩
  ·simp only[zb]at h3
   rw[hmod]at h3
   refine⟨by decide,_,rfl,?_⟩
   refine zu (by simp only[zb];rw[hmod];omega) ?_
   refine zh (λh4=>zq ?_) (λh4=>zt ?_)
   ·simp only[zb]at h4
    exact zf (bad λk=>k.2.2 ⟨by omega,by omega⟩)
   simp only[zb]at h4
   have hk:okT t j:=⟨hr,by omega,by omega⟩
   cases hs:zf9 t n j with
   |true=>
    refine zd (m:=((j+1:Nat):Int)) (by omega) (by omega) ?_
    exact⟨j+1,⟨hj',next hk⟩,by omega,zac [] rfl ⟨cr,cr,zf (congrArg RV.b (by rw[zd3,hs];simp[])),cr,trivial⟩ trivial⟩
   |false=>
    refine zh (λk1=>?_) (λk1=>?_)
    ·simp only[zb]at k1
     have k1':(nT t j).kind.toNat=1:=by omega
     refine zh (λk2=>?_) (λk2=>?_)
     ·simp only[zb]at k2
      refine zd (m:=((j+1:Nat):Int)) (by omega) (by omega) ?_
      exact⟨j+1,⟨hj',next hk⟩,by omega,zac [] rfl ⟨cr,cr,zf (congrArg RV.b (by rw[zd3,hs];simp[k1',k2])),cr,trivial⟩ trivial⟩
     ·simp only[zb]at k2
      refine zh (λk3=>?_) (λk3=>?_)
      ·simp only[zb]at k3
       have k3':n<=(j:Int):=by omega
       refine zd (m:=((j+1:Nat):Int)) (by omega) (by omega) ?_
       exact⟨j+1,⟨hj',next hk⟩,by omega,zac [] rfl ⟨cr,cr,zf (congrArg RV.b (by rw[zd3,hs];simp[k1',k3'])),cr,trivial⟩ trivial⟩
      ·simp only[zb]at k3
       have k3': ¬n<=(j:Int):=by omega
       refine zd (m:=((j+1:Nat):Int)) (by omega) (by omega) ?_
       exact⟨j+1,⟨hj',next hk⟩,by omega,zac [] rfl ⟨cr,cr,zf (congrArg RV.b (by rw[zd3,hs];simp[k2,k3'])),cr,trivial⟩ trivial⟩
    ·simp only[zb]at k1
     have k1': ¬(nT t j).kind.toNat=1:=by omega
     refine zd (m:=((j+1:Nat):Int)) (by omega) (by omega) ?_
     exact⟨j+1,⟨hj',next hk⟩,by omega,zac [] rfl ⟨cr,cr,zf (congrArg RV.b (by rw[zd3,hs];simp[k1'])),cr,trivial⟩ trivial⟩
 simp only[zb]at h2
 have hjl:j=t.length:=by omega
 subst hjl
 cases hs:zf9 t n t.length with
 |false=>
  refine zu rfl (zq ?_)
  exact zf (no λr=>by have:=r.some;rw[<-hn,hs]at this;cases this)
 |true=>
 refine zw rfl (zt ?_)
 have hR:(∀j,j<t.length->∀u∈(nT t j).par.late,zdv t n j u)↔RightT t:=⟨λhh=>⟨by rw[<-hn];exact h,hok,by rw[<-hn];exact hs,by rw[<-hn];exact hh⟩,λr=>by rw[hn];exact r.late⟩
 refine Vloop.mk' (λj:Nat=>{F:=[(0, .r (nods t)),(3, .r (I n)),(7, .r (I j))],O:=[],nx:=0}) (λj=>j<=t.length/\∀i,i<j->∀u∈(nT t i).par.late,zdv t n i u) (λj=>t.length-j) 0 ⟨by omega,by omega⟩ (zac [] rfl ⟨cr,cr,cr,trivial⟩ trivial) ?_
 rintro j ⟨hj,hlt⟩
 refine zh (λh2=>zq ?_) (λh2=>zt ?_)
 rotate_left
 ·simp only[zb]at h2
  refine zf (congrArg RV.b (Eq.symm (zeq.2 (hR.1 λi hi=>hlt i (by omega)))))
 simp only[zb]at h2
 have hj':j<t.length:=by omega
 obtain⟨L,hL⟩: ∃L,L=(nT t j).par.late:=⟨_,rfl⟩
 have hfl:=(hfit _ (zci hj')).2
 have hLl:L.length<=100000000:=hL▸hfl.2.2.1
 have hLd: ∀u∈L,za6 u:=hL▸Node.right_late (hok j hj').1
 have badj: ∀u∈L,¬zdv t n j u->RV.b false=RV.b (rightT t):=λu hu hh=>no λr=>hh (hR.2 r j hj' u (hL▸hu))
 refine zm (by omega) (by omega) (zbs rfl hj') (zg rfl ?_)
 refine Vloop.mk' (λi:Nat=>{F:=[(0, .r (nods t)),(3, .r (I n)),(7, .r (I j)),(8, .r (is L)),(9, .r (I i))],O:=[],nx:=0}) (λi=>i<=L.length/\∀u∈L.take i,zdv t n j u) (λi=>L.length-i) 0 ⟨by omega,by simp⟩ (zac [] rfl ⟨cr,cr,cr,zf (by rw[hL]),cr,trivial⟩ trivial) ?_
 rintro i ⟨hi,hli⟩
 refine zh (λh3=>zq ?_) (λh3=>zt ?_)
 rotate_left
 ·simp only[zb]at h3
  rw[List.take_of_length_le (by omega)]at hli
  refine zd (m:=((j+1:Nat):Int)) (by omega) (by omega) ?_
  refine⟨j+1,⟨hj',λk hk=>?_⟩,by omega,zac [] rfl ⟨cr,cr,cr,trivial⟩ trivial⟩
  rcases Nat.lt_or_ge k j with h4 |h4
  ·exact hlt k h4
  ·have:k=j:=by omega
   subst this
   rw[<-hL];exact hli
 simp only[zb]at h3
 have hi':i<L.length:=by omega
 obtain⟨u,hu⟩: ∃u,u=L[i]:=⟨_,rfl⟩
 have hum:u∈L:=hu▸List.getElem_mem hi'
 have hud:=hLd u hum
 unfold za6 at hud
 have bad:=badj u hum
 refine zm (by omega) (by omega) (zaj rfl hi') (zg rfl ?_)
 rw[<-hu]
 refine zh (λh4=>zq ?_) (λh4=>?_)
 ·simp only[zb]at h4
  exact zf (bad λk=>by have:=k.1;omega)
 simp only[zb]at h4
 refine zm (by omega) (by omega) (zaj rfl hi') (zg rfl ?_)
 rw[<-hu]
 refine zd rfl (by omega) ?_
 refine zm (by omega) (by omega) (zbs (j:=(2*u).toNat) (by omega) (by omega)) (zg rfl ?_)
 refine zh (λh5=>zq ?_) (λh5=>?_)
 ·simp only[zb]at h5
  exact zf (bad λk=>by have:=k.2.1;omega)
 simp only[zb]at h5
 refine zm (by omega) (by omega) (zaj rfl hi') (zg rfl ?_)
 rw[<-hu]
 refine zd rfl (by omega) ?_
 refine Vcall.bool (zij _ _) (λh6=>zw rfl (zt ?_)) (λh6=>zu rfl (zq ?_))
 rotate_left
 ·exact zf (bad λk=>by have:=k.2.2.1;rw[h6]at this;cases this)
 refine Vloop.mk' (λy:Nat=>{F:=[(0, .r (nods t)),(3, .r (I n)),(7, .r (I j)),(8, .r (is L)),(9, .r (I i)),(10, .r (I y))],O:=[],nx:=0}) (λy=>y<=t.length/\∀z,z<y->zww t j u z) (λy=>t.length-y) 0 ⟨by omega,by omega⟩ (zac [] rfl ⟨cr,cr,cr,cr,cr,cr,trivial⟩ trivial) ?_
 rintro y ⟨hy,hov⟩
 refine zh (λh7=>zq ?_) (λh7=>zt ?_)
 rotate_left
 ·simp only[zb]at h7
  refine zd (m:=((i+1:Nat):Int)) (by omega) (by omega) ?_
  exact⟨i+1,⟨hi',zmt (p:=λu=>zdv t n j u) hi' hli (hu▸⟨by omega,by omega,h6,λz hz=>hov z (by omega)⟩)⟩,by omega,zac [] rfl ⟨cr,cr,cr,cr,cr,trivial⟩ trivial⟩
 simp only[zb]at h7
 have hy':y<t.length:=by omega
 have step:zww t j u y->∀z,z<y+1->zww t j u z:=λhh z hz=>by
  rcases Nat.lt_or_ge z y with h8 |h8
  ·exact hov z h8
  ·have:z=y:=by omega
   subst this;exact hh
 have hyl:=(hfit _ (zci hy')).2.2.2.1
 refine bV ?_
 refine zm (by omega) (by omega) (zbs rfl hy') (zg rfl ?_)
 refine zh (λk1=>?_) (λk1=>zt ?_)
 rotate_left
 ·simp only[zb]at k1
  refine zd (m:=((y+1:Nat):Int)) (by omega) (by omega) ?_
  exact⟨y+1,⟨hy',step (λk=>absurd k.1 (by omega))⟩,by omega,zac [] rfl ⟨cr,cr,cr,cr,cr,cr,trivial⟩ trivial⟩
 simp only[zb]at k1
 refine zm (by omega) (by omega) (zaj rfl hi') (zg rfl ?_)
 rw[<-hu]
 refine zd rfl (by omega) ?_
 refine Vcall.bool (zij _ _) (λk2=>?_) (λk2=>zt ?_)
 rotate_left
 ·refine zd (m:=((y+1:Nat):Int)) (by omega) (by omega) ?_
  exact⟨y+1,⟨hy',step (λk=>absurd k.2.1 (by rw[k2];decide))⟩,by omega,zac [] rfl ⟨cr,cr,cr,cr,cr,cr,trivial⟩ trivial⟩
 refine Vcall.bool (zij _ _) (λk3=>?_) (λk3=>zt ?_)
 rotate_left
 ·refine zd (m:=((y+1:Nat):Int)) (by omega) (by omega) ?_
  exact⟨y+1,⟨hy',step (λk=>absurd k.2.2.1 (by rw[k3];decide))⟩,by omega,zac [] rfl ⟨cr,cr,cr,cr,cr,cr,trivial⟩ trivial⟩
 refine zm (by omega) (by omega) (zbs rfl hy') (zg rfl ?_)
 refine zm (by omega) (by omega) (zaj rfl hi') (zg rfl ?_)
 rw[<-hu]
 refine Vcall.bool (z08 _ _ (by omega)) (λk4=>zw rfl (zt ?_)) (λk4=>zu rfl (zq ?_))
 ·simp only[zb]at k4
  refine zd (m:=((y+1:Nat):Int)) (by omega) (by omega) ?_
  exact⟨y+1,⟨hy',step (λk=>absurd k4 k.2.2.2)⟩,by omega,zac [] rfl ⟨cr,cr,cr,cr,cr,cr,trivial⟩ trivial⟩
 ·simp only[zb]at k4
  exact zf (bad λk=>k.2.2.2 y hy' ⟨by omega,k2,k3,k4⟩)
theorem zeob{n:Node}{k:Nat}(hk:k<65536)(hr:n.right=true)(h2:n.kind.toNat≠2):zgh k n=[1]++beB 4 k++zak n:=by
 unfold zgh zkc
 rw[if_neg (by omega),if_neg (by rw[hr];simp[h2])]
 simp
theorem ze7b{n:Node}{a b:List UInt8}(hr:n.right=true)(h1:n.kind.toNat≠1)(ha:a.length=32)(hb:b.length=32):zio n a b=[2]++zak n++(vecB a++vecB b):=by
 unfold zio zhv
 rw[if_neg (by rw[hr];simp[h1]),if_neg (by omega)]
 simp
def zcx(t:List Node)(l:List (List UInt8)):Nat->Nat->List (List UInt8)
 |0,k=>l.set (nd 0 k) (zas t 0 k)
 |h+1,k=>(zcx t (zcx t l h (2*k)) h (2*k+1)).set (nd (h+1) k) (zas t (h+1) k)
theorem zd0(t:List Node): ∀(h k:Nat) (l:List (List UInt8)),(zcx t l h k).length=l.length
 |0,k,l=>by simp[zcx]
 |h+1,k,l=>by simp[zcx,zd0 t h]
theorem zuw{l:List (List UInt8)}{x:Nat}{g:List UInt8}(hx:x<l.length):zbl (l.map bs) (x*1) [bs g]=(l.set x g).map bs:=by
 unfold zbl
 rw[Nat.mul_one,List.map_set,List.set_eq_take_append_cons_drop,if_pos (by simpa using hx)]
 simp
abbrev aA(l:List (List UInt8)):List (Nat×Ow):=[(0, .ch 22 1 l.length (l.map bs) false)]
abbrev aA'(l:List (List UInt8)):List (Nat×Option Ow):=[(0,some (.ch 22 1 l.length (l.map bs) false))]
theorem zg0b(t:List Node)(hlt:t.length<=1000000)(hfit: ∀x∈t,x.fit)(hok: ∀j,j<t.length->okT t j): ∀(h k:Nat) (l:List (List UInt8)) (v:Value),h<=16->k<2^(16-h)->(k+1)*2^(h+1)<=t.length+1->l.length=t.length->
  Acts bP 95 1 (aA l) [.r (nods t), .r (I (nd h k)), .own 0] [(0,v)] 1 (aA (zcx t l h k)) (.r (bs (zas t h k))):=by
 intro h
 induction h with
 |zero=>
  intro k l v _ hk hx hl
  have hin:=zbn 0 k
  have hlt:nd 0 k<t.length:=by unfold inR at hin;rw[Nat.add_mul]at hx;omega
  have hz:=zde k
  have hm:=zci hlt
  have hok':=hok _ hlt
  have hkk:k<65536:=by simpa using hk
  have e:=zeob hkk hok'.1 (λh2=>hok'.2.1 ⟨by omega,h2⟩)
  have ht:=zp5 k _ (hfit _ hm)
  have hle:=zvk k _ (hfit _ hm)
  have hq:(k:Int)=IntKind.i64.wrap ((nd 0 k:Int).tdiv 2):=by
   rw[zde,Int.tdiv_eq_ediv_of_nonneg (by omega),show(((2*k:Nat):Int))/2=k by omega]
   exact wrap_i64 (by omega)
  have hh:zas t 0 k=shaB (zgh k (nT t (nd 0 k))):=by rw[e];rfl
  refine zaz (T:=Tab) mixed Tab_ok Tryz.func95 rfl (by kernel_rfl) rfl ⟨⟨_,_,rfl,rfl,zlc (by omega),zlc (by rw[zd0];omega)⟩,trivial⟩ ?_
  unfold zcx
  rw[hh]
  generalize zgh k (nT t (nd 0 k))=q at ht hle
  generalize zsl k (nT t (nd 0 k))=ee at ht
  have hs:=zjw (zlw [q] (by simp;omega))
  have e1:([q]:List (List UInt8)).flatMap id=q:=by simp
  rw[e1]at hs
  generalize shaB q=g at hs
  refine⟨by decide,_,rfl,?_⟩
  refine zu (by rw[zcn];rfl) (zq ?_)
  refine⟨by decide,(k:Int),hq,?_⟩
  refine zm (by omega) (by omega) (zbs rfl hlt) ?_
  refine za rfl rfl ?_
  refine ze ht ?_
  refine zy ?_
  refine ze hs ?_
  refine Vadr.mk' (nd 0 k) rfl (by omega) ?_
  refine⟨(by show nd 0 k*1+1<=(l.map bs).length;rw[List.length_map];omega),(l.set (nd 0 k) g).map bs,zuw (by omega),?_⟩
  refine Vadr.mk' (nd 0 k) rfl (by omega) ?_
  refine zg (f:=bs g) (by show((l.set (nd 0 k) g).map bs)[nd 0 k*1]?=_;rw[Nat.mul_one,List.getElem?_map,List.getElem?_set_self (by omega)];rfl) ?_
  have hls:(l.set (nd 0 k) g).length=l.length:=by simp
  exact zaw (.inl rfl) [(0,0)] [(6, .r (bs g))] [] rfl (by repeat' (first|exact rfl|exact trivial|exact cr|exact Cv.nil _|exact⟨rfl,rfl⟩|refine⟨_,_,rfl,?_,?_⟩|refine⟨?_,?_⟩)) ⟨⟨rfl,rfl,hls.symm,rfl,zn _⟩,trivial⟩ ⟨⟨1000000,rfl⟩,trivial⟩ (cr)
 |succ h ih=>
  intro k l v hh hk hx hl
  have hleft:=zd4 (d:=16) (by omega) (show h+1<=16 by omega) hk
  have hright:=zdn (d:=16) (by omega) (show h+1<=16 by omega) hk
  have hk2:2^(16-h)=2*2^(16-(h+1)):=by rw[show 16-h=(16-(h+1))+1 by omega,Nat.pow_succ];omega
  have hin:=zbn (h+1) k
  have e2:(k+1)*2^(h+1+1)=k*2^(h+1+1)+2^(h+1+1):=by rw[Nat.add_mul,Nat.one_mul]
  have e3:2^(h+1+1)=2*2^(h+1):=by rw[Nat.pow_succ 2 (h+1)];omega
  have e4:=zpa k h
  have e5:=zq0 k h
  have e6:(2*k+1)*2^(h+1)=2*k*2^(h+1)+2^(h+1):=by rw[Nat.add_mul,Nat.one_mul]
  have e7:(2*k+1+1)*2^(h+1)=(2*k+1)*2^(h+1)+2^(h+1):=by rw[Nat.add_mul,Nat.one_mul]
  have hlt:nd (h+1) k<t.length:=by unfold inR at hin;omega
  have hm:=zci hlt
  obtain⟨n,hn⟩: ∃n,n=nT t (nd (h+1) k):=⟨_,rfl⟩
  have hok':=hok _ hlt
  have hnf:=hfit _ hm
  rw[<-hn]at hnf
  have hnr:n.right=true:=hn▸hok'.1
  have hodd:nd (h+1) k%2=1:=by
   have q:= @zc4 h k
   rw[Int.tmod_eq_emod_of_nonneg (by omega)]at q
   omega
  have hn1:n.kind.toNat≠1:=hn▸ λq=>hok'.2.2 ⟨hodd,q⟩
  have i1:=λv=>ih (2*k) l v (by omega) (by omega) (by omega) hl
  have i2:=λv=>ih (2*k+1) (zcx t l h (2*k)) v (by omega) (by omega) (by omega) (by rw[zd0];exact hl)
  have eh:zas t (h+1) k=shaB (zio n (zas t h (2*k)) (zas t h (2*k+1))):=by
   rw[ze7b hnr hn1 (zcr t h _) (zcr t h _),hn];rfl
  have hp:=z3k n (zas t h (2*k)) (zas t h (2*k+1)) hnf
  have hle:=z8m n (zas t h (2*k)) (zas t h (2*k+1)) hnf
  refine zaz (T:=Tab) mixed Tab_ok Tryz.func95 rfl (by kernel_rfl) rfl ⟨⟨_,_,rfl,rfl,zlc (by omega),zlc (by rw[zd0];omega)⟩,trivial⟩ ?_
  have hF:zcx t l (h+1) k=(zcx t (zcx t l h (2*k)) h (2*k+1)).set (nd (h+1) k) (zas t (h+1) k):=rfl
  rw[hF,eh]
  have l2:(zcx t (zcx t l h (2*k)) h (2*k+1)).length=t.length:=by rw[zd0,zd0];exact hl
  generalize zcx t (zcx t l h (2*k)) h (2*k+1)=L2 at*
  generalize zcx t l h (2*k)=L1 at*
  generalize zas t h (2*k)=g1 at*
  generalize zas t h (2*k+1)=g2 at*
  generalize zio n g1 g2=q at hp hle⊢
  generalize zy3 n g1 g2=ee at hp
  have hs:=zjw (zlw [q] (by simp;omega))
  have e1:([q]:List (List UInt8)).flatMap id=q:=by simp
  rw[e1]at hs
  generalize shaB q=g at hs⊢
  refine⟨by decide,_,rfl,?_⟩
  refine zw (by rw[zc4];rfl) (zt ?_)
  refine ze (zk2 _) ?_
  rw[hleft]
  refine zj [(0,0)] [0] (λvs _=>i1 (vs 0)) (zi rfl ⟨_,_,rfl,cr,_,_,rfl,cr,_,_,rfl,rfl,rfl⟩) rfl ⟨⟨rfl,rfl,rfl,rfl,zn _⟩,trivial⟩ ⟨zaq,trivial⟩ ?_
  have hrt:=zjj (nd (h+1) k)
  rw[hright]at hrt
  refine Vdraw.code (Vcode.float mixed Tab_ok 15 [⟨0,28, .r (nods t),[]⟩,⟨1,29, .r (I (nd (h+1) k)),[]⟩,⟨2,30, .r (.ptr n.c),[0,1]⟩,⟨3,31, .r (.ag n.c),[2]⟩,⟨4,32, .r (bs g1),[]⟩,⟨5,33, .r (nods t),[]⟩,⟨6,34, .r (I (nd (h+1) k)),[]⟩,⟨7,35, .r (I (nd h (2*k+1))),[6]⟩,⟨8,36, .own 0,[]⟩,⟨11,27, .r (.tu [bs q, .i .u8 ee]),[10]⟩,⟨12,39, .r (bs q),[10,11]⟩,⟨13,40, .r (.i .u8 ee),[10,11]⟩] [(9,[5,7,8]),(10,[3,4]),(14,[12])] (by kernel_rfl) (F:=[(0, .r (nods t)),(1, .r (I (nd (h+1) k))),(2, .own 0),(8, .r (bs g1)),(1000000, .nm 0 v)]) (O:=aA' L1) (nx:=1)
   (zac [(0,0)] rfl ⟨cr,cr,rfl,cr,⟨rfl,rfl⟩,trivial⟩ ⟨⟨rfl,rfl,rfl,rfl,zn _⟩,trivial⟩) ?_)
  refine⟨rfl,⟨λY=>zo _,λY=>zo _,λY=>zm (by omega) (by omega) (by rw[zbs rfl hlt,<-hn]) (zo _),λY=>za rfl rfl (zo _),λY=>zo _,λY=>zo _,λY=>zo _,λY=>ze hrt (zo _),λY=>zo _,trivial,trivial,trivial,trivial⟩,(37, .r (bs g2))::[(0, .r (nods t)),(1, .r (I (nd (h+1) k))),(2, .own 0),(8, .r (bs g1)),(1000000, .nm 0 v)],(0,some (.ch 22 1 L2.length (L2.map bs) false))::(0,none)::aA' L1,2,λY=>zj [(0,0)] [0] (λvs _=>i2 (vs 0)) (zi rfl ⟨_,_,rfl,cr,_,_,rfl,cr,_,_,rfl,rfl,rfl⟩) rfl ⟨⟨rfl,rfl,rfl,rfl,zn _⟩,trivial⟩ ⟨zaq,trivial⟩ (zo _),?_⟩
  refine⟨rfl,⟨λY=>zo _,λY=>zo _,λY=>zm (by omega) (by omega) (by rw[zbs rfl hlt,<-hn]) (zo _),λY=>za rfl rfl (zo _),λY=>zo _,λY=>zo _,λY=>zo _,λY=>ze hrt (zo _),λY=>zo _,trivial,trivial,trivial,trivial⟩,(38, .r (.tu [bs q, .i .u8 ee]))::(37, .r (bs g2))::[(0, .r (nods t)),(1, .r (I (nd (h+1) k))),(2, .own 0),(8, .r (bs g1)),(1000000, .nm 0 v)],(0,some (.ch 22 1 L2.length (L2.map bs) false))::(0,none)::aA' L1,2,λY=>ze hp (zo _),?_⟩
  refine⟨rfl,⟨λY=>zo _,λY=>zo _,λY=>zm (by omega) (by omega) (by rw[zbs rfl hlt,<-hn]) (zo _),λY=>za rfl rfl (zo _),λY=>zo _,λY=>zo _,λY=>zo _,λY=>ze hrt (zo _),λY=>zo _,λY=>zo _,λY=>zo _,λY=>zo _,trivial⟩,(7, .r (bs q))::(38, .r (.tu [bs q, .i .u8 ee]))::(37, .r (bs g2))::[(0, .r (nods t)),(1, .r (I (nd (h+1) k))),(2, .own 0),(8, .r (bs g1)),(1000000, .nm 0 v)],(0,some (.ch 22 1 L2.length (L2.map bs) false))::(0,none)::aA' L1,2,λY=>zo _,?_⟩
  refine⟨rfl,⟨λY=>zo _,λY=>zo _,λY=>zm (by omega) (by omega) (by rw[zbs rfl hlt,<-hn]) (zo _),λY=>za rfl rfl (zo _),λY=>zo _,λY=>zo _,λY=>zo _,λY=>ze hrt (zo _),λY=>zo _,λY=>zo _,λY=>zo _,λY=>zo _,trivial⟩,?_⟩
  refine zy ?_
  refine ze hs ?_
  refine Vadr.mk' (nd (h+1) k) rfl (by omega) ?_
  refine⟨(by show nd (h+1) k*1+1<=(L2.map bs).length;rw[List.length_map];omega),(L2.set (nd (h+1) k) g).map bs,zuw (by omega),?_⟩
  refine Vadr.mk' (nd (h+1) k) rfl (by omega) ?_
  refine zg (f:=bs g) (by show((L2.set (nd (h+1) k) g).map bs)[nd (h+1) k*1]?=_;rw[Nat.mul_one,List.getElem?_map,List.getElem?_set_self (by omega)];rfl) ?_
  have hls:(L2.set (nd (h+1) k) g).length=L2.length:=by simp
  exact zaw (.inl rfl) [(0,0)] [(6, .r (bs g))] [] rfl (by repeat' (first|exact rfl|exact trivial|exact cr|exact Cv.nil _|exact⟨rfl,rfl⟩|refine⟨_,_,rfl,?_,?_⟩|refine⟨?_,?_⟩)) ⟨⟨rfl,rfl,hls.symm,rfl,zn _⟩,trivial⟩ ⟨⟨1000000,rfl⟩,trivial⟩ (cr)
theorem znu(t:List Node)(ht:t.length<=1000000):bG 119 [nods t] (.r (I (zat t))):=by
 refine bT Tryz.func119 rfl ?_
 refine zd (m:=((t.length+1:Nat):Int)) (by omega) (by omega) ?_
 refine⟨by decide,(((t.length+1)/2:Nat):Int),by rw[Int.tdiv_eq_ediv_of_nonneg (by omega)];exact(by omega:(((t.length+1)/2:Nat):Int)=((t.length+1:Nat):Int)/2).trans (wrap_i64 (by omega)),?_⟩
 refine Vrem.nat t.length 2 rfl rfl (by decide) ?_
 unfold zat
 refine zh (λh=>zq ?_) (λh=>?_)
 ·simp only[zb]at h
  exact zf (congrArg I (by rw[if_neg (λk=>by omega)]))
 simp only[zb]at h
 refine Vcall.bool (zni _) (λhf=>zw rfl (zt ?_)) (λhf=>zu rfl (zq ?_))
 ·exact zf (congrArg I (by rw[if_pos ⟨hf,by omega⟩]))
 ·exact zf (congrArg I (by rw[if_neg (λk=>by rw[hf]at k;cases k.1)]))
theorem zgob(x:Int):bG 232 [I x] (.r (.b false)):=by
 refine bT Tryz.func232 rfl ?_
 exact Vcmp.mk' (m:=false) (by simp) (cr)
theorem zgvb(x:Int):bG 226 [I x] (.r (.b false)):=by
 refine bT Tryz.func226 rfl ?_
 exact Vcmp.mk' (m:=false) (by simp) (cr)
theorem zdgb(x y:Int):bG 225 [I x,I y] (.r (.b (decide (x<y)))):=by
 refine bT Tryz.func225 rfl ?_
 refine ze (zgob x) ?_
 exact Vcmp.mk' rfl (cr)
def posL(l:List Int)(x:Int):Nat:=(l.takeWhile λy=>decide (y<x)).length
theorem z2a: ∀{l:List Int} {x:Int} {p:Nat},p<=l.length->(∀y∈l.take p,y<x)->(∀y∈l.drop p,x<=y)->posL l x=p
 |[],x,p,h,_,_=>by simp at h;subst h;rfl
 |a::l,x,0,_,_,h2=>by
  have:=h2 a (by simp)
  unfold posL
  rw[List.takeWhile_cons_of_neg (by simp;omega)];rfl
 |a::l,x,p+1,h,h1,h2=>by
  have:=h1 a (by simp)
  have ih:=z2a (l:=l) (x:=x) (p:=p) (by simpa using h) (λy hy=>h1 y (by simp[hy])) (λy hy=>h2 y (by simpa using hy))
  unfold posL at ih⊢
  rw[List.takeWhile_cons_of_pos (by simp;omega),List.length_cons,ih]
theorem z56(l:List Int)(x:Int)(hl:l.length<=1000000000)(hs:l.Pairwise (· < ·)):bG 172 [is l,I x] (.r (.tu [I (posL l x), .b (decide (x∈l))])):=by
 refine bT Tryz.func172 rfl ?_
 have hmono: ∀i j (hi:i<l.length) (hj:j<l.length),i<j->l[i]<l[j]:=λi j hi hj h=>List.pairwise_iff_getElem.1 hs i j hi hj h
 refine Vloop.mk' (λi:Nat×Nat=>⟨[(0, .r (is l)),(1, .r (I x)),(6, .r (I l.length)),(7, .r (I i.1)),(8, .r (I i.2))],[],0⟩)
  (λi=>i.1<=i.2/\i.2<=l.length/\(∀j (h:j<l.length),j<i.1->l[j]<x)/\(∀j (h:j<l.length),i.2<=j->x<=l[j])) (λi=>i.2-i.1) (0,l.length)
  ⟨by simp,by simp,λj _ h=>by simp at h,λj h h2=>by dsimp only at h2;omega⟩ (zac [] rfl ⟨cr,cr,cr,cr,cr,trivial⟩ trivial) ?_
 rintro⟨p,q⟩ ⟨h1,h2,h3,h4⟩
 dsimp only at h1 h2 h3 h4⊢
 refine zh (λh=>zq ?_) (λh=>zt ?_)
 ·simp only[zb]at h
  have hm:(p+q)/2<l.length:=by omega
  refine zd (m:=((p+q:Nat):Int)) (by omega) (by omega) ?_
  refine Vint.nat (.inl rfl) (p+q) rfl (by omega) ?_
  refine Vshr.nat (.inl rfl) (p+q) 1 ((p+q)/2) rfl rfl (by decide) rfl ?_
  refine Vint.nat (.inr rfl) ((p+q)/2) rfl (by omega) ?_
  refine zm (by omega) (by omega) (zaj rfl hm) (zg rfl ?_)
  refine Vcall.bool (zdgb _ x) (λhq=>zq ?_) (λhq=>zt ?_)
  ·simp only[decide_eq_true_eq]at hq
   refine zd (m:=(((p+q)/2+1:Nat):Int)) (by omega) (by omega) ?_
   refine⟨((p+q)/2+1,q),⟨by dsimp only;omega,h2,λj hj hjp=>?_,h4⟩,by dsimp only;omega,zac [] rfl ⟨cr,cr,cr,cr,cr,trivial⟩ trivial⟩
   dsimp only at hjp
   rcases Nat.lt_or_ge j ((p+q)/2)with h5 |h5
   ·exact Int.lt_trans (hmono j _ hj hm h5) hq
   ·obtain rfl:j=(p+q)/2:=by omega
    exact hq
  ·simp only[decide_eq_false_iff_not]at hq
   refine⟨(p,(p+q)/2),⟨by dsimp only;omega,by dsimp only;omega,h3,λj hj hjp=>?_⟩,by dsimp only;omega,zac [] rfl ⟨cr,cr,cr,cr,cr,trivial⟩ trivial⟩
   dsimp only at hjp
   rcases Nat.lt_or_ge ((p+q)/2) j with h5 |h5
   ·have:=hmono _ j hm hj h5;omega
   ·obtain rfl:j=(p+q)/2:=by omega
    omega
 simp only[zb]at h
 obtain rfl:p=q:=by omega
 have hpos:posL l x=p:=by
  refine z2a h2 (λy hy=>?_) (λy hy=>?_)
  ·obtain⟨i,hi,rfl⟩:=List.getElem_of_mem hy
   rw[List.length_take]at hi
   rw[List.getElem_take]
   exact h3 i (by omega) (by omega)
  ·obtain⟨i,hi,rfl⟩:=List.getElem_of_mem hy
   rw[List.length_drop]at hi
   rw[List.getElem_drop]
   exact h4 (p+i) (by omega) (by omega)
 have hmem:x∈l↔∃h:p<l.length,l[p]=x:=by
  constructor
  ·intro hx
   obtain⟨i,hi,e⟩:=List.getElem_of_mem hx
   rcases Nat.lt_or_ge i p with h5 |h5
   ·have:=h3 i hi h5;omega
   ·rcases Nat.lt_or_ge p i with h6 |h6
    ·have h7:=h4 p (by omega) (Nat.le_refl _)
     have h8:=hmono p i (by omega) hi h6
     omega
    ·obtain rfl:i=p:=by omega
     exact⟨hi,e⟩
  ·rintro⟨h5,rfl⟩;exact List.getElem_mem h5
 rw[hpos]
 refine zh (λh5=>?_) (λh5=>?_)
 ·simp only[zb]at h5
  have hp:p<l.length:=by omega
  refine zm (by omega) (by omega) (zaj rfl hp) (zg rfl ?_)
  refine zh (λh6=>?_) (λh6=>?_)
  ·simp only[zb]at h6
   rw[decide_eq_true (hmem.2 ⟨hp,h6⟩)]
   exact⟨_,rfl,cr⟩
  ·simp only[zb]at h6
   rw[decide_eq_false (λk=>h6 (hmem.1 k).2)]
   refine zm (by omega) (by omega) (zaj rfl hp) (zg rfl ?_)
   refine ze (zgvb _) ?_
   exact⟨_,rfl,cr⟩
 ·simp only[zb]at h5
  rw[decide_eq_false (λk=>h5 (by have:=(hmem.1 k).1;omega))]
  exact⟨_,rfl,cr⟩
theorem zaob(t:List Node)(ht:t.length<=1000000)(hfit: ∀x∈t,x.fit): ∃b:Bool,(b=true↔∀j,j<t.length->okT t j)/\bG 120 [nods t] (.r (.b b)):=by
 classical
 refine⟨decide (∀j,j<t.length->okT t j),decide_eq_true_iff,?_⟩
 refine bT Tryz.func120 rfl ?_
 have no: ∀j,j<t.length->¬okT t j->Cv (.b false) (.b (decide (∀j,j<t.length->okT t j))):=λj hj h=>zf (congrArg RV.b (Eq.symm (decide_eq_false λk=>h (k j hj))))
 refine Vloop.mk' (λj:Nat=>⟨[(0, .r (nods t)),(8, .r (nods t)),(9, .r (I t.length)),(10, .r (I j))],[],0⟩) (λj=>j<=t.length/\∀i,i<j->okT t i) (λj=>t.length-j) 0 ⟨by omega,by omega⟩ (zac [] rfl ⟨cr,cr,cr,cr,trivial⟩ trivial) ?_
 rintro j ⟨hj,hok⟩
 refine zh (λh=>zq ?_) (λh=>zt ?_)
 ·simp only[zb]at h
  have hj':j<t.length:=by omega
  have g:=zfc (nT t j) (hfit _ (zci hj'))
  refine zm (by omega) (by omega) (zbs rfl hj') ?_
  refine za rfl rfl ?_
  have fin:(j%2=1->(nT t j).kind.toNat≠1)->(j%2=0->(nT t j).kind.toNat≠2)->(nT t j).right=true->okT t j:=λh1 h2 h3=>⟨h3,λk=>h2 k.1 k.2,λk=>h1 k.1 k.2⟩
  refine Vrem.nat j 2 rfl rfl (by decide) ?_
  refine zh (λh1=>zq ?_) (λh1=>zt ?_)
  all_goals
   simp only[zb]at h1
   refine zh (λh2=>zq ?_) (λh2=>zt ?_)
   ·simp only[zb]at h2
    exact no j hj' λk=>by first|exact k.2.2 ⟨by omega,by omega⟩|exact k.2.1 ⟨by omega,by omega⟩
   ·simp only[zb]at h2
    refine za rfl rfl ?_
    refine ze g ?_
    cases hr:(nT t j).right with
    |true=>
     refine zw rfl (zt ?_)
     refine zd (m:=((j+1:Nat):Int)) (by omega) (by omega) ?_
     refine⟨j+1,⟨hj',λi hi=>?_⟩,by omega,zac [] rfl ⟨cr,cr,cr,cr,trivial⟩ trivial⟩
     rcases Nat.lt_or_ge i j with h3 |h3
     ·exact hok i h3
     ·obtain rfl:i=j:=by omega
      exact fin (by omega) (by omega) hr
    |false=>
     refine zu rfl (zq ?_)
     exact no j hj' λk=>by have k1:=k.1;rw[hr]at k1;cases k1
 ·simp only[zb]at h
  exact zf (congrArg RV.b (Eq.symm (decide_eq_true λi hi=>hok i (by omega))))
end Go.Proofs.YtoegdgbghdnnfaaGreat.Sx
