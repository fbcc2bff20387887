import Derived.Test.YtpcfoglfakeimaaGreatZKf
import Derived.Test.YtpcfoglfakeimaaGreatZNk
import Derived.Test.YtpcfoglfakeimaaGreatZHb
import Derived.Test.YtpcfoglfakeimaaGreatZSxPt
namespace Go.Proofs.YtpcfoglfakeimaaGreat.Sx
open Go.RowKit
def okT(t:List Node)(j:Nat):Prop:=(nT t j).right=true/\¬(j%2=0/\(nT t j).kind.toNat=2)/\¬(j%2=1/\(nT t j).kind.toNat=1)
def zel(t:List Node)(n:Int)(j:Nat):Bool:=(List.range j).any λi=>decide ((nT t i).kind.toNat=1/\(n=1\/n<=(i:Int)))
theorem zc1(t:List Node)(n:Int)(j:Nat):zel t n (j+1)=(zel t n j||decide ((nT t j).kind.toNat=1/\(n=1\/n<=(j:Int)))):=by
 unfold zel
 rw[List.range_succ,List.any_append]
 simp
def zn6(t:List Node)(j:Nat)(u:Int)(y:Nat):Prop:=¬((nT t y).kind.toNat=2/\zb3 (2*u) (y:Int)=true/\zb3 (y:Int) (j:Int)=true/\u∉(nT t y).par.late)
def zcg(t:List Node)(n:Int)(j:Nat)(u:Int):Prop:=u<n/\(nT t (2*u).toNat).kind.toNat=1/\zb3 (2*u) (j:Int)=true/\∀y,y<t.length->zn6 t j u y
structure RightT (t:List Node):Prop where
 n:zae t≠0
 ok: ∀j,j<t.length->okT t j
 some:zel t (zae t) t.length=true
 late: ∀j,j<t.length->∀u∈(nT t j).par.late,zcg t (zae t) j u
open Classical in
noncomputable def rightT (t:List Node):Bool:=decide (RightT t)
theorem zbr{t:List Node}:rightT t=true↔RightT t:=by simp[rightT]
theorem ztz{t:List Node}(h: ¬RightT t):rightT t=false:=by simp[rightT,h]
theorem zbg{t:List Node}(h:zae t≠0):((t.length:Nat):Int)=2*zae t-1/\zei (zae t)=true/\0<t.length:=by
 unfold zae at h⊢
 split at h
 ·rename_i h2
  obtain⟨h3,h4⟩:=h2
  have:=zcc h3
  rw[if_pos ⟨h3,h4⟩]
  exact⟨by omega,h3,by omega⟩
 ·exact absurd rfl h
set_option maxHeartbeats 1000000 in
theorem z3h(t:List Node)(h1:t.length<=1000000)(hfit: ∀x∈t,x.fit):aG 21 [nods t] (.r (.b (rightT t))):=by
 refine aT Tryz.func21 rfl ?_
 have no: ¬RightT t->RV.b false=RV.b (rightT t):=λh=>by rw[ztz h]
 refine ze (zql t h1) ?_
 refine zh (λh=>zq ?_) (λh=>zt ?_)
 ·simp only[zb]at h
  exact zf (no λr=>r.n h)
 simp only[zb]at h
 obtain⟨hl,hf,hpos⟩:=zbg h
 have hb:=zcc hf
 obtain⟨n,hn⟩: ∃n,n=zae t:=⟨_,rfl⟩
 rw[<-hn]at hl hf hb h⊢
 refine Vloop.mk' (λj:Nat=>{F:=[(0, .r (nods t)),(3, .r (I n)),(4, .r (.b (zel t n j))),(5, .r (I j))],O:=[],nx:=0}) (λj=>j<=t.length/\∀i,i<j->okT t i) (λj=>t.length-j) 0 ⟨by omega,by omega⟩ (zac [] rfl ⟨cr,cr,cr,cr,trivial⟩ trivial) ?_
 rintro j ⟨hj,hok⟩
 refine zh (λh2=>zq ?_) (λh2=>zt ?_)
 ·simp only[zb]at h2
  have hj':j<t.length:=by omega
  have hmod:(j:Int).tmod 2=((j%2:Nat):Int):=by rw[Int.tmod_eq_emod_of_nonneg (by omega)];omega
  have bad: ¬okT t j->RV.b false=RV.b (rightT t):=λhh=>no λr=>hh (r.ok j hj')
  have g16:=z3g (nT t j) (hfit _ (zf9 hj'))
  refine zm (by omega) (by omega) (zbf rfl hj') (zg rfl ?_)
  refine zm (by omega) (by omega) (zbf rfl hj') ?_
  refine za rfl rfl ?_
  refine Vcall.bool g16 (λhr=>zw rfl ?_) (λhr=>zu rfl (zq ?_))
  rotate_left
  ·exact zf (bad λk=>by rw[k.1]at hr;cases hr)
  refine⟨by decide,_,rfl,?_⟩
  have next:okT t j->∀i,i<j+1->okT t i:=λhk i hi=>by
   rcases Nat.lt_or_ge i j with h3 |h3
   ·exact hok i h3
   ·have:i=j:=by omega
    subst this;exact hk
  refine zh (λh3=>?_) (λh3=>?_)
  ·simp only[zb]at h3
   rw[hmod]at h3
   refine zh (λh4=>zq ?_) (λh4=>?_)
   ·simp only[zb]at h4
    exact zf (bad λk=>k.2.1 ⟨by omega,by omega⟩)
   simp only[zb]at h4
   refine⟨by decide,_,rfl,?_⟩
   refine zw (by simp only[zb];rw[hmod];omega) (zt ?_)
   have hk:okT t j:=⟨hr,by omega,by omega⟩
   cases hs:zel t n j with
   |true=>
    refine zd (m:=((j+1:Nat):Int)) (by omega) (by omega) ?_
    exact⟨j+1,⟨hj',next hk⟩,by omega,zac [] rfl ⟨cr,cr,zf (congrArg RV.b (by rw[zc1,hs];simp[])),cr,trivial⟩ trivial⟩
   |false=>
    refine zh (λk1=>?_) (λk1=>?_)
    ·simp only[zb]at k1
     have k1':(nT t j).kind.toNat=1:=by omega
     refine zh (λk2=>?_) (λk2=>?_)
     ·simp only[zb]at k2
      refine zd (m:=((j+1:Nat):Int)) (by omega) (by omega) ?_
      exact⟨j+1,⟨hj',next hk⟩,by omega,zac [] rfl ⟨cr,cr,zf (congrArg RV.b (by rw[zc1,hs];simp[k1',k2])),cr,trivial⟩ trivial⟩
     ·simp only[zb]at k2
      refine zh (λk3=>?_) (λk3=>?_)
      ·simp only[zb]at k3
       have k3':n<=(j:Int):=by omega
       refine zd (m:=((j+1:Nat):Int)) (by omega) (by omega) ?_
       exact⟨j+1,⟨hj',next hk⟩,by omega,zac [] rfl ⟨cr,cr,zf (congrArg RV.b (by rw[zc1,hs];simp[k1',k3'])),cr,trivial⟩ trivial⟩
      ·simp only[zb]at k3
       have k3': ¬n<=(j:Int):=by omega
       refine zd (m:=((j+1:Nat):Int)) (by omega) (by omega) ?_
       exact⟨j+1,⟨hj',next hk⟩,by omega,zac [] rfl ⟨cr,cr,zf (congrArg RV.b (by rw[zc1,hs];simp[k2,k3'])),cr,trivial⟩ trivial⟩
    ·simp only[zb]at k1
     have k1': ¬(nT t j).kind.toNat=1:=by omega
     refine zd (m:=((j+1:Nat):Int)) (by omega) (by omega) ?_
     exact⟨j+1,⟨hj',next hk⟩,by omega,zac [] rfl ⟨cr,cr,zf (congrArg RV.b (by rw[zc1,hs];simp[k1'])),cr,trivial⟩ trivial⟩
  ·simp only[zb]at h3
   rw[hmod]at h3
   refine⟨by decide,_,rfl,?_⟩
   refine zu (by simp only[zb];rw[hmod];omega) ?_
   refine zh (λh4=>zq ?_) (λh4=>zt ?_)
   ·simp only[zb]at h4
    exact zf (bad λk=>k.2.2 ⟨by omega,by omega⟩)
   simp only[zb]at h4
   have hk:okT t j:=⟨hr,by omega,by omega⟩
   cases hs:zel t n j with
   |true=>
    refine zd (m:=((j+1:Nat):Int)) (by omega) (by omega) ?_
    exact⟨j+1,⟨hj',next hk⟩,by omega,zac [] rfl ⟨cr,cr,zf (congrArg RV.b (by rw[zc1,hs];simp[])),cr,trivial⟩ trivial⟩
   |false=>
    refine zh (λk1=>?_) (λk1=>?_)
    ·simp only[zb]at k1
     have k1':(nT t j).kind.toNat=1:=by omega
     refine zh (λk2=>?_) (λk2=>?_)
     ·simp only[zb]at k2
      refine zd (m:=((j+1:Nat):Int)) (by omega) (by omega) ?_
      exact⟨j+1,⟨hj',next hk⟩,by omega,zac [] rfl ⟨cr,cr,zf (congrArg RV.b (by rw[zc1,hs];simp[k1',k2])),cr,trivial⟩ trivial⟩
     ·simp only[zb]at k2
      refine zh (λk3=>?_) (λk3=>?_)
      ·simp only[zb]at k3
       have k3':n<=(j:Int):=by omega
       refine zd (m:=((j+1:Nat):Int)) (by omega) (by omega) ?_
       exact⟨j+1,⟨hj',next hk⟩,by omega,zac [] rfl ⟨cr,cr,zf (congrArg RV.b (by rw[zc1,hs];simp[k1',k3'])),cr,trivial⟩ trivial⟩
      ·simp only[zb]at k3
       have k3': ¬n<=(j:Int):=by omega
       refine zd (m:=((j+1:Nat):Int)) (by omega) (by omega) ?_
       exact⟨j+1,⟨hj',next hk⟩,by omega,zac [] rfl ⟨cr,cr,zf (congrArg RV.b (by rw[zc1,hs];simp[k2,k3'])),cr,trivial⟩ trivial⟩
    ·simp only[zb]at k1
     have k1': ¬(nT t j).kind.toNat=1:=by omega
     refine zd (m:=((j+1:Nat):Int)) (by omega) (by omega) ?_
     exact⟨j+1,⟨hj',next hk⟩,by omega,zac [] rfl ⟨cr,cr,zf (congrArg RV.b (by rw[zc1,hs];simp[k1'])),cr,trivial⟩ trivial⟩
 simp only[zb]at h2
 have hjl:j=t.length:=by omega
 subst hjl
 cases hs:zel t n t.length with
 |false=>
  refine zu rfl (zq ?_)
  exact zf (no λr=>by have:=r.some;rw[<-hn,hs]at this;cases this)
 |true=>
 refine zw rfl (zt ?_)
 have hR:(∀j,j<t.length->∀u∈(nT t j).par.late,zcg t n j u)↔RightT t:=⟨λhh=>⟨by rw[<-hn];exact h,hok,by rw[<-hn];exact hs,by rw[<-hn];exact hh⟩,λr=>by rw[hn];exact r.late⟩
 refine Vloop.mk' (λj:Nat=>{F:=[(0, .r (nods t)),(3, .r (I n)),(7, .r (I j))],O:=[],nx:=0}) (λj=>j<=t.length/\∀i,i<j->∀u∈(nT t i).par.late,zcg t n i u) (λj=>t.length-j) 0 ⟨by omega,by omega⟩ (zac [] rfl ⟨cr,cr,cr,trivial⟩ trivial) ?_
 rintro j ⟨hj,hlt⟩
 refine zh (λh2=>zq ?_) (λh2=>zt ?_)
 rotate_left
 ·simp only[zb]at h2
  refine zf (congrArg RV.b (Eq.symm (zbr.2 (hR.1 λi hi=>hlt i (by omega)))))
 simp only[zb]at h2
 have hj':j<t.length:=by omega
 obtain⟨L,hL⟩: ∃L,L=(nT t j).par.late:=⟨_,rfl⟩
 have hfl:=(hfit _ (zf9 hj')).2
 have hLl:L.length<=100000000:=hL▸hfl.2.2.1
 have hLd: ∀u∈L,zn2 u:=hL▸Node.right_late (hok j hj').1
 have badj: ∀u∈L,¬zcg t n j u->RV.b false=RV.b (rightT t):=λu hu hh=>no λr=>hh (hR.2 r j hj' u (hL▸hu))
 refine zm (by omega) (by omega) (zbf rfl hj') (zg rfl ?_)
 refine Vloop.mk' (λi:Nat=>{F:=[(0, .r (nods t)),(3, .r (I n)),(7, .r (I j)),(8, .r (is L)),(9, .r (I i))],O:=[],nx:=0}) (λi=>i<=L.length/\∀u∈L.take i,zcg t n j u) (λi=>L.length-i) 0 ⟨by omega,by simp⟩ (zac [] rfl ⟨cr,cr,cr,zf (by rw[hL]),cr,trivial⟩ trivial) ?_
 rintro i ⟨hi,hli⟩
 refine zh (λh3=>zq ?_) (λh3=>zt ?_)
 rotate_left
 ·simp only[zb]at h3
  rw[List.take_of_length_le (by omega)]at hli
  refine zd (m:=((j+1:Nat):Int)) (by omega) (by omega) ?_
  refine⟨j+1,⟨hj',λk hk=>?_⟩,by omega,zac [] rfl ⟨cr,cr,cr,trivial⟩ trivial⟩
  rcases Nat.lt_or_ge k j with h4 |h4
  ·exact hlt k h4
  ·have:k=j:=by omega
   subst this
   rw[<-hL];exact hli
 simp only[zb]at h3
 have hi':i<L.length:=by omega
 obtain⟨u,hu⟩: ∃u,u=L[i]:=⟨_,rfl⟩
 have hum:u∈L:=hu▸List.getElem_mem hi'
 have hud:=hLd u hum
 unfold zn2 at hud
 have bad:=badj u hum
 refine zm (by omega) (by omega) (zan rfl hi') (zg rfl ?_)
 rw[<-hu]
 refine zh (λh4=>zq ?_) (λh4=>?_)
 ·simp only[zb]at h4
  exact zf (bad λk=>by have:=k.1;omega)
 simp only[zb]at h4
 refine zm (by omega) (by omega) (zan rfl hi') (zg rfl ?_)
 rw[<-hu]
 refine zd rfl (by omega) ?_
 refine zm (by omega) (by omega) (zbf (j:=(2*u).toNat) (by omega) (by omega)) (zg rfl ?_)
 refine zh (λh5=>zq ?_) (λh5=>?_)
 ·simp only[zb]at h5
  exact zf (bad λk=>by have:=k.2.1;omega)
 simp only[zb]at h5
 refine zm (by omega) (by omega) (zan rfl hi') (zg rfl ?_)
 rw[<-hu]
 refine zd rfl (by omega) ?_
 refine Vcall.bool (zi6 _ _) (λh6=>zw rfl (zt ?_)) (λh6=>zu rfl (zq ?_))
 rotate_left
 ·exact zf (bad λk=>by have:=k.2.2.1;rw[h6]at this;cases this)
 refine Vloop.mk' (λy:Nat=>{F:=[(0, .r (nods t)),(3, .r (I n)),(7, .r (I j)),(8, .r (is L)),(9, .r (I i)),(10, .r (I y))],O:=[],nx:=0}) (λy=>y<=t.length/\∀z,z<y->zn6 t j u z) (λy=>t.length-y) 0 ⟨by omega,by omega⟩ (zac [] rfl ⟨cr,cr,cr,cr,cr,cr,trivial⟩ trivial) ?_
 rintro y ⟨hy,hov⟩
 refine zh (λh7=>zq ?_) (λh7=>zt ?_)
 rotate_left
 ·simp only[zb]at h7
  refine zd (m:=((i+1:Nat):Int)) (by omega) (by omega) ?_
  exact⟨i+1,⟨hi',zx0 (p:=λu=>zcg t n j u) hi' hli (hu▸⟨by omega,by omega,h6,λz hz=>hov z (by omega)⟩)⟩,by omega,zac [] rfl ⟨cr,cr,cr,cr,cr,trivial⟩ trivial⟩
 simp only[zb]at h7
 have hy':y<t.length:=by omega
 have step:zn6 t j u y->∀z,z<y+1->zn6 t j u z:=λhh z hz=>by
  rcases Nat.lt_or_ge z y with h8 |h8
  ·exact hov z h8
  ·have:z=y:=by omega
   subst this;exact hh
 have hyl:=(hfit _ (zf9 hy')).2.2.2.1
 refine aV ?_
 refine zm (by omega) (by omega) (zbf rfl hy') (zg rfl ?_)
 refine zh (λk1=>?_) (λk1=>zt ?_)
 rotate_left
 ·simp only[zb]at k1
  refine zd (m:=((y+1:Nat):Int)) (by omega) (by omega) ?_
  exact⟨y+1,⟨hy',step (λk=>absurd k.1 (by omega))⟩,by omega,zac [] rfl ⟨cr,cr,cr,cr,cr,cr,trivial⟩ trivial⟩
 simp only[zb]at k1
 refine zm (by omega) (by omega) (zan rfl hi') (zg rfl ?_)
 rw[<-hu]
 refine zd rfl (by omega) ?_
 refine Vcall.bool (zi6 _ _) (λk2=>?_) (λk2=>zt ?_)
 rotate_left
 ·refine zd (m:=((y+1:Nat):Int)) (by omega) (by omega) ?_
  exact⟨y+1,⟨hy',step (λk=>absurd k.2.1 (by rw[k2];decide))⟩,by omega,zac [] rfl ⟨cr,cr,cr,cr,cr,cr,trivial⟩ trivial⟩
 refine Vcall.bool (zi6 _ _) (λk3=>?_) (λk3=>zt ?_)
 rotate_left
 ·refine zd (m:=((y+1:Nat):Int)) (by omega) (by omega) ?_
  exact⟨y+1,⟨hy',step (λk=>absurd k.2.2.1 (by rw[k3];decide))⟩,by omega,zac [] rfl ⟨cr,cr,cr,cr,cr,cr,trivial⟩ trivial⟩
 refine zm (by omega) (by omega) (zbf rfl hy') (zg rfl ?_)
 refine zm (by omega) (by omega) (zan rfl hi') (zg rfl ?_)
 rw[<-hu]
 refine Vcall.bool (zze _ _ (by omega)) (λk4=>zw rfl (zt ?_)) (λk4=>zu rfl (zq ?_))
 ·simp only[zb]at k4
  refine zd (m:=((y+1:Nat):Int)) (by omega) (by omega) ?_
  exact⟨y+1,⟨hy',step (λk=>absurd k4 k.2.2.2)⟩,by omega,zac [] rfl ⟨cr,cr,cr,cr,cr,cr,trivial⟩ trivial⟩
 ·simp only[zb]at k4
  exact zf (bad λk=>k.2.2.2 y hy' ⟨by omega,k2,k3,k4⟩)
theorem zeq(t:List Node)(ht:t.length<=1000000):aG 33 [nods t] (.r (I (zae t))):=by
 refine aT Tryz.func33 rfl ?_
 refine zd (m:=((t.length+1:Nat):Int)) (by omega) (by omega) ?_
 refine⟨by decide,(((t.length+1)/2:Nat):Int),by rw[Int.tdiv_eq_ediv_of_nonneg (by omega)];exact(by omega:(((t.length+1)/2:Nat):Int)=((t.length+1:Nat):Int)/2).trans (wrap_i64 (by omega)),?_⟩
 refine Vrem.nat t.length 2 rfl rfl (by decide) ?_
 unfold zae
 refine zh (λh=>zq ?_) (λh=>?_)
 ·simp only[zb]at h
  exact zf (congrArg I (by rw[if_neg (λk=>by omega)]))
 simp only[zb]at h
 refine Vcall.bool (zvk _) (λhf=>zw rfl (zt ?_)) (λhf=>zu rfl (zq ?_))
 ·exact zf (congrArg I (by rw[if_pos ⟨hf,by omega⟩]))
 ·exact zf (congrArg I (by rw[if_neg (λk=>by rw[hf]at k;cases k.1)]))
theorem zc9b(x:Int):aG 174 [I x] (.r (.b false)):=by
 refine aT Tryz.func174 rfl ?_
 exact Vcmp.mk' (m:=false) (by simp) (cr)
theorem zddb(x:Int):aG 118 [I x] (.r (.b false)):=by
 refine aT Tryz.func118 rfl ?_
 exact Vcmp.mk' (m:=false) (by simp) (cr)
theorem zafb(x y:Int):aG 117 [I x,I y] (.r (.b (decide (x<y)))):=by
 refine aT Tryz.func117 rfl ?_
 refine ze (zc9b x) ?_
 exact Vcmp.mk' rfl (cr)
def posL(l:List Int)(x:Int):Nat:=(l.takeWhile λy=>decide (y<x)).length
theorem zz4: ∀{l:List Int} {x:Int} {p:Nat},p<=l.length->(∀y∈l.take p,y<x)->(∀y∈l.drop p,x<=y)->posL l x=p
 |[],x,p,h,_,_=>by simp at h;subst h;rfl
 |a::l,x,0,_,_,h2=>by
  have:=h2 a (by simp)
  unfold posL
  rw[List.takeWhile_cons_of_neg (by simp;omega)];rfl
 |a::l,x,p+1,h,h1,h2=>by
  have:=h1 a (by simp)
  have ih:=zz4 (l:=l) (x:=x) (p:=p) (by simpa using h) (λy hy=>h1 y (by simp[hy])) (λy hy=>h2 y (by simpa using hy))
  unfold posL at ih⊢
  rw[List.takeWhile_cons_of_pos (by simp;omega),List.length_cons,ih]
theorem zs6(l:List Int)(x:Int)(hl:l.length<=1000000000)(hs:l.Pairwise (· < ·)):aG 71 [is l,I x] (.r (.tu [I (posL l x), .b (decide (x∈l))])):=by
 refine aT Tryz.func71 rfl ?_
 have hmono: ∀i j (hi:i<l.length) (hj:j<l.length),i<j->l[i]<l[j]:=λi j hi hj h=>List.pairwise_iff_getElem.1 hs i j hi hj h
 refine Vloop.mk' (λi:Nat×Nat=>⟨[(0, .r (is l)),(1, .r (I x)),(6, .r (I l.length)),(7, .r (I i.1)),(8, .r (I i.2))],[],0⟩)
  (λi=>i.1<=i.2/\i.2<=l.length/\(∀j (h:j<l.length),j<i.1->l[j]<x)/\(∀j (h:j<l.length),i.2<=j->x<=l[j])) (λi=>i.2-i.1) (0,l.length)
  ⟨by simp,by simp,λj _ h=>by simp at h,λj h h2=>by dsimp only at h2;omega⟩ (zac [] rfl ⟨cr,cr,cr,cr,cr,trivial⟩ trivial) ?_
 rintro⟨p,q⟩ ⟨h1,h2,h3,h4⟩
 dsimp only at h1 h2 h3 h4⊢
 refine zh (λh=>zq ?_) (λh=>zt ?_)
 ·simp only[zb]at h
  have hm:(p+q)/2<l.length:=by omega
  refine zd (m:=((p+q:Nat):Int)) (by omega) (by omega) ?_
  refine Vint.nat (.inl rfl) (p+q) rfl (by omega) ?_
  refine Vshr.nat (.inl rfl) (p+q) 1 ((p+q)/2) rfl rfl (by decide) rfl ?_
  refine Vint.nat (.inr rfl) ((p+q)/2) rfl (by omega) ?_
  refine zm (by omega) (by omega) (zan rfl hm) (zg rfl ?_)
  refine Vcall.bool (zafb _ x) (λhq=>zq ?_) (λhq=>zt ?_)
  ·simp only[decide_eq_true_eq]at hq
   refine zd (m:=(((p+q)/2+1:Nat):Int)) (by omega) (by omega) ?_
   refine⟨((p+q)/2+1,q),⟨by dsimp only;omega,h2,λj hj hjp=>?_,h4⟩,by dsimp only;omega,zac [] rfl ⟨cr,cr,cr,cr,cr,trivial⟩ trivial⟩
   dsimp only at hjp
   rcases Nat.lt_or_ge j ((p+q)/2)with h5 |h5
   ·exact Int.lt_trans (hmono j _ hj hm h5) hq
   ·obtain rfl:j=(p+q)/2:=by omega
    exact hq
  ·simp only[decide_eq_false_iff_not]at hq
   refine⟨(p,(p+q)/2),⟨by dsimp only;omega,by dsimp only;omega,h3,λj hj hjp=>?_⟩,by dsimp only;omega,zac [] rfl ⟨cr,cr,cr,cr,cr,trivial⟩ trivial⟩
   dsimp only at hjp
   rcases Nat.lt_or_ge ((p+q)/2) j with h5 |h5
   ·have:=hmono _ j hm hj h5;omega
   ·obtain rfl:j=(p+q)/2:=by omega
    omega
 simp only[zb]at h
 obtain rfl:p=q:=by omega
 have hpos:posL l x=p:=by
  refine zz4 h2 (λy hy=>?_) (λy hy=>?_)
  ·obtain⟨i,hi,rfl⟩:=List.getElem_of_mem hy
   rw[List.length_take]at hi
   rw[List.getElem_take]
   exact h3 i (by omega) (by omega)
  ·obtain⟨i,hi,rfl⟩:=List.getElem_of_mem hy
   rw[List.length_drop]at hi
   rw[List.getElem_drop]
   exact h4 (p+i) (by omega) (by omega)
 have hmem:x∈l↔∃h:p<l.length,l[p]=x:=by
  constructor
  ·intro hx
   obtain⟨i,hi,e⟩:=List.getElem_of_mem hx
   rcases Nat.lt_or_ge i p with h5 |h5
   ·have:=h3 i hi h5;omega
   ·rcases Nat.lt_or_ge p i with h6 |h6
    ·have h7:=h4 p (by omega) (Nat.le_refl _)
     have h8:=hmono p i (by omega) hi h6
     omega
    ·obtain rfl:i=p:=by omega
     exact⟨hi,e⟩
  ·rintro⟨h5,rfl⟩;exact List.getElem_mem h5
 rw[hpos]
 refine zh (λh5=>?_) (λh5=>?_)
 ·simp only[zb]at h5
  have hp:p<l.length:=by omega
  refine zm (by omega) (by omega) (zan rfl hp) (zg rfl ?_)
  refine zh (λh6=>?_) (λh6=>?_)
  ·simp only[zb]at h6
   rw[decide_eq_true (hmem.2 ⟨hp,h6⟩)]
   exact⟨_,rfl,cr⟩
  ·simp only[zb]at h6
   rw[decide_eq_false (λk=>h6 (hmem.1 k).2)]
   refine zm (by omega) (by omega) (zan rfl hp) (zg rfl ?_)
   refine ze (zddb _) ?_
   exact⟨_,rfl,cr⟩
 ·simp only[zb]at h5
  rw[decide_eq_false (λk=>h5 (by have:=(hmem.1 k).1;omega))]
  exact⟨_,rfl,cr⟩
theorem z7g(t:List Node)(ht:t.length<=1000000)(hfit: ∀x∈t,x.fit): ∃b:Bool,(b=true↔∀j,j<t.length->okT t j)/\aG 34 [nods t] (.r (.b b)):=by
 classical
 refine⟨decide (∀j,j<t.length->okT t j),decide_eq_true_iff,?_⟩
 refine aT Tryz.func34 rfl ?_
 have no: ∀j,j<t.length->¬okT t j->Cv (.b false) (.b (decide (∀j,j<t.length->okT t j))):=λj hj h=>zf (congrArg RV.b (Eq.symm (decide_eq_false λk=>h (k j hj))))
 refine Vloop.mk' (λj:Nat=>⟨[(0, .r (nods t)),(8, .r (nods t)),(9, .r (I t.length)),(10, .r (I j))],[],0⟩) (λj=>j<=t.length/\∀i,i<j->okT t i) (λj=>t.length-j) 0 ⟨by omega,by omega⟩ (zac [] rfl ⟨cr,cr,cr,cr,trivial⟩ trivial) ?_
 rintro j ⟨hj,hok⟩
 refine zh (λh=>zq ?_) (λh=>zt ?_)
 ·simp only[zb]at h
  have hj':j<t.length:=by omega
  have g:=zvn (nT t j) (hfit _ (zf9 hj'))
  refine zm (by omega) (by omega) (zbf rfl hj') ?_
  refine za rfl rfl ?_
  have fin:(j%2=1->(nT t j).kind.toNat≠1)->(j%2=0->(nT t j).kind.toNat≠2)->(nT t j).right=true->okT t j:=λh1 h2 h3=>⟨h3,λk=>h2 k.1 k.2,λk=>h1 k.1 k.2⟩
  refine Vrem.nat j 2 rfl rfl (by decide) ?_
  refine zh (λh1=>zq ?_) (λh1=>zt ?_)
  all_goals
   simp only[zb]at h1
   refine zh (λh2=>zq ?_) (λh2=>zt ?_)
   ·simp only[zb]at h2
    exact no j hj' λk=>by first|exact k.2.2 ⟨by omega,by omega⟩|exact k.2.1 ⟨by omega,by omega⟩
   ·simp only[zb]at h2
    refine za rfl rfl ?_
    refine ze g ?_
    cases hr:(nT t j).right with
    |true=>
     refine zw rfl (zt ?_)
     refine zd (m:=((j+1:Nat):Int)) (by omega) (by omega) ?_
     refine⟨j+1,⟨hj',λi hi=>?_⟩,by omega,zac [] rfl ⟨cr,cr,cr,cr,trivial⟩ trivial⟩
     rcases Nat.lt_or_ge i j with h3 |h3
     ·exact hok i h3
     ·obtain rfl:i=j:=by omega
      exact fin (by omega) (by omega) hr
    |false=>
     refine zu rfl (zq ?_)
     exact no j hj' λk=>by have k1:=k.1;rw[hr]at k1;cases k1
 ·simp only[zb]at h
  exact zf (congrArg RV.b (Eq.symm (decide_eq_true λi hi=>hok i (by omega))))
theorem zqx: ∀(l:List Int) (a:Int),zca a l=true->(∀x∈l,a<x)/\l.Pairwise (· < ·)
 |[],a,_=>⟨λx h=>(by cases h),List.Pairwise.nil⟩
 |y::r,a,h=>by
  simp only[zca,Bool.and_eq_true,decide_eq_true_eq]at h
  obtain⟨h1,h2⟩:=zqx r y h.2
  refine⟨λx hx=>?_,List.pairwise_cons.2 ⟨h1,h2⟩⟩
  rcases List.mem_cons.1 hx with rfl |hx
  ·exact h.1.1
  ·exact Int.lt_trans h.1.1 (h1 x hx)
theorem zqw: ∀(l:List Int) (a:Int),zca a l=true->a<65536->(l.length:Int)+a<=65535
 |[],a,_,h=>by simp;omega
 |x::l,a,h,_=>by
  simp only[zca,Bool.and_eq_true,decide_eq_true_eq]at h
  have:=zqw l x h.2 h.1.2
  simp only[List.length_cons]
  omega
theorem Node.late_lenC{n:Node}(h:n.right=true):n.par.late.length<=65536:=by
 unfold Node.right at h
 split at h
 ·simp only[Bool.and_eq_true,Par.none,decide_eq_true_eq]at h;omega
 ·split at h
  ·simp only[Bool.and_eq_true,Par.none,decide_eq_true_eq]at h;omega
  ·split at h
   ·simp only[Bool.and_eq_true,Par.right]at h
    have:=zqw _ _ h.2.1 (by omega)
    omega
   ·cases h
theorem zd2{n:Node}(h:n.right=true):(n.kind.toNat=0\/n.kind.toNat=1\/n.kind.toNat=2)/\n.par.late.Pairwise (· < ·)/\(n.kind.toNat≠2->n.par.late=[]):=by
 unfold Node.right at h
 split at h
 ·simp only[Bool.and_eq_true,Par.none,decide_eq_true_eq,List.length_eq_zero_iff]at h
  rw[h.2.2.2]
  exact⟨.inl (by assumption),List.Pairwise.nil,λ_=>rfl⟩
 ·split at h
  ·simp only[Bool.and_eq_true,Par.none,decide_eq_true_eq,List.length_eq_zero_iff]at h
   rw[h.2.2.2]
   exact⟨.inr (.inl (by assumption)),List.Pairwise.nil,λ_=>rfl⟩
  ·split at h
   ·simp only[Bool.and_eq_true,Par.right]at h
    exact⟨.inr (.inr (by assumption)),(zqx _ _ h.2.1).2,λk=>absurd (by assumption) k⟩
   ·cases h
theorem z4q{t:List Node}{d j m h:Nat}(hd:d<=16)(hn:zae t=((2^d:Nat):Int))(hok: ∀i,i<t.length->okT t i)(hm:m<2^d)(hj:j=nd h (m/2^h))(hh1:1<=h)(hhd:h<=d)(hu:(m:Int)∈(nT t j).par.late)(hk:(nT t (2*m)).kind.toNat=1):
  zcg t (zae t) j m↔∀i,1<=i->i<h->(nT t (nd i (m/2^i))).kind.toNat≠0->(m:Int)∈(nT t (nd i (m/2^i))).par.late:=by
 have hlen:=(zbg (t:=t) (by rw[hn];have:=zai d;omega)).1
 rw[hn]at hlen
 have hm16:m<65536:=Nat.lt_of_lt_of_le hm (zgb hd).2
 have hdiv: ∀i,i<=d->m/2^i<2^(d-i):=λi hi=>by
  rw[Nat.div_lt_iff_lt_mul (zai i),<-Nat.pow_add,show d-i+i=d by omega];exact hm
 have hdiv16: ∀i,i<=d->m/2^i<2^(16-i):=λi hi=>Nat.lt_of_lt_of_le (hdiv i hi) (Nat.pow_le_pow_right (by omega) (by omega))
 have hin: ∀i,i<=d->nd i (m/2^i)<t.length:=λi hi=>by have:=(zlg hi).2 (hdiv i hi);omega
 have hund: ∀i,i<=d->zb3 (2*(m:Int)) (nd i (m/2^i):Int)=true:=λi hi=>(zh1 (by omega) (hdiv16 i hi) hm16).2 rfl
 constructor
 ·rintro⟨_,_,_,h4⟩ i hi1 hi2 hk0
  have hlt:=hin i (by omega)
  have h5:=h4 _ hlt
  have ok:=hok _ hlt
  have hodd:nd i (m/2^i)%2=1:=by
   obtain⟨g,rfl⟩: ∃g,i=g+1:=⟨i-1,by omega⟩
   rw[zsf];omega
  have hkk:=(zd2 ok.1).1
  have hk1:=ok.2.2
  have hk2:(nT t (nd i (m/2^i))).kind.toNat=2:=by
   rcases hkk with k |k |k
   ·exact absurd k hk0
   ·exact absurd ⟨hodd,k⟩ hk1
   ·exact k
  refine Classical.byContradiction λhno=>h5 ⟨hk2,hund i (by omega),?_,hno⟩
  rw[hj,znm (d:=d) hd hhd (hdiv h hhd) (ziu hd (by omega) (hdiv i (by omega))),zwa]
  refine⟨by omega,?_⟩
  rw[Nat.div_div_eq_div_mul,<-Nat.pow_add,show i+(h-i)=h by omega]
 ·intro hp
  refine⟨by rw[hn];omega,?_,?_,λy hy=>?_⟩
  ·rw[show(2*(m:Int)).toNat=2*m by omega];exact hk
  ·rw[hj];exact hund h hhd
  ·rintro⟨k1,k2,k3,k4⟩
   obtain⟨d',i,q,hd',e1,hi,hq,e2⟩:=zia (x:=(y:Int)) (n:=((2^d:Nat):Int)) (zft.2 ⟨zev d hd,by omega,by omega⟩)
   obtain rfl:d'=d:=(Nat.pow_right_inj (by omega)).1 (Int.ofNat.inj e1).symm
   have e3:y=nd i q:=Int.ofNat.inj e2
   subst e3
   have e4:m/2^i=q:=(zh1 (by omega) (lt16 hd hq) hm16).1 k2
   subst e4
   rw[hj,znm (d:=d') hd hhd (hdiv h hhd) (ziu hd hi hq),zwa]at k3
   rcases Nat.eq_zero_or_pos i with h0 |hpos
   ·subst h0
    rw[ze6]at k1
    simp only[Nat.pow_zero,Nat.div_one]at k1
    omega
   ·rcases Nat.lt_or_ge i h with h6 |h6
    ·exact k4 (hp i hpos h6 (by omega))
    ·obtain rfl:i=h:=by omega
     exact k4 (hj▸hu)
theorem zdib(t:List Node)(ht:t.length<=1000000)(hfit: ∀x∈t,x.fit)(hok: ∀i,i<t.length->okT t i)(hn0:zae t≠0)(j:Nat)(hj:j<t.length):
  ∃b:Bool,(b=true↔∀u∈(nT t j).par.late,zcg t (zae t) j u)/\aG 36 [nods t,I j] (.r (.b b)):=by
 classical
 refine⟨decide (∀u∈(nT t j).par.late,zcg t (zae t) j u),decide_eq_true_iff,?_⟩
 refine aT Tryz.func36 rfl ?_
 obtain⟨hl1,hl2,hl3⟩:=zbg hn0
 obtain⟨d,hd,hn⟩:=zdn hl2
 have hp16:=(zgb hd).2
 have hR:=(hok j hj).1
 have hlb: ∀u∈(nT t j).par.late,zn2 u:=Node.right_late hR
 have hll:(nT t j).par.late.length<=65536:=Node.late_lenC hR
 have no: ∀u∈(nT t j).par.late,¬zcg t (zae t) j u->Cv (.b false) (.b (decide (∀u∈(nT t j).par.late,zcg t (zae t) j u))):=λu hu h=>zf (congrArg RV.b (Eq.symm (decide_eq_false λk=>h (k u hu))))
 refine ze (zeq t ht) ?_
 refine zm (by omega) (by omega) (zbf rfl hj) ?_
 refine zg rfl ?_
 refine Vloop.mk' (λi:Nat=>⟨[(0, .r (nods t)),(1, .r (I j)),(5, .r (I (zae t))),(19, .r (is (nT t j).par.late)),(20, .r (I (nT t j).par.late.length)),(21, .r (I i))],[],0⟩) (λi=>i<=(nT t j).par.late.length/\∀u∈(nT t j).par.late.take i,zcg t (zae t) j u) (λi=>(nT t j).par.late.length-i) 0
  ⟨by omega,by simp⟩ (zac [] rfl ⟨cr,cr,cr,cr,cr,cr,trivial⟩ trivial) ?_
 rintro i ⟨hi,hall⟩
 refine zh (λh=>zq ?_) (λh=>zt ?_)
 ·simp only[zb]at h
  have hi':i< (nT t j).par.late.length:=by omega
  have hmem:=List.getElem_mem hi'
  obtain⟨m,hu,hm16,_⟩:=z4n (hlb _ hmem)
  refine zm (by omega) (by omega) (zan rfl hi') (zg rfl ?_)
  have hkk:=zd2 hR
  obtain⟨d',h,q,hd',e1,hhd,hq,e2⟩:=zia (x:=(j:Int)) (n:=((2^d:Nat):Int)) (zft.2 ⟨zev d hd,by omega,by omega⟩)
  obtain rfl:d'=d:=(Nat.pow_right_inj (by omega)).1 (Int.ofNat.inj e1).symm
  have e3:j=nd h q:=Int.ofNat.inj e2
  have hk2:(nT t j).kind.toNat=2:=Classical.byContradiction λk=>by rw[hkk.2.2 k]at hi';simp at hi'
  have hh1:1<=h:=by
   rcases Nat.eq_zero_or_pos h with h0 |h0
   ·subst h0
    rw[ze6]at e3
    exact absurd ⟨by omega,hk2⟩ (hok j hj).2.1
   ·exact h0
  have next:zcg t (zae t) j m->∀u∈(nT t j).par.late.take (i+1),zcg t (zae t) j u:=λhlt u hu'=>by
   rw[List.take_succ_eq_append_getElem hi',List.mem_append]at hu'
   rcases hu' with hu' |hu'
   ·exact hall u hu'
   ·rw[List.mem_singleton.1 hu',hu];exact hlt
  rw[hu]at hmem⊢
  have bad:=no m hmem
  refine zh (λc1=>zq ?_) (λc1=>?_)
  ·simp only[zb]at c1
   exact bad λk=>by have:=k.1;omega
  simp only[zb]at c1
  have hm:m<2^d':=by omega
  refine zd rfl (by omega) ?_
  refine Vcall.bool (zajb (2*(m:Int)) j) (λc2=>zw rfl ?_) (λc2=>zu rfl (zq ?_))
  rotate_left
  ·exact bad λk=>by have:=k.2.2.1;rw[c2]at this;cases this
  refine zd rfl (by omega) ?_
  have h2m:2*m<t.length:=by omega
  refine zm (by omega) (by omega) (zbf (j:=2*m) (by omega) h2m) ?_
  refine zg rfl ?_
  refine zh (λc3=>zq ?_) (λc3=>zt ?_)
  ·simp only[zb]at c3
   exact bad λk=>by have:=k.2.1;rw[show(2*(m:Int)).toNat=2*m by omega]at this;omega
  simp only[zb]at c3
  have hk1:(nT t (2*m)).kind.toNat=1:=by
   have ok:=hok _ h2m
   have:=(zd2 ok.1).1
   have:=ok.2.1
   omega
  have hmq:m/2^h=q:=(zh1 (by omega) (lt16 hd hq) hm16).1 (by rw[<-e3];exact c2)
  subst hmq
  have hlp:=z4q hd hn hok hm e3 hh1 hhd hmem hk1
  have hpath:zb4 (2*(m:Int)) (zae t)=(List.range d').map λi=>(nd (i+1) (m/2^(i+1)):Int):=by
   rw[hn,<-zhz hd hm,ze6];rfl
  have hdiv: ∀i,i<=d'->m/2^i<2^(d'-i):=λi hi=>by
   rw[Nat.div_lt_iff_lt_mul (zai i),<-Nat.pow_add,show d'-i+i=d' by omega];exact hm
  have hin: ∀i,i<=d'->nd i (m/2^i)<t.length:=λi hi=>by have:=(zlg hi).2 (hdiv i hi);omega
  refine zd rfl (by omega) ?_
  refine ze (zvq _ _) ?_
  obtain⟨P,hP⟩: ∃P,zb4 (2*(m:Int)) (zae t)=P:=⟨_,rfl⟩
  rw[hP]at hpath⊢
  have hPl:P.length=d':=by rw[hpath];simp
  refine Vloop.mk' (λk:Nat=>⟨[(0, .r (nods t)),(1, .r (I j)),(5, .r (I (zae t))),(7, .r (I m)),(19, .r (is (nT t j).par.late)),(20, .r (I (nT t j).par.late.length)),(21, .r (I i)),(47, .r (is P)),(48, .r (I P.length)),(49, .r (I k))],[],0⟩)
   (λk=>k<h/\∀i,1<=i->i<=k->(nT t (nd i (m/2^i))).kind.toNat≠0->(m:Int)∈(nT t (nd i (m/2^i))).par.late) (λk=>h-k) 0 ⟨by omega,λi h1 h2=>by omega⟩
   (zac [] rfl ⟨cr,cr,cr,cr,cr,cr,cr,cr,cr,cr,trivial⟩ trivial) ?_
  rintro k ⟨hkh,hkall⟩
  refine zh (λc4=>zq ?_) (λc4=>?_)
  rotate_left
  ·simp only[zb]at c4
   omega
  have hkP:k<P.length:=by omega
  have hPk:P[k]=(nd (k+1) (m/2^(k+1)):Int):=by simp only[hpath,List.getElem_map,List.getElem_range]
  have hpin:=hin (k+1) (by omega)
  refine zm (by omega) (by omega) (zan rfl hkP) (zg rfl ?_)
  rw[hPk]
  refine zh (λc5=>zq ?_) (λc5=>zt ?_)
  ·simp only[zb]at c5
   have e5:nd (k+1) (m/2^(k+1))=nd h (m/2^h):=by omega
   obtain rfl:k+1=h:=(zka (by omega) (by omega) e5).1
   refine zd (m:=((i+1:Nat):Int)) (by omega) (by omega) ?_
   exact⟨i+1,⟨hi',next (hlp.2 λi h1 h2=>hkall i h1 (by omega))⟩,by omega,zac [] rfl ⟨cr,cr,cr,cr,cr,cr,trivial⟩ trivial⟩
  simp only[zb]at c5
  have hk1h:k+1<h:=by
   rcases Nat.lt_or_ge (k+1) h with h5 |h5
   ·exact h5
   ·obtain rfl:k+1=h:=by omega
    exact absurd (by omega) c5
  have okp:=hok _ hpin
  obtain⟨_,hsorted,_⟩:=zd2 okp.1
  have hfp:=(hfit _ (zf9 hpin)).2.2.2.1
  have gb:=zs6 (nT t (nd (k+1) (m/2^(k+1)))).par.late m (by omega) hsorted
  refine zm (by omega) (by omega) (zbf rfl hpin) ?_
  refine zg rfl ?_
  refine ze gb ?_
  refine zm (by omega) (by omega) (zbf rfl hpin) ?_
  refine zg rfl ?_
  have step:((nT t (nd (k+1) (m/2^(k+1)))).kind.toNat≠0->(m:Int)∈(nT t (nd (k+1) (m/2^(k+1)))).par.late)->∀i,1<=i->i<=k+1->(nT t (nd i (m/2^i))).kind.toNat≠0->(m:Int)∈(nT t (nd i (m/2^i))).par.late:=λhs i h1 h2=>by
   rcases Nat.lt_or_ge i (k+1)with h5 |h5
   ·exact hkall i h1 (by omega)
   ·obtain rfl:i=k+1:=by omega
    exact hs
  refine zh (λc6=>?_) (λc6=>zt ?_)
  ·simp only[zb]at c6
   by_cases hmm:(m:Int)∈(nT t (nd (k+1) (m/2^(k+1)))).par.late
   ·rw[decide_eq_true hmm]
    refine zw rfl (zt ?_)
    refine zd (m:=((k+1:Nat):Int)) (by omega) (by omega) ?_
    exact⟨k+1,⟨hk1h,step λ_=>hmm⟩,by omega,zac [] rfl ⟨cr,cr,cr,cr,cr,cr,cr,cr,cr,cr,trivial⟩ trivial⟩
   ·rw[decide_eq_false hmm]
    refine zu rfl (zq ?_)
    exact bad λk=>hmm (hlp.1 k _ (by omega) hk1h (by omega))
  ·simp only[zb]at c6
   refine zd (m:=((k+1:Nat):Int)) (by omega) (by omega) ?_
   exact⟨k+1,⟨hk1h,step λk=>absurd (by omega) k⟩,by omega,zac [] rfl ⟨cr,cr,cr,cr,cr,cr,cr,cr,cr,cr,trivial⟩ trivial⟩
 ·simp only[zb]at h
  rw[List.take_of_length_le (by omega)]at hall
  exact zf (congrArg RV.b (Eq.symm (decide_eq_true hall)))
theorem zh6{α:Type}{f:α->List RV}{sz:Nat}(h: ∀x,(f x).length=sz): ∀l:List α,(l.flatMap f).length=l.length*sz
 |[]=>by simp
 |x::r=>by rw[List.flatMap_cons,aL,h,zh6 h r,List.length_cons,Nat.add_mul];omega
theorem znu{α:Type}{f:α->List RV}{sz:Nat}(h: ∀x,(f x).length=sz): ∀{l:List α} {n:Nat},(l.flatMap f).drop (n*sz)=(l.drop n).flatMap f
 |[],n=>by simp
 |x::r,0=>by simp
 |x::r,n+1=>by rw[List.flatMap_cons,Nat.add_mul,Nat.one_mul,Nat.add_comm,<-List.drop_drop,List.drop_left' (h x),List.drop_succ_cons,znu h]
theorem zir(t:List Node)(ht:t.length<=1000000)(hfit: ∀x∈t,x.fit):aG 14 [nods t] (.r (.b (rightT t))):=by
 obtain⟨b,hb,gp⟩:=z7g t ht hfit
 refine aT Tryz.func14 rfl ?_
 have no: ¬RightT t->Cv (.b false) (.b (rightT t)):=λh=>zf (congrArg RV.b (ztz h).symm)
 refine ze (zeq t ht) ?_
 refine zh (λc1=>zq ?_) (λc1=>?_)
 ·simp only[zb]at c1
  exact no λr=>r.n c1
 simp only[zb]at c1
 obtain⟨hl1,hl2,hl3⟩:=zbg c1
 have hlb:=zcc hl2
 cases b with
 |false=>
  refine ze gp (zu rfl (zq ?_))
  exact no λr=>by have:=hb.2 r.ok;cases this
 |true=>
 have hok:=hb.1 rfl
 refine ze gp (zw rfl ?_)
 have hsome:zel t (zae t) t.length=true↔(zae t=1->t.any isLf=true)/\(zae t≠1->(t.drop (zae t).toNat).any isLf=true):=by
  simp only[zel,List.any_eq_true,List.mem_range,decide_eq_true_eq,isLf]
  constructor
  ·rintro⟨i,hi,k1,k2⟩
   refine⟨λ_=>⟨nT t i,zf9 hi,k1⟩,λh1=>⟨nT t i,?_,k1⟩⟩
   rw[<-ze5 hi,List.mem_drop_iff_getElem]
   exact⟨i-(zae t).toNat,by omega,by congr 1;omega⟩
  ·rintro⟨h1,h2⟩
   by_cases h:zae t=1
   ·obtain⟨n,hn,hk⟩:=h1 h
    obtain⟨i,hi,rfl⟩:=List.getElem_of_mem hn
    exact⟨i,hi,by rw[<-ze5 hi];exact hk, .inl h⟩
   ·obtain⟨n,hn,hk⟩:=h2 h
    rw[List.mem_drop_iff_getElem]at hn
    obtain⟨i,hi,rfl⟩:=hn
    exact⟨(zae t).toNat+i,by omega,by rw[<-ze5 (by omega)];exact hk, .inr (by omega)⟩
 have hR:zel t (zae t) t.length=true->((∀j,j<t.length->∀u∈(nT t j).par.late,zcg t (zae t) j u)↔RightT t):=λhs=>⟨λhh=>⟨c1,hok,hs,hh⟩,λr=>r.late⟩
 have body:zel t (zae t) t.length=true->∀j,j<=t.length->(∀i,i<j->∀u∈(nT t i).par.late,zcg t (zae t) i u)->(j<t.length->∃b:Bool,(b=false->¬RightT t)/\(b=true->∀i,i<j+1->∀u∈(nT t i).par.late,zcg t (zae t) i u)/\aG 36 [nods t,I j] (.r (.b b)))/\(t.length<=j->RightT t):=λhs j hj hall=>by
  refine⟨λhj'=>?_,λhj'=>(hR hs).1 λi hi=>hall i (by omega)⟩
  obtain⟨b,hb,g⟩:=zdib t ht hfit hok c1 j hj'
  refine⟨b,λh r=>(by rw[hb.2 (r.late j hj')]at h;cases h),λh i hi=>?_,g⟩
  rcases Nat.lt_or_ge i j with h5 |h5
  ·exact hall i h5
  ·obtain rfl:i=j:=by omega
   exact hb.1 h
 refine zh (λc2=>?_) (λc2=>?_)
 ·simp only[zb]at c2
  refine Vcall.bool (znx t (by omega)) (λhs=>zw rfl ?_) (λhs=>zu rfl (zq ?_))
  ·have hs':=hsome.2 ⟨λ_=>hs,λk=>absurd c2 k⟩
   refine zw (by simp only[zb];omega) (zt ?_)
   refine Vloop.mk' (λj:Nat=>⟨[(0, .r (nods t)),(34, .r (nods t)),(35, .r (I t.length)),(36, .r (I j))],[],0⟩) (λj=>j<=t.length/\∀i,i<j->∀u∈(nT t i).par.late,zcg t (zae t) i u) (λj=>t.length-j) 0 ⟨by omega,by omega⟩ (zac [] rfl ⟨cr,cr,cr,cr,trivial⟩ trivial) ?_
   rintro j ⟨hj,hall⟩
   obtain⟨b1,b2⟩:=body hs' j hj hall
   refine zh (λc4=>zq ?_) (λc4=>zt ?_)
   ·simp only[zb]at c4
    obtain⟨b,k1,k2,g⟩:=b1 (by omega)
    cases b with
    |false=>exact ze g (zu rfl (zq (no (k1 rfl))))
    |true=>
     refine ze g (zw rfl (zt ?_))
     refine zd (m:=((j+1:Nat):Int)) (by omega) (by omega) ?_
     exact⟨j+1,⟨by omega,k2 rfl⟩,by omega,zac [] rfl ⟨cr,cr,cr,cr,trivial⟩ trivial⟩
   ·simp only[zb]at c4
    exact zf (congrArg RV.b (zbr.2 (b2 (by omega))).symm)
  ·exact no λr=>by have:=(hsome.1 r.some).1 c2;rw[hs]at this;cases this
 ·simp only[zb]at c2
  refine zu (by simp only[zb];omega) ?_
  refine⟨by omega,by omega,by omega,(t.drop (zae t).toNat).length,(t.drop (zae t).toNat).flatMap Node.c,by rw[List.length_drop];omega,by rw[znu (f:=Node.c) (sz:=10) (λ_=>rfl),List.take_of_length_le (by rw[zh6 (f:=Node.c) (sz:=10) (λ_=>rfl),List.length_drop];omega)],?_⟩
  refine Vcall.bool (znx (t.drop (zae t).toNat) (by rw[List.length_drop];omega)) (λhs=>zw rfl (zt ?_)) (λhs=>zu rfl (zq ?_))
  ·have hs':=hsome.2 ⟨λk=>absurd k c2,λ_=>hs⟩
   refine Vloop.mk' (λj:Nat=>⟨[(0, .r (nods t)),(34, .r (nods t)),(35, .r (I t.length)),(36, .r (I j))],[],0⟩) (λj=>j<=t.length/\∀i,i<j->∀u∈(nT t i).par.late,zcg t (zae t) i u) (λj=>t.length-j) 0 ⟨by omega,by omega⟩ (zac [] rfl ⟨cr,cr,cr,cr,trivial⟩ trivial) ?_
   rintro j ⟨hj,hall⟩
   obtain⟨b1,b2⟩:=body hs' j hj hall
   refine zh (λc4=>zq ?_) (λc4=>zt ?_)
   ·simp only[zb]at c4
    obtain⟨b,k1,k2,g⟩:=b1 (by omega)
    cases b with
    |false=>exact ze g (zu rfl (zq (no (k1 rfl))))
    |true=>
     refine ze g (zw rfl (zt ?_))
     refine zd (m:=((j+1:Nat):Int)) (by omega) (by omega) ?_
     exact⟨j+1,⟨by omega,k2 rfl⟩,by omega,zac [] rfl ⟨cr,cr,cr,cr,trivial⟩ trivial⟩
   ·simp only[zb]at c4
    exact zf (congrArg RV.b (zbr.2 (b2 (by omega))).symm)
  ·exact no λr=>by have:=(hsome.1 r.some).2 c2;rw[hs]at this;cases this
end Go.Proofs.YtpcfoglfakeimaaGreat.Sx
