import Derived.Test.YtpdllgbfemnemaaGreatZPi
namespace Go.Proofs.YtpdllgbfemnemaaGreat.Sx
open Go.RowKit
set_option linter.unusedVariables false
section
def nods(l:List Node):RV:= .sl 10 l.length (l.flatMap Node.c)
theorem z4n{l:List Node}{i:Int}{j:Nat}(h:i=j)(hj:j<l.length):((l.flatMap Node.c).drop (i.toNat*10)).take 10=l[j].c:=zof (f:=Node.c) (sz:=10) (λ_=>rfl) h hj
def nT(t:List Node)(j:Nat):Node:=t.getD j Node.zero
theorem z5a{t:List Node}{j:Nat}(hj:j<t.length):t[j]=nT t j:=by simp[nT,hj]
theorem zfl{t:List Node}{j:Nat}(hj:j<t.length):nT t j∈t:=z5a hj▸List.getElem_mem hj
theorem zgk{l:List Node}{i:Int}{j:Nat}(h:i=j)(hj:j<l.length):((l.flatMap Node.c).drop (i.toNat*10)).take 10=(nT l j).c:=by rw[<-z5a hj];exact z4n h hj
def zqq(t:List Node):Bool:=decide (t.length<=40/\∀x∈t,x.small=true)
theorem z8m(t:List Node)(h1:t.length<=maxL):zaf Tryz.prog 29 [nods t] (.r (.b (zqq t))):=by
 refine zac (T:=Tab) mixed Tab_ok Tryz.func29 rfl (by kernel_rfl) ?_
 have no:(t.length<=40->(∀x∈t,x.small=true)->False)->zqq t=false:=λh=>by
  simp only[zqq,decide_eq_false_iff_not]
  rintro⟨a,b⟩
  exact h a b
 simp only[maxL]at h1
 refine zh (λh=>?_) (λh=>?_)
 ·refine zq (zf (congrArg RV.b (Eq.symm (no λa b=>?_))))
  simp only[zb]at h;omega
 simp only[zb]at h
 refine zt ?_
 refine zy (λj:Nat=>{F:=[(0, .r (nods t)),(3, .r (I j))],O:=[],nx:=0}) (λj=>j<=t.length/\∀x∈t.take j,x.small=true) (λj=>t.length-j) 0 ⟨by omega,by simp⟩ (zad [] rfl ⟨cr,cr,trivial⟩ trivial) ?_
 rintro j ⟨hj,hn⟩
 refine zh (λh4=>zq ?_) (λh4=>zt ?_)
 ·simp only[zb]at h4
  have hj':j<t.length:=by omega
  refine zm (by omega) (by omega) (z4n rfl hj') ?_
  refine za rfl rfl ?_
  refine Vcall.bool (zw3 _) (λh5=>zw rfl (zt ?_)) (λh5=>zu rfl (zq ?_))
  ·refine zd (m:=((j+1:Nat):Int)) (by omega) (by omega) ?_
   exact⟨j+1,⟨hj',zdq hj' hn h5⟩,by omega,zad [] rfl ⟨cr,cr,trivial⟩ trivial⟩
  ·refine zf (congrArg RV.b (Eq.symm (no λa b=>?_)))
   have:=b _ (List.getElem_mem hj')
   rw[h5]at this;cases this
 simp only[zb]at h4
 rw[List.take_of_length_le (by omega)]at hn
 refine zf (congrArg RV.b (Eq.symm ?_))
 simp only[zqq,decide_eq_true_eq]
 exact⟨by omega,hn⟩
theorem z3l(l:List Int)(x:Int)(hl:l.length<=1000000000000):zaf Tryz.prog 112 [is l,I x] (.r (.b (decide (x∈l)))):=by
 refine zac (T:=Tab) mixed Tab_ok Tryz.func112 rfl (by kernel_rfl) ?_
 refine zy (λj:Nat=>{F:=[(0, .r (is l)),(1, .r (I x)),(5, .r (I j))],O:=[],nx:=0}) (λj=>j<=l.length/\x∉l.take j) (λj=>l.length-j) 0 ⟨by omega,by simp⟩ (zad [] rfl ⟨cr,cr,cr,trivial⟩ trivial) ?_
 rintro j ⟨hj,hn⟩
 refine zh (λh=>zq ?_) (λh=>zt ?_)
 ·simp only[zb]at h
  have hj':j<l.length:=by omega
  refine zm (by omega) (by omega) (zai rfl hj') (zg rfl ?_)
  refine zh (λh2=>zq ?_) (λh2=>zt ?_)
  ·simp only[zb]at h2
   exact zf (by simp[ofC,<-h2])
  ·simp only[zb]at h2
   refine zd (m:=((j+1:Nat):Int)) (by omega) (by omega) ?_
   exact⟨j+1,⟨hj',zkj hj' hn h2⟩,by omega,zad [] rfl ⟨cr,cr,cr,trivial⟩ trivial⟩
 ·simp only[zb]at h
  rw[List.take_of_length_le (by omega)]at hn
  exact zf (by simp[ofC,hn])
def ze3(t:List Node):Int:=if za0 (((t.length+1)/2:Nat):Int)=true/\t.length%2=1 then(((t.length+1)/2:Nat):Int)else 0
theorem z6a(t:List Node)(h1:t.length<=1000000):zaf Tryz.prog 111 [nods t] (.r (I (ze3 t))):=by
 refine zac (T:=Tab) mixed Tab_ok Tryz.func111 rfl (by kernel_rfl) ?_
 refine zy (λj:Nat=>{F:=[(0, .r (nods t)),(3, .r (I ((2^j:Nat):Int)))],O:=[],nx:=0}) (λj=>j<=17/\∀i,i<j->2*2^i-1≠t.length) (λj=>17-j) 0 ⟨by omega,by omega⟩ (zad [] rfl ⟨cr,cr,trivial⟩ trivial) ?_
 rintro j ⟨hj,hn⟩
 have hp:=zag j
 have e2:2^(j+1)=2*2^j:=by rw[Nat.pow_succ];omega
 refine zh (λh=>zq ?_) (λh=>zt ?_)
 ·simp only[zb]at h
  have hj':j<17:=by
   rcases Nat.lt_or_ge j 17 with h' |h'
   ·exact h'
   ·have:j=17:=by omega
    subst this
    have:(2:Nat)^17=131072:=by decide
    omega
  refine zd rfl (by omega) ?_
  refine zd rfl (by omega) ?_
  refine zh (λh2=>zq ?_) (λh2=>zt ?_)
  ·simp only[zb]at h2
   refine zf (congrArg I ?_)
   have e:(t.length+1)/2=2^j:=by omega
   have hf:=zdd j (by omega)
   unfold ze3
   rw[e,if_pos ⟨hf,by omega⟩]
  ·simp only[zb]at h2
   refine zd (m:=((2^(j+1):Nat):Int)) (by omega) (by omega) ?_
   refine⟨j+1,⟨by omega,λi hi=>?_⟩,by omega,zad [] rfl ⟨cr,cr,trivial⟩ trivial⟩
   rcases Nat.lt_or_ge i j with h3 |h3
   ·exact hn i h3
   ·have:i=j:=by omega
    subst this;omega
 ·simp only[zb]at h
  refine zf (congrArg I (Eq.symm ?_))
  unfold ze3
  rw[if_neg]
  rintro⟨hf,ho⟩
  obtain⟨d,hd,e⟩:=zde hf
  refine hn d ?_ (by omega)
  rcases Nat.lt_or_ge d j with h3 |h3
  ·exact h3
  ·have:=Nat.pow_le_pow_right (n:=2) (by omega) (show j<=d from h3)
   have:=zhr hd
   omega
def zc6(t:List Node)(n:Nat):List Int:=((List.range n).filter λi=>decide ((nT t (2*i)).kind.toNat=1)).map λi:Nat=>(i:Int)
def zhv(t:List Node):List Int:=zc6 t ((t.length+1)/2)
theorem zp4(t:List Node)(n:Nat):zc6 t (n+1)=if(nT t (2*n)).kind.toNat=1 then zc6 t n++[(n:Int)]else zc6 t n:=by
 unfold zc6
 rw[List.range_succ,List.filter_append]
 by_cases h:(nT t (2*n)).kind.toNat=1
 ·simp[h]
 ·simp[h]
theorem zpg(t:List Node)(n:Nat):(zc6 t n).length<=n:=by
 unfold zc6
 rw[List.length_map]
 exact Nat.le_trans (List.length_filter_le _ _) (by simp)
theorem z2p(t:List Node)(h1:t.length<=1000000):zaf Tryz.prog 113 [nods t] (.r (is (zhv t))):=by
 refine zac (T:=Tab) mixed Tab_ok Tryz.func113 rfl (by kernel_rfl) ?_
 refine zy (λj:Nat=>{F:=[(0, .r (nods t)),(3, .own 0),(4, .r (I j))],O:=[(0,some (.ch 3 1 (zc6 t j).length ((zc6 t j).map I) true))],nx:=1}) (λj=>j<=(t.length+1)/2) (λj=>(t.length+1)/2-j) 0 (by omega)
  ((zew 3 3 1 rfl).trans (zad [(0,0)] rfl ⟨cr,rfl,cr,trivial⟩ ⟨⟨rfl,rfl,rfl,rfl,zn _⟩,trivial⟩)) ?_
 intro j hj
 have hml:=zpg t j
 refine zd rfl (by omega) ?_
 refine zh (λh=>zq ?_) (λh=>zt ?_)
 ·simp only[zb]at h
  have hj':2*j<t.length:=by omega
  refine zd rfl (by omega) ?_
  refine zm (by omega) (by omega) (zgk (j:=2*j) (by omega) hj') (zg rfl ?_)
  refine zh (λh2=>zq ?_) (λh2=>zt ?_)
  ·simp only[zb]at h2
   have e:zc6 t (j+1)=zc6 t j++[(j:Int)]:=by rw[zp4,if_pos (by omega)]
   refine zx ?_
   refine Vapp.mk' (j:=(zc6 t (j+1)).length) (zs:=(zc6 t (j+1)).map I) (by simp[maxLen];omega) (by simp;omega) (by rw[e];simp) (by rw[e];simp[zb8,cellsOf]) ?_
   refine zd (m:=((j+1:Nat):Int)) (by omega) (by omega) ?_
   exact⟨j+1,by omega,by omega,zad [(0,_)] rfl ⟨cr,rfl,cr,trivial⟩ ⟨zbg rfl,trivial⟩⟩
  ·simp only[zb]at h2
   have e:zc6 t (j+1)=zc6 t j:=by rw[zp4,if_neg (by omega)]
   refine zd (m:=((j+1:Nat):Int)) (by omega) (by omega) ?_
   exact⟨j+1,by omega,by omega,zad [(0,0)] rfl ⟨cr,rfl,cr,trivial⟩ ⟨zbg e.symm,trivial⟩⟩
 ·simp only[zb]at h
  have:j=(t.length+1)/2:=by omega
  subst this
  exact cr
theorem zfeb(t:List Node)(i:Int)(h1:t.length<=1000000):zaf Tryz.prog 68 [nods t,I i] (.r (.b (decide (i∈zhv t)))):=by
 refine zac (T:=Tab) mixed Tab_ok Tryz.func68 rfl (by kernel_rfl) ?_
 refine ze (z2p t h1) ?_
 refine ze (z3l _ _ (by have:=zpg t ((t.length+1)/2);unfold zhv;omega)) ?_
 exact cr
theorem z2h{t:List Node}{i:Int}(h:i∈zhv t): ∃o:Nat,i=(o:Int)/\o< (t.length+1)/2/\(nT t (2*o)).kind.toNat=1:=by
 simp only[zhv,zc6,List.mem_map,List.mem_filter,List.mem_range,decide_eq_true_eq]at h
 obtain⟨o,⟨h2,h3⟩,rfl⟩:=h
 exact⟨o,rfl,h2,h3⟩
end
section
def okT(t:List Node)(j:Nat):Prop:=(nT t j).right=true/\¬(j%2=0/\(nT t j).kind.toNat=2)/\¬(j%2=1/\(nT t j).kind.toNat=1)
def zmk(t:List Node)(n:Int)(j:Nat):Bool:=(List.range j).any λi=>decide ((nT t i).kind.toNat=1/\(n=1\/n<=(i:Int)))
theorem zev(t:List Node)(n:Int)(j:Nat):zmk t n (j+1)=(zmk t n j||decide ((nT t j).kind.toNat=1/\(n=1\/n<=(j:Int)))):=by
 unfold zmk
 rw[List.range_succ,List.any_append]
 simp
def zy5(t:List Node)(j:Nat)(u:Int)(y:Nat):Prop:=¬((nT t y).kind.toNat=2/\zal (2*u) (y:Int)=true/\zal (y:Int) (j:Int)=true/\u∉(nT t y).par.late)
def zre(t:List Node)(n:Int)(j:Nat)(u:Int):Prop:=u<n/\(nT t (2*u).toNat).kind.toNat=1/\zal (2*u) (j:Int)=true/\∀y,y<t.length->zy5 t j u y
structure RightT (t:List Node):Prop where
 n:ze3 t≠0
 ok: ∀j,j<t.length->okT t j
 some:zmk t (ze3 t) t.length=true
 late: ∀j,j<t.length->∀u∈(nT t j).par.late,zre t (ze3 t) j u
open Classical in
noncomputable def rightT (t:List Node):Bool:=decide (RightT t)
theorem zvb{t:List Node}:rightT t=true↔RightT t:=by simp[rightT]
theorem z7w{t:List Node}(h: ¬RightT t):rightT t=false:=by simp[rightT,h]
theorem zuj{t:List Node}(h:ze3 t≠0):((t.length:Nat):Int)=2*ze3 t-1/\za0 (ze3 t)=true/\0<t.length:=by
 unfold ze3 at h⊢
 split at h
 ·rename_i h2
  obtain⟨h3,h4⟩:=h2
  have:=zc4 h3
  rw[if_pos ⟨h3,h4⟩]
  exact⟨by omega,h3,by omega⟩
 ·exact absurd rfl h
set_option maxHeartbeats 1000000 in
theorem z7m(t:List Node)(h1:t.length<=1000000)(hfit: ∀x∈t,x.fit):zaf Tryz.prog 67 [nods t] (.r (.b (rightT t))):=by
 refine zac (T:=Tab) mixed Tab_ok Tryz.func67 rfl (by kernel_rfl) ?_
 have no: ¬RightT t->RV.b false=RV.b (rightT t):=λh=>by rw[z7w h]
 refine ze (z6a t h1) ?_
 refine zh (λh=>zq ?_) (λh=>zt ?_)
 ·simp only[zb]at h
  exact zf (no λr=>r.n h)
 simp only[zb]at h
 obtain⟨hl,hf,hpos⟩:=zuj h
 have hb:=zc4 hf
 obtain⟨n,hn⟩: ∃n,n=ze3 t:=⟨_,rfl⟩
 rw[<-hn]at hl hf hb h⊢
 refine zy (λj:Nat=>{F:=[(0, .r (nods t)),(3, .r (I n)),(4, .r (.b (zmk t n j))),(5, .r (I j))],O:=[],nx:=0}) (λj=>j<=t.length/\∀i,i<j->okT t i) (λj=>t.length-j) 0 ⟨by omega,by omega⟩ (zad [] rfl ⟨cr,cr,cr,cr,trivial⟩ trivial) ?_
 rintro j ⟨hj,hok⟩
 refine zh (λh2=>zq ?_) (λh2=>zt ?_)
 ·simp only[zb]at h2
  have hj':j<t.length:=by omega
  have hmod:(j:Int).tmod 2=((j%2:Nat):Int):=by rw[Int.tmod_eq_emod_of_nonneg (by omega)];omega
  have bad: ¬okT t j->RV.b false=RV.b (rightT t):=λhh=>no λr=>hh (r.ok j hj')
  have g16:=z8x (nT t j) (hfit _ (zfl hj'))
  refine zm (by omega) (by omega) (zgk rfl hj') (zg rfl ?_)
  refine zm (by omega) (by omega) (zgk rfl hj') ?_
  refine za rfl rfl ?_
  refine Vcall.bool g16 (λhr=>zw rfl ?_) (λhr=>zu rfl (zq ?_))
  rotate_left
  ·exact zf (bad λk=>by rw[k.1]at hr;cases hr)
  refine⟨by decide,_,rfl,?_⟩
  have next:okT t j->∀i,i<j+1->okT t i:=λhk i hi=>by
   rcases Nat.lt_or_ge i j with h3 |h3
   ·exact hok i h3
   ·have:i=j:=by omega
    subst this;exact hk
  refine zh (λh3=>?_) (λh3=>?_)
  ·simp only[zb]at h3
   rw[hmod]at h3
   refine zh (λh4=>zq ?_) (λh4=>?_)
   ·simp only[zb]at h4
    exact zf (bad λk=>k.2.1 ⟨by omega,by omega⟩)
   simp only[zb]at h4
   refine⟨by decide,_,rfl,?_⟩
   refine zw (by simp only[zb];rw[hmod];omega) (zt ?_)
   have hk:okT t j:=⟨hr,by omega,by omega⟩
   cases hs:zmk t n j with
   |true=>
    refine zd (m:=((j+1:Nat):Int)) (by omega) (by omega) ?_
    exact⟨j+1,⟨hj',next hk⟩,by omega,zad [] rfl ⟨cr,cr,zf (congrArg RV.b (by rw[zev,hs];simp[])),cr,trivial⟩ trivial⟩
   |false=>
    refine zh (λk1=>?_) (λk1=>?_)
    ·simp only[zb]at k1
     have k1':(nT t j).kind.toNat=1:=by omega
     refine zh (λk2=>?_) (λk2=>?_)
     ·simp only[zb]at k2
      refine zd (m:=((j+1:Nat):Int)) (by omega) (by omega) ?_
      exact⟨j+1,⟨hj',next hk⟩,by omega,zad [] rfl ⟨cr,cr,zf (congrArg RV.b (by rw[zev,hs];simp[k1',k2])),cr,trivial⟩ trivial⟩
     ·simp only[zb]at k2
      refine zh (λk3=>?_) (λk3=>?_)
      ·simp only[zb]at k3
       have k3':n<=(j:Int):=by omega
       refine zd (m:=((j+1:Nat):Int)) (by omega) (by omega) ?_
       exact⟨j+1,⟨hj',next hk⟩,by omega,zad [] rfl ⟨cr,cr,zf (congrArg RV.b (by rw[zev,hs];simp[k1',k3'])),cr,trivial⟩ trivial⟩
      ·simp only[zb]at k3
       have k3': ¬n<=(j:Int):=by omega
       refine zd (m:=((j+1:Nat):Int)) (by omega) (by omega) ?_
       exact⟨j+1,⟨hj',next hk⟩,by omega,zad [] rfl ⟨cr,cr,zf (congrArg RV.b (by rw[zev,hs];simp[k2,k3'])),cr,trivial⟩ trivial⟩
    ·simp only[zb]at k1
     have k1': ¬(nT t j).kind.toNat=1:=by omega
     refine zd (m:=((j+1:Nat):Int)) (by omega) (by omega) ?_
     exact⟨j+1,⟨hj',next hk⟩,by omega,zad [] rfl ⟨cr,cr,zf (congrArg RV.b (by rw[zev,hs];simp[k1'])),cr,trivial⟩ trivial⟩
  ·simp only[zb]at h3
   rw[hmod]at h3
   refine⟨by decide,_,rfl,?_⟩
   refine zu (by simp only[zb];rw[hmod];omega) ?_
   refine zh (λh4=>zq ?_) (λh4=>zt ?_)
   ·simp only[zb]at h4
    exact zf (bad λk=>k.2.2 ⟨by omega,by omega⟩)
   simp only[zb]at h4
   have hk:okT t j:=⟨hr,by omega,by omega⟩
   cases hs:zmk t n j with
   |true=>
    refine zd (m:=((j+1:Nat):Int)) (by omega) (by omega) ?_
    exact⟨j+1,⟨hj',next hk⟩,by omega,zad [] rfl ⟨cr,cr,zf (congrArg RV.b (by rw[zev,hs];simp[])),cr,trivial⟩ trivial⟩
   |false=>
    refine zh (λk1=>?_) (λk1=>?_)
    ·simp only[zb]at k1
     have k1':(nT t j).kind.toNat=1:=by omega
     refine zh (λk2=>?_) (λk2=>?_)
     ·simp only[zb]at k2
      refine zd (m:=((j+1:Nat):Int)) (by omega) (by omega) ?_
      exact⟨j+1,⟨hj',next hk⟩,by omega,zad [] rfl ⟨cr,cr,zf (congrArg RV.b (by rw[zev,hs];simp[k1',k2])),cr,trivial⟩ trivial⟩
     ·simp only[zb]at k2
      refine zh (λk3=>?_) (λk3=>?_)
      ·simp only[zb]at k3
       have k3':n<=(j:Int):=by omega
       refine zd (m:=((j+1:Nat):Int)) (by omega) (by omega) ?_
       exact⟨j+1,⟨hj',next hk⟩,by omega,zad [] rfl ⟨cr,cr,zf (congrArg RV.b (by rw[zev,hs];simp[k1',k3'])),cr,trivial⟩ trivial⟩
      ·simp only[zb]at k3
       have k3': ¬n<=(j:Int):=by omega
       refine zd (m:=((j+1:Nat):Int)) (by omega) (by omega) ?_
       exact⟨j+1,⟨hj',next hk⟩,by omega,zad [] rfl ⟨cr,cr,zf (congrArg RV.b (by rw[zev,hs];simp[k2,k3'])),cr,trivial⟩ trivial⟩
    ·simp only[zb]at k1
     have k1': ¬(nT t j).kind.toNat=1:=by omega
     refine zd (m:=((j+1:Nat):Int)) (by omega) (by omega) ?_
     exact⟨j+1,⟨hj',next hk⟩,by omega,zad [] rfl ⟨cr,cr,zf (congrArg RV.b (by rw[zev,hs];simp[k1'])),cr,trivial⟩ trivial⟩
 simp only[zb]at h2
 have hjl:j=t.length:=by omega
 subst hjl
 cases hs:zmk t n t.length with
 |false=>
  refine zu rfl (zq ?_)
  exact zf (no λr=>by have:=r.some;rw[<-hn,hs]at this;cases this)
 |true=>
 refine zw rfl (zt ?_)
 have hR:(∀j,j<t.length->∀u∈(nT t j).par.late,zre t n j u)↔RightT t:=⟨λhh=>⟨by rw[<-hn];exact h,hok,by rw[<-hn];exact hs,by rw[<-hn];exact hh⟩,λr=>by rw[hn];exact r.late⟩
 refine zy (λj:Nat=>{F:=[(0, .r (nods t)),(3, .r (I n)),(7, .r (I j))],O:=[],nx:=0}) (λj=>j<=t.length/\∀i,i<j->∀u∈(nT t i).par.late,zre t n i u) (λj=>t.length-j) 0 ⟨by omega,by omega⟩ (zad [] rfl ⟨cr,cr,cr,trivial⟩ trivial) ?_
 rintro j ⟨hj,hlt⟩
 refine zh (λh2=>zq ?_) (λh2=>zt ?_)
 rotate_left
 ·simp only[zb]at h2
  refine zf (congrArg RV.b (Eq.symm (zvb.2 (hR.1 λi hi=>hlt i (by omega)))))
 simp only[zb]at h2
 have hj':j<t.length:=by omega
 obtain⟨L,hL⟩: ∃L,L=(nT t j).par.late:=⟨_,rfl⟩
 have hfl:=(hfit _ (zfl hj')).2
 have hLl:L.length<=100000000:=hL▸hfl.2.2.1
 have hLd: ∀u∈L,za6 u:=hL▸Node.right_late (hok j hj').1
 have badj: ∀u∈L,¬zre t n j u->RV.b false=RV.b (rightT t):=λu hu hh=>no λr=>hh (hR.2 r j hj' u (hL▸hu))
 refine zm (by omega) (by omega) (zgk rfl hj') (zg rfl ?_)
 refine zy (λi:Nat=>{F:=[(0, .r (nods t)),(3, .r (I n)),(7, .r (I j)),(8, .r (is L)),(9, .r (I i))],O:=[],nx:=0}) (λi=>i<=L.length/\∀u∈L.take i,zre t n j u) (λi=>L.length-i) 0 ⟨by omega,by simp⟩ (zad [] rfl ⟨cr,cr,cr,zf (by rw[hL]),cr,trivial⟩ trivial) ?_
 rintro i ⟨hi,hli⟩
 refine zh (λh3=>zq ?_) (λh3=>zt ?_)
 rotate_left
 ·simp only[zb]at h3
  rw[List.take_of_length_le (by omega)]at hli
  refine zd (m:=((j+1:Nat):Int)) (by omega) (by omega) ?_
  refine⟨j+1,⟨hj',λk hk=>?_⟩,by omega,zad [] rfl ⟨cr,cr,cr,trivial⟩ trivial⟩
  rcases Nat.lt_or_ge k j with h4 |h4
  ·exact hlt k h4
  ·have:k=j:=by omega
   subst this
   rw[<-hL];exact hli
 simp only[zb]at h3
 have hi':i<L.length:=by omega
 obtain⟨u,hu⟩: ∃u,u=L[i]:=⟨_,rfl⟩
 have hum:u∈L:=hu▸List.getElem_mem hi'
 have hud:=hLd u hum
 unfold za6 at hud
 have bad:=badj u hum
 refine zm (by omega) (by omega) (zai rfl hi') (zg rfl ?_)
 rw[<-hu]
 refine zh (λh4=>zq ?_) (λh4=>?_)
 ·simp only[zb]at h4
  exact zf (bad λk=>by have:=k.1;omega)
 simp only[zb]at h4
 refine zm (by omega) (by omega) (zai rfl hi') (zg rfl ?_)
 rw[<-hu]
 refine zd rfl (by omega) ?_
 refine zm (by omega) (by omega) (zgk (j:=(2*u).toNat) (by omega) (by omega)) (zg rfl ?_)
 refine zh (λh5=>zq ?_) (λh5=>?_)
 ·simp only[zb]at h5
  exact zf (bad λk=>by have:=k.2.1;omega)
 simp only[zb]at h5
 refine zm (by omega) (by omega) (zai rfl hi') (zg rfl ?_)
 rw[<-hu]
 refine zd rfl (by omega) ?_
 refine Vcall.bool (zj5 _ _) (λh6=>zw rfl (zt ?_)) (λh6=>zu rfl (zq ?_))
 rotate_left
 ·exact zf (bad λk=>by have:=k.2.2.1;rw[h6]at this;cases this)
 refine zy (λy:Nat=>{F:=[(0, .r (nods t)),(3, .r (I n)),(7, .r (I j)),(8, .r (is L)),(9, .r (I i)),(10, .r (I y))],O:=[],nx:=0}) (λy=>y<=t.length/\∀z,z<y->zy5 t j u z) (λy=>t.length-y) 0 ⟨by omega,by omega⟩ (zad [] rfl ⟨cr,cr,cr,cr,cr,cr,trivial⟩ trivial) ?_
 rintro y ⟨hy,hov⟩
 refine zh (λh7=>zq ?_) (λh7=>zt ?_)
 rotate_left
 ·simp only[zb]at h7
  refine zd (m:=((i+1:Nat):Int)) (by omega) (by omega) ?_
  exact⟨i+1,⟨hi',zdq (p:=λu=>zre t n j u) hi' hli (hu▸⟨by omega,by omega,h6,λz hz=>hov z (by omega)⟩)⟩,by omega,zad [] rfl ⟨cr,cr,cr,cr,cr,trivial⟩ trivial⟩
 simp only[zb]at h7
 have hy':y<t.length:=by omega
 have step:zy5 t j u y->∀z,z<y+1->zy5 t j u z:=λhh z hz=>by
  rcases Nat.lt_or_ge z y with h8 |h8
  ·exact hov z h8
  ·have:z=y:=by omega
   subst this;exact hh
 have hyl:=(hfit _ (zfl hy')).2.2.2.1
 refine Vdraw.mk' (by kernel_rfl) ?_
 refine zm (by omega) (by omega) (zgk rfl hy') (zg rfl ?_)
 refine zh (λk1=>?_) (λk1=>zt ?_)
 rotate_left
 ·simp only[zb]at k1
  refine zd (m:=((y+1:Nat):Int)) (by omega) (by omega) ?_
  exact⟨y+1,⟨hy',step (λk=>absurd k.1 (by omega))⟩,by omega,zad [] rfl ⟨cr,cr,cr,cr,cr,cr,trivial⟩ trivial⟩
 simp only[zb]at k1
 refine zm (by omega) (by omega) (zai rfl hi') (zg rfl ?_)
 rw[<-hu]
 refine zd rfl (by omega) ?_
 refine Vcall.bool (zj5 _ _) (λk2=>?_) (λk2=>zt ?_)
 rotate_left
 ·refine zd (m:=((y+1:Nat):Int)) (by omega) (by omega) ?_
  exact⟨y+1,⟨hy',step (λk=>absurd k.2.1 (by rw[k2];decide))⟩,by omega,zad [] rfl ⟨cr,cr,cr,cr,cr,cr,trivial⟩ trivial⟩
 refine Vcall.bool (zj5 _ _) (λk3=>?_) (λk3=>zt ?_)
 rotate_left
 ·refine zd (m:=((y+1:Nat):Int)) (by omega) (by omega) ?_
  exact⟨y+1,⟨hy',step (λk=>absurd k.2.2.1 (by rw[k3];decide))⟩,by omega,zad [] rfl ⟨cr,cr,cr,cr,cr,cr,trivial⟩ trivial⟩
 refine zm (by omega) (by omega) (zgk rfl hy') (zg rfl ?_)
 refine zm (by omega) (by omega) (zai rfl hi') (zg rfl ?_)
 rw[<-hu]
 refine Vcall.bool (z3l _ _ (by omega)) (λk4=>zw rfl (zt ?_)) (λk4=>zu rfl (zq ?_))
 ·simp only[zb]at k4
  refine zd (m:=((y+1:Nat):Int)) (by omega) (by omega) ?_
  exact⟨y+1,⟨hy',step (λk=>absurd k4 k.2.2.2)⟩,by omega,zad [] rfl ⟨cr,cr,cr,cr,cr,cr,trivial⟩ trivial⟩
 ·simp only[zb]at k4
  exact zf (bad λk=>k.2.2.2 y hy' ⟨by omega,k2,k3,k4⟩)
theorem z5j(t:List Node)(i:Int)(h1:t.length<=1000000)(hfit: ∀x∈t,x.fit):zaf Tryz.prog 30 [nods t,I i] (.r (I (if rightT t=false then 12 else if i∈zhv t then 0 else 7))):=by
 refine zac (T:=Tab) mixed Tab_ok Tryz.func30 rfl (by kernel_rfl) ?_
 refine Vcall.bool (z7m t h1 hfit) (λhr=>zw rfl (zt ?_)) (λhr=>zu rfl (zq ?_))
 rotate_left
 ·exact zf (by simp[hr,ofC])
 refine Vcall.bool (zfeb t i h1) (λhi=>zw rfl (zt ?_)) (λhi=>zu rfl (zq ?_))
 ·simp only[zb]at hi
  exact zf (by simp[hr,hi,ofC])
 ·simp only[zb]at hi
  exact zf (by simp[hr,hi,ofC])
end
section
def zbb(t:List Node)(j:Nat):List Spot:=(List.range j).map λi:Nat=>⟨(i:Int),nT t i⟩
theorem zum(t:List Node)(j:Nat):zbb t (j+1)=zbb t j++[⟨(j:Int),nT t j⟩]:=by
 unfold zbb
 rw[List.range_succ,List.map_append]
 rfl
theorem zwv(t:List Node)(j:Nat):(zbb t j).length=j:=by simp[zbb]
theorem ziv(t:List Node): ∀(j:Nat) (z:Int),zae (zbb t j) z=if 0<=z/\z< (j:Int)then some (nT t z.toNat)else none
 |0,z=>by
  have: ¬(0<=z/\z< ((0:Nat):Int)):=by omega
  rw[if_neg this]
  rfl
 |j+1,z=>by
  have ih:=ziv t j z
  rw[zum]
  simp only[zae,List.find?_append]at ih⊢
  by_cases h:0<=z/\z< (j:Int)
  ·rw[if_pos h]at ih
   rw[if_pos (by omega)]
   cases h2:(zbb t j).find? (λs=>decide (s.at_=z))with
   |none=>rw[h2]at ih;cases ih
   |some s=>rw[h2]at ih;simpa using ih
  ·rw[if_neg h]at ih
   simp only[Option.map_eq_none_iff]at ih
   rw[ih]
   by_cases h3:z=(j:Int)
   ·subst h3
    rw[if_pos (by omega)]
    simp
   ·rw[if_neg (by omega)]
    have: ¬((j:Int)=z):=by omega
    simp[this]
theorem zc2b(t:List Node)(h1:t.length<=1000000):zaf Tryz.prog 70 [nods t] (.r (spots (zbb t t.length))):=by
 refine zac (T:=Tab) mixed Tab_ok Tryz.func70 rfl (by kernel_rfl) ?_
 refine zy (λj:Nat=>{F:=[(0, .r (nods t)),(3, .own 0),(4, .r (I j))],O:=[(0,some (zda (zbb t j)))],nx:=1}) (λj=>j<=t.length) (λj=>t.length-j) 0 (by omega)
  ((zew 3 77 11 rfl).trans (zad [(0,0)] rfl ⟨cr,rfl,cr,trivial⟩ ⟨⟨rfl,rfl,rfl,rfl,zn _⟩,trivial⟩)) ?_
 intro j hj
 have hsl:=zwv t j
 have hsn:=zum t j
 refine zh (λh=>zq ?_) (λh=>zt ?_)
 ·simp only[zb]at h
  have hj':j<t.length:=by omega
  refine zm (by omega) (by omega) (zgk rfl hj') ?_
  refine za rfl rfl ?_
  refine zx ?_
  refine Vapp.mk' (j:=(zbb t (j+1)).length) (zs:=(zbb t (j+1)).flatMap Spot.c) (by simp only[maxLen];omega) (by simp;omega) (by rw[hsn,List.length_append];rfl) (by rw[hsn,List.flatMap_append];exact congrArg (List.flatMap Spot.c (zbb t j)++ ·) (by simp[zb8,cellsOf])) ?_
  refine zd (m:=((j+1:Nat):Int)) (by omega) (by omega) ?_
  exact⟨j+1,hj',by omega,zad [(0,_)] rfl ⟨cr,rfl,cr,trivial⟩ ⟨⟨rfl,rfl,rfl,rfl,zn _⟩,trivial⟩⟩
 ·simp only[zb]at h
  have:j=t.length:=by omega
  subst this
  exact cr
def insD(x:Int):List Int->List Int
 |[]=>[x]
 |y::l=>if y<x then y::insD x l else x::y::l
theorem z29{x:Int}: ∀{l:List Int} {k:Nat},k<=l.length->(∀y∈l.take k,y<x)->(∀h:k<l.length,x<=l[k])->l.take k++[x]++l.drop k=insD x l
 |[],k,hk,_,_=>by
  have:k=0:=by simpa using hk
  subst this;rfl
 |y::l,0,_,_,h2=>by
  have h3:=h2 (by simp)
  simp only[List.getElem_cons_zero]at h3
  simp only[List.take_zero,List.nil_append,List.drop_zero,insD]
  rw[if_neg (by omega)]
  rfl
 |y::l,k+1,hk,h1,h2=>by
  have h3:=h1 y (by simp)
  simp only[insD]
  rw[if_pos h3,<-z29 (k:=k) (by simpa using hk) (λz hz=>h1 z (by simp[hz])) (λh=>h2 (by simpa using h))]
  rfl
theorem z0s{x:Int}: ∀{l:List Int},(insD x l).length=l.length+1
 |[]=>rfl
 |y::l=>by
  unfold insD
  split
  ·rw[List.length_cons,z0s];rfl
  ·rfl
theorem zix{x z:Int}: ∀{l:List Int},z∈insD x l↔z=x\/z∈l
 |[]=>by simp[insD]
 |y::l=>by
  unfold insD
  split
  ·simp only[List.mem_cons,zix]
   exact⟨λh=>by rcases h with h |h |h<;>simp[h],λh=>by rcases h with h |h |h<;>simp[h]⟩
  ·simp
theorem z4l{x:Int}: ∀{l:List Int},l.Pairwise (· < ·)->x∉l->(insD x l).Pairwise (· < ·)
 |[],_,_=>by simp[insD]
 |y::l,h,hx=>by
  rw[List.pairwise_cons]at h
  simp only[List.mem_cons,not_or]at hx
  unfold insD
  split
  ·rename_i hlt
   rw[List.pairwise_cons]
   refine⟨λz hz=>?_,z4l h.2 hx.2⟩
   rcases zix.1 hz with rfl |hz
   ·exact hlt
   ·exact h.1 z hz
  ·rename_i hlt
   rw[List.pairwise_cons,List.pairwise_cons]
   refine⟨λz hz=>?_,h⟩
   rcases List.mem_cons.1 hz with rfl |hz
   ·omega
   ·have:=h.1 z hz;omega
def zb5(l:List Int):List Int:=l.foldl (λa x=>insD x a) []
theorem z4s{l:List Int}{j:Nat}(hj:j<l.length):zb5 (l.take (j+1))=insD l[j] (zb5 (l.take j)):=by
 unfold zb5
 exact zfx (f:=λa x=>insD x a) hj
theorem zh3: ∀{l a:List Int},(l.foldl (λa x=>insD x a) a).length=a.length+l.length
 |[],a=>rfl
 |x::l,a=>by rw[List.foldl_cons,zh3,z0s,List.length_cons];omega
theorem zzz: ∀{l a:List Int},l.Nodup->a.Pairwise (· < ·)->(∀x∈l,x∉a)->(l.foldl (λa x=>insD x a) a).Pairwise (· < ·)/\∀z,z∈l.foldl (λa x=>insD x a) a↔z∈a\/z∈l
 |[],a,_,h,_=>⟨h,by simp⟩
 |x::l,a,hn,h,hd=>by
  rw[List.nodup_cons]at hn
  rw[List.foldl_cons]
  obtain⟨r1,r2⟩:=zzz (l:=l) (a:=insD x a) hn.2 (z4l h (hd x (by simp))) λy hy hm=>by
   rcases zix.1 hm with rfl |hm
   ·exact hn.1 hy
   ·exact hd y (by simp[hy]) hm
  refine⟨r1,λz=>?_⟩
  rw[r2 z,zix]
  simp only[List.mem_cons]
  exact⟨λh=>by rcases h with(h |h) |h<;>simp[h],λh=>by rcases h with h |h |h<;>simp[h]⟩
theorem zkn{l:List Int}(hn:l.Nodup):zb5 l=rise l:=by
 obtain⟨r1,r2⟩:=zzz (a:=[]) hn (by simp) (by simp)
 exact zeb r1 (zf7 l) λz=>by
  rw[zfc]
  have:=r2 z
  simp only[List.not_mem_nil,false_or]at this
  exact this
theorem zuk(l:List Int)(hl:l.length<=10000000000000):zaf Tryz.prog 114 [is l] (.r (is (zb5 l))):=by
 refine zac (T:=Tab) mixed Tab_ok Tryz.func114 rfl (by kernel_rfl) ?_
 refine zy (λi:Nat=>{F:=[(0, .r (is l)),(3, .r (is (zb5 (l.take i)))),(4, .r (I i))],O:=[],nx:=0}) (λi=>i<=l.length) (λi=>l.length-i) 0 (by omega)
  (zad [] rfl ⟨cr,Cv.nil 1,cr,trivial⟩ trivial) ?_
 intro i hi
 refine zh (λh=>zq ?_) (λh=>zt ?_)
 rotate_left
 ·simp only[zb]at h
  rw[List.take_of_length_le (by omega)]
  exact cr
 simp only[zb]at h
 have hi':i<l.length:=by omega
 have hst:=z4s hi'
 obtain⟨R,hR⟩: ∃R,R=zb5 (l.take i):=⟨_,rfl⟩
 have hRl:R.length=i:=by rw[hR];unfold zb5;rw[zh3,List.length_take];simp;omega
 rw[<-hR]at hst⊢
 refine zy (λk:Nat=>{F:=[(0, .r (is l)),(3, .r (is R)),(4, .r (I i)),(5, .own 0),(6, .r (I k))],O:=[(0,some (.ch 3 1 (R.take k).length ((R.take k).map I) true))],nx:=1}) (λk=>k<=R.length/\∀y∈R.take k,y<l[i]) (λk=>R.length-k) 0 ⟨by omega,by simp⟩
  ((zew 5 3 1 rfl).trans (zad [(0,0)] rfl ⟨cr,cr,cr,rfl,cr,trivial⟩ ⟨⟨rfl,rfl,rfl,rfl,zn _⟩,trivial⟩)) ?_
 rintro k ⟨hk,hlt⟩
 have hend:(∀h:k<R.length,l[i]<=R[k])->R.take k++[l[i]]++R.drop k=zb5 (l.take (i+1)):=λhh=>by rw[hst];exact z29 hk hlt hh
 have htl:(R.take k).length=k:=by rw[List.length_take];omega
 refine Vdraw.mk' (by kernel_rfl) ?_
 refine zh (λh2=>?_) (λh2=>zt ?_)
 ·simp only[zb]at h2
  have hk':k<R.length:=by omega
  refine zm (by omega) (by omega) (zai rfl hk') (zg rfl ?_)
  refine zm (by omega) (by omega) (zai rfl hi') (zg rfl ?_)
  refine zh (λh3=>zq ?_) (λh3=>zt ?_)
  ·simp only[zb]at h3
   refine zm (by omega) (by omega) (zai rfl hk') (zg rfl ?_)
   refine zx ?_
   have e:=zj6 hk'
   refine Vapp.mk' (j:=(R.take (k+1)).length) (zs:=(R.take (k+1)).map I) (by simp[maxLen];omega) (by simp;omega) (by rw[e,List.length_append];rfl) (by rw[e,List.map_append];rfl) ?_
   refine zd (m:=((k+1:Nat):Int)) (by omega) (by omega) ?_
   exact⟨k+1,⟨hk',zdq (p:=λy=>y<l[i]) hk' hlt (by omega)⟩,by omega,zad [(0,_)] rfl ⟨cr,cr,cr,rfl,cr,trivial⟩ ⟨zbg rfl,trivial⟩⟩
  ·simp only[zb]at h3
   have he:=hend λhh=>by omega
   refine zm (by omega) (by omega) (zai rfl hi') (zg rfl ?_)
   refine zx ?_
   refine Vapp.mk' (j:=(R.take k++[l[i]]).length) (zs:=(R.take k++[l[i]]).map I) (by simp[maxLen];omega) (by simp;omega) (by simp) (by simp[zb8,cellsOf]) ?_
   refine⟨by omega,by omega,by omega,(R.drop k).length,(R.drop k).map I,?_,?_,?_⟩
   ·rw[List.length_drop];omega
   ·rw[Int.toNat_natCast,<-List.map_drop,List.take_of_length_le (by simp),Nat.mul_one]
   refine Vapp.mk' (j:=(zb5 (l.take (i+1))).length) (zs:=(zb5 (l.take (i+1))).map I) (by simp[maxLen];omega) (by simp;omega) (by rw[<-he];simp;omega) (by rw[<-he];simp) ?_
   refine zd (m:=((i+1:Nat):Int)) (by omega) (by omega) ?_
   exact⟨i+1,hi',by omega,zad [] rfl ⟨cr,cr,cr,trivial⟩ trivial⟩
 ·simp only[zb]at h2
  have he:=hend λhh=>by omega
  refine zm (by omega) (by omega) (zai rfl hi') (zg rfl ?_)
  refine zx ?_
  refine Vapp.mk' (j:=(R.take k++[l[i]]).length) (zs:=(R.take k++[l[i]]).map I) (by simp[maxLen];omega) (by simp;omega) (by simp) (by simp[zb8,cellsOf]) ?_
  refine⟨by omega,by omega,by omega,(R.drop k).length,(R.drop k).map I,?_,?_,?_⟩
  ·rw[List.length_drop];omega
  ·rw[Int.toNat_natCast,<-List.map_drop,List.take_of_length_le (by simp),Nat.mul_one]
  refine Vapp.mk' (j:=(zb5 (l.take (i+1))).length) (zs:=(zb5 (l.take (i+1))).map I) (by simp[maxLen];omega) (by simp;omega) (by rw[<-he];simp;omega) (by rw[<-he];simp) ?_
  refine zd (m:=((i+1:Nat):Int)) (by omega) (by omega) ?_
  exact⟨i+1,hi',by omega,zad [] rfl ⟨cr,cr,cr,trivial⟩ trivial⟩
end
section
theorem z3s(x:Int):zaf Tryz.prog 126 [is [],I x] (.r (.b false)):=by
 refine zac (T:=Tab) mixed Tab_ok Tryz.func126 rfl (by kernel_rfl) ?_
 refine zy (λj:Nat=>{F:=[(0, .r (is [])),(1, .r (I x)),(5, .r (I j))],O:=[],nx:=0}) (λj=>j<=0) (λj=>0-j) 0 (by omega) (zad [] rfl ⟨cr,cr,cr,trivial⟩ trivial) ?_
 intro j hj
 refine zw (by simp only[zb,List.length_nil];omega) (zt ?_)
 exact cr
theorem zpe(l m:List UInt8)(hl:l.length<=100000000000)(hm:m.length<=100000000000):zaf Tryz.prog 127 [bs l,bs m] (.r (bs (l++m))):=by
 refine zac (T:=Tab) mixed Tab_ok Tryz.func127 rfl (by kernel_rfl) ?_
 refine zx ?_
 refine Vapp.mk' (j:=l.length) (zs:=l.map U8) (by simp[maxLen];omega) (by simp;omega) (by simp) (by simp) ?_
 refine Vapp.mk' (j:=(l++m).length) (zs:=(l++m).map U8) (by simp[maxLen];omega) (by simp;omega) (by simp) (by simp) ?_
 exact cr
def zbc(t:List Node):Nat->Nat->List UInt8
 |0,k=>shaB ([1]++beB 4 k++zaq (nT t (nd 0 k)))
 |h+1,k=>shaB ([2]++zaq (nT t (nd (h+1) k))++(vecB (zbc t h (2*k))++vecB (zbc t h (2*k+1))))
theorem zet(t:List Node): ∀h k,(zbc t h k).length=32
 |0,k=>zff _
 |h+1,k=>zff _
theorem zpc(t:List Node)(hfit: ∀x∈t,x.fit)(hr: ∀x∈t,x.right=true)(k:Nat)(hk:k<65536)(hx:nd 0 k<t.length):zaf Tryz.prog 81 [nods t,I (nd 0 k),is []] (.r (bs ([1]++beB 4 k++zaq (nT t (nd 0 k))))):=by
 refine zac (T:=Tab) mixed Tab_ok Tryz.func81 rfl (by kernel_rfl) ?_
 have hm:=zfl hx
 have hle:=zds _ (hfit _ hm)
 have hq:(k:Int)=IntKind.i64.wrap ((nd 0 k:Int).tdiv 2):=by
  rw[zd1,Int.tdiv_eq_ediv_of_nonneg (by omega),show(((2*k:Nat):Int))/2=k by omega]
  exact wrap_i64 (by omega)
 refine zm (by omega) (by omega) (zgk rfl hx) ?_
 refine za rfl rfl ?_
 refine⟨by decide,_,rfl,?_⟩
 refine zu (by rw[zck];rfl) (zq ?_)
 refine⟨by decide,(k:Int),hq,?_⟩
 refine ze (z3s _) ?_
 refine zt ?_
 refine Vdraw.mk' (by kernel_rfl) ?_
 refine zx ?_
 refine⟨by decide,(k:Int),hq,?_⟩
 refine⟨((k:Nat):Int),by have:=zge (k:Int) (by omega);rw[this];simp,?_⟩
 refine ze (zk0 4 k (by omega) (by omega)) ?_
 refine ze (zpe [1] (beB 4 k) (by simp) (by simp[zaw])) ?_
 refine za rfl rfl ?_
 refine ze (zh4 _ (hfit _ hm) (λ_=>Node.right_late (hr _ hm))) ?_
 refine ze (zpe ([1]++beB 4 k) (zaq (nT t (nd 0 k))) (by simp[zaw]) (by omega)) ?_
 exact cr
theorem zrw(t:List Node)(hfit: ∀x∈t,x.fit)(hr: ∀x∈t,x.right=true)(h:Nat)(hh:h+1<=16)
  (ih: ∀k,k<2^(16-h)->inR h k (nd h k)->((k+1)*2^(h+1)<=t.length+1)->zaf Tryz.prog 71 [nods t,I (nd h k),is []] (.r (bs (zbc t h k))))
  (k:Nat) (hk:k<2^(16-(h+1))) (hx:(k+1)*2^(h+1+1)<=t.length+1):zaf Tryz.prog 81 [nods t,I (nd (h+1) k),is []] (.r (bs ([2]++zaq (nT t (nd (h+1) k))++(vecB (zbc t h (2*k))++vecB (zbc t h (2*k+1)))))):=by
 refine zac (T:=Tab) mixed Tab_ok Tryz.func81 rfl (by kernel_rfl) ?_
 have hleft:=zdk (d:=16) (by omega) (show h+1<=16 by omega) hk
 have hright:=zc7 (d:=16) (by omega) (show h+1<=16 by omega) hk
 have hk2:2^(16-h)=2*2^(16-(h+1)):=by rw[show 16-h=(16-(h+1))+1 by omega,Nat.pow_succ];omega
 have hin:=za9 (h+1) k
 have e2:(k+1)*2^(h+1+1)=k*2^(h+1+1)+2^(h+1+1):=by rw[Nat.add_mul,Nat.one_mul]
 have e3:2^(h+1+1)=2*2^(h+1):=by rw[Nat.pow_succ 2 (h+1)];omega
 have e4:=zwo k h
 have e5:=z1f k h
 have e6:(2*k+1)*2^(h+1)=2*k*2^(h+1)+2^(h+1):=by rw[Nat.add_mul,Nat.one_mul]
 have e7:(2*k+1+1)*2^(h+1)=(2*k+1)*2^(h+1)+2^(h+1):=by rw[Nat.add_mul,Nat.one_mul]
 have hlt:nd (h+1) k<t.length:=by unfold inR at hin;omega
 have hm:=zfl hlt
 obtain⟨n,hn⟩: ∃n,n=nT t (nd (h+1) k):=⟨_,rfl⟩
 have hnf:n.fit:=hn▸hfit _ hm
 have hnr:n.right=true:=hn▸hr _ hm
 have hle:=zds n hnf
 have hll:=hnf.2.2.2.1
 have l1:=zet t h (2*k)
 have l2:=zet t h (2*k+1)
 have v1:=zat (zbc t h (2*k))
 have v2:=zat (zbc t h (2*k+1))
 refine zm (by omega) (by omega) (zgk rfl hlt) ?_
 rw[<-hn]
 refine za rfl rfl ?_
 refine⟨by decide,_,rfl,?_⟩
 refine zw (by rw[zc5];rfl) (zt ?_)
 refine zy (λj:Nat=>{F:=[(0, .r (nods t)),(1, .r (I (nd (h+1) k))),(2, .r (is [])),(7, .own 0),(8, .own 1),(9, .r (I j))],O:=[(0,some (.box (n.c.map .r))),(1,some (.ch 3 1 (n.par.late.take j).length ((n.par.late.take j).map I) true))],nx:=2})
  (λj=>j<=n.par.late.length) (λj=>n.par.late.length-j) 0 (by omega)
  ((zew 8 3 1 rfl).trans (zad [(0,0),(1,1)] rfl ⟨cr,cr,cr,rfl,rfl,cr,trivial⟩ ⟨zab n.c,⟨rfl,rfl,rfl,rfl,zn _⟩,trivial⟩)) ?_
 intro j hj
 refine zh (λh1=>zq ?_) (λh1=>zt ?_)
 ·simp only[zb]at h1
  have hj':j<n.par.late.length:=by omega
  have e:=zj6 hj'
  have htl:(n.par.late.take j).length=j:=by rw[List.length_take];omega
  refine zm (by omega) (by omega) (zai rfl hj') (zg rfl ?_)
  refine ze (z3s _) ?_
  refine zu rfl (zq ?_)
  refine zm (by omega) (by omega) (zai rfl hj') (zg rfl ?_)
  refine zx ?_
  refine Vapp.mk' (j:=(n.par.late.take (j+1)).length) (zs:=(n.par.late.take (j+1)).map I) (by simp[maxLen];omega) (by simp;omega) (by rw[e,List.length_append];rfl) (by rw[e,List.map_append];rfl) ?_
  refine zd (m:=((j+1:Nat):Int)) (by omega) (by omega) ?_
  exact⟨j+1,hj',by omega,zad [(0,0),(1,_)] rfl ⟨cr,cr,cr,rfl,rfl,cr,trivial⟩ ⟨zab n.c,zbg rfl,trivial⟩⟩
 simp only[zb]at h1
 rw[List.take_of_length_le (by omega)]
 refine ze (zgq _) ?_
 rw[hleft,hright]
 refine zx ?_
 refine za rfl rfl ?_
 refine Vcall.mk' (zh4 n hnf (λ_=>Node.right_late hnr)) (zn _) ?_
 refine ze (zpe [2] (zaq n) (by simp) (by omega)) ?_
 refine ze (ih (2*k) (by omega) (za9 _ _) (by omega)) ?_
 refine ze (zec _ (by omega)) ?_
 refine ze (ih (2*k+1) (by omega) (za9 _ _) (by omega)) ?_
 refine ze (zec _ (by omega)) ?_
 refine ze (zpe _ _ (by omega) (by omega)) ?_
 refine ze (zpe ([2]++zaq n) _ (by simp;omega) (by simp;omega)) ?_
 exact cr
theorem zzl(t:List Node)(hfit: ∀x∈t,x.fit)(hr: ∀x∈t,x.right=true): ∀(h k:Nat),h<=16->k<2^(16-h)->(k+1)*2^(h+1)<=t.length+1->zaf Tryz.prog 71 [nods t,I (nd h k),is []] (.r (bs (zbc t h k))):=by
 have key: ∀(x:Int) (b:List UInt8),b.length<=100000000000->zaf Tryz.prog 81 [nods t,I x,is []] (.r (bs b))->zaf Tryz.prog 71 [nods t,I x,is []] (.r (bs (shaB b))):=λx b hb hg=>by
  refine zac (T:=Tab) mixed Tab_ok Tryz.func71 rfl (by kernel_rfl) ?_
  refine ze hg ?_
  refine ze (zok b hb) ?_
  exact cr
 intro h
 induction h with
 |zero=>
  intro k _ hk hx
  have hin:=za9 0 k
  have hlt:nd 0 k<t.length:=by unfold inR at hin;rw[Nat.add_mul]at hx;omega
  have:=zds _ (hfit _ (zfl hlt))
  exact key _ _ (by simp[zaw];omega) (zpc t hfit hr k (by simpa using hk) hlt)
 |succ h ih=>
  intro k hh hk hx
  have hin:=za9 (h+1) k
  have hlt:nd (h+1) k<t.length:=by unfold inR at hin;rw[Nat.add_mul]at hx;omega
  have:=zds _ (hfit _ (zfl hlt))
  have l1:=zet t h (2*k)
  have l2:=zet t h (2*k+1)
  have v1:=zat (zbc t h (2*k))
  have v2:=zat (zbc t h (2*k+1))
  exact key _ _ (by simp;omega) (zrw t hfit hr h hh (λk hk _ hx=>ih k (by omega) hk hx) k hk hx)
end
section
def zb3(O:List Spot)(n own:Int):List Int:=2*own::za4 (2*own) n++(zau (2*own) n).flatMap λc=>(zbl O n c).1
def zq1(O:List Spot)(n own:Int):Bool:=(2*own::za4 (2*own) n).all (found O)&&(zau (2*own) n).all λc=>(zbl O n c).2
def zdg(O:List Spot)(n own:Int):List Int:=(zb3 O n own).foldl (zgt (zb3 O n own)) []
theorem z0g{α:Type}{p:α->Bool}{l:List α}{j:Nat}(hj:j<l.length):(l.take (j+1)).all p=((l.take j).all p&&p l[j]):=by
 rw[zj6 hj,List.all_append];simp
theorem zmw{O:List Spot}{n own:Int}(hf:za0 n=true)(h0:0<=own)(h1:own<n): ∀x∈zb3 O n own,za1 x=true:=λx hx=>by
 rcases List.mem_append.1 hx with h |h
 ·exact z70 (s:=⟨n,own,[],[]⟩) hf h0 h1 x h
 ·obtain⟨c,hc,hx⟩:=List.mem_flatMap.1 h
  exact z16 O n c (zjr hf h0 h1 c hc) x hx
theorem z7g{O:List Spot}(hOl:zh8 O){n own:Int}(hf:za0 n=true)(h0:0<=own)(h1:own<n):(zb3 O n own).length<=3300000000000:=by
 have hpl:=zd2 (2*own) n
 have hcl:=zee (2*own) n
 have:=zte (f:=λc=>(zbl O n c).1) (b:=190000000000) (zau (2*own) n) λc hc=>zt8 _ hOl _ _ (zjr hf h0 h1 c hc)
 simp only[zb3,List.length_append,List.length_cons]
 omega
set_option maxHeartbeats 1000000 in
theorem ze2b(O:List Spot)(n own:Int)(hO:O.length<=1000000)(hOl:zh8 O)(hf:za0 n=true)(h0:0<=own)(h1:own<n):
  zaf Tryz.prog 69 [spots O,I n,I own, .b false] (.r (.tu [is (zb5 (zb3 O n own)),is (zb5 (zdg O n own)), .b (zq1 O n own)])):=by
 refine zac (T:=Tab) mixed Tab_ok Tryz.func69 rfl (by kernel_rfl) ?_
 have hn:=zc4 hf
 have hpl:=zd2 (2*own) n
 have hcl:=zee (2*own) n
 have hcn:=zjr hf h0 h1
 have hLn:=zmw (O:=O) hf h0 h1
 have hLl:=z7g hOl hf h0 h1
 obtain⟨P,hP⟩: ∃P,P=2*own::za4 (2*own) n:=⟨_,rfl⟩
 obtain⟨C,hC⟩: ∃C,C=zau (2*own) n:=⟨_,rfl⟩
 have hPl:P.length<=18:=by rw[hP,List.length_cons];omega
 have hB:zq1 O n own=(P.all (found O)&&C.all λc=>(zbl O n c).2):=by rw[hP,hC];rfl
 have hOL:zb3 O n own=P++C.flatMap λc=>(zbl O n c).1:=by rw[hP,hC];rfl
 refine zd rfl (by omega) ?_
 refine zx ?_
 refine zd rfl (by omega) ?_
 refine ze (zsy _ _) ?_
 refine Vapp.mk' (j:=P.length) (zs:=P.map I) (by simp[maxLen];omega) (by simp;omega) (by rw[hP];simp;omega) (by rw[hP];rfl) ?_
 refine zd rfl (by omega) ?_
 refine ze (zvd _ _) ?_
 rw[<-hC]at hcl hcn⊢
 have hCl:C.length<=17:=by omega
 refine zy (λi:Nat×Bool=>{F:=[(0, .r (spots O)),(1, .r (I n)),(2, .r (I own)),(3, .r (.b false)),(11, .own 0),(12, .r (is C)),(13, .r (.b i.2)),(14, .r (I i.1))],O:=[(0,some (.ch 3 1 P.length (P.map I) true))],nx:=1})
  (λi=>i.1<=P.length/\i.2=(P.take i.1).all (found O)) (λi=>P.length-i.1) (0,true) ⟨by simp,rfl⟩
  (zad [(0,_)] rfl ⟨cr,cr,cr,cr,rfl,cr,cr,cr,trivial⟩ ⟨zbg rfl,trivial⟩) ?_
 rintro⟨j,β⟩ ⟨hj,hβ⟩
 simp only at hj hβ
 refine zh (λh2=>zq ?_) (λh2=>zt ?_)
 ·simp only[zb]at h2
  have hj':j<P.length:=by omega
  have hsn:=z0g (p:=found O) hj'
  rw[<-hβ]at hsn
  refine zm (by omega) (by omega) (zai rfl hj') (zg rfl ?_)
  have gf:=ze5 O P[j] (by omega)
  cases hfd:zae O P[j]with
  |none=>
   rw[hfd]at gf
   refine ze gf ?_
   have hfo:found O P[j]=false:=by simp[found,hfd]
   rw[hfo]at hsn
   cases β with
   |true=>
    refine zd (m:=((j+1:Nat):Int)) (by omega) (by omega) ?_
    exact⟨(j+1,false),⟨hj',by rw[hsn];rfl⟩,by simp only;omega,zad [(0,_)] rfl ⟨cr,cr,cr,cr,rfl,cr,cr,cr,trivial⟩ ⟨zbg rfl,trivial⟩⟩
   |false=>
    refine zd (m:=((j+1:Nat):Int)) (by omega) (by omega) ?_
    exact⟨(j+1,false),⟨hj',by rw[hsn];rfl⟩,by simp only;omega,zad [(0,_)] rfl ⟨cr,cr,cr,cr,rfl,cr,cr,cr,trivial⟩ ⟨zbg rfl,trivial⟩⟩
  |some y=>
   rw[hfd]at gf
   refine ze gf ?_
   have hfo:found O P[j]=true:=by simp[found,hfd]
   rw[hfo]at hsn
   cases β with
   |true=>
    refine zd (m:=((j+1:Nat):Int)) (by omega) (by omega) ?_
    exact⟨(j+1,true),⟨hj',by rw[hsn];rfl⟩,by simp only;omega,zad [(0,_)] rfl ⟨cr,cr,cr,cr,rfl,cr,cr,cr,trivial⟩ ⟨zbg rfl,trivial⟩⟩
   |false=>
    refine zd (m:=((j+1:Nat):Int)) (by omega) (by omega) ?_
    exact⟨(j+1,false),⟨hj',by rw[hsn];rfl⟩,by simp only;omega,zad [(0,_)] rfl ⟨cr,cr,cr,cr,rfl,cr,cr,cr,trivial⟩ ⟨zbg rfl,trivial⟩⟩
 simp only[zb]at h2
 rw[List.take_of_length_le (by omega)]at hβ
 have hWl: ∀c∈C,(zbl O n c).1.length<=190000000000:=λc hc=>zt8 _ hOl _ _ (hcn c hc)
 refine zy (λi:Nat×Bool=>{F:=[(0, .r (spots O)),(1, .r (I n)),(2, .r (I own)),(3, .r (.b false)),(11, .own 0),(12, .r (is C)),(13, .r (.b i.2)),(17, .r (I i.1))],O:=[(0,some (.ch 3 1 (P++(C.take i.1).flatMap λc=>(zbl O n c).1).length ((P++(C.take i.1).flatMap λc=>(zbl O n c).1).map I) true))],nx:=1})
  (λi=>i.1<=C.length/\i.2=(β&&(C.take i.1).all λc=>(zbl O n c).2)) (λi=>C.length-i.1) (0,β) ⟨by simp,by simp⟩
  (zad [(0,0)] rfl ⟨cr,cr,cr,cr,rfl,cr,cr,cr,trivial⟩ ⟨zbg (by simp),trivial⟩) ?_
 rintro⟨i,γ⟩ ⟨hi,hγ⟩
 simp only at hi hγ
 have hfl4:=zte (f:=λc=>(zbl O n c).1) (b:=190000000000) (C.take i) λc hc=>hWl c (List.mem_of_mem_take hc)
 have htl4:(C.take i).length<=17:=by rw[List.length_take];omega
 refine zh (λh5=>?_) (λh5=>zt ?_)
 ·simp only[zb]at h5
  refine zu rfl (zq ?_)
  have hi':i<C.length:=by omega
  have hw:=hWl _ (List.getElem_mem hi')
  have hsn:=z9m (f:=λc=>(zbl O n c).1) hi'
  have hsa:=z0g (p:=λc=>(zbl O n c).2) hi'
  refine zm (by omega) (by omega) (zai rfl hi') (zg rfl ?_)
  refine ze (z98 O hO hOl n _ (hcn _ (List.getElem_mem hi'))) ?_
  obtain⟨W,hW⟩: ∃W,W=P++(C.take (i+1)).flatMap λc=>(zbl O n c).1:=⟨_,rfl⟩
  have hWe:W=(P++(C.take i).flatMap λc=>(zbl O n c).1)++(zbl O n C[i]).1:=by rw[hW,hsn,List.append_assoc]
  refine Vapp.mk' (j:=W.length) (zs:=W.map I) (by simp only[maxLen,List.length_append];omega) (by simp only[List.length_append];omega) (by rw[hWe];simp only[List.length_append]) (by rw[hWe];simp only[List.map_append]) ?_
  cases hb:(zbl O n C[i]).2 with
  |false=>
   simp only[hb]at hsa
   cases γ with
   |true=>
    refine zd (m:=((i+1:Nat):Int)) (by omega) (by omega) ?_
    exact⟨(i+1,false),⟨hi',by rw[hsa];simp⟩,by simp only;omega,zad [(0,_)] rfl ⟨cr,cr,cr,cr,rfl,cr,zf (by first |rfl |simp),cr,trivial⟩ ⟨zbg hW,trivial⟩⟩
   |false=>
    refine zd (m:=((i+1:Nat):Int)) (by omega) (by omega) ?_
    exact⟨(i+1,false),⟨hi',by rw[hsa];simp⟩,by simp only;omega,zad [(0,_)] rfl ⟨cr,cr,cr,cr,rfl,cr,zf (by first |rfl |simp),cr,trivial⟩ ⟨zbg hW,trivial⟩⟩
  |true=>
   simp only[hb,Bool.and_true]at hsa
   rw[<-hsa]at hγ
   cases γ with
   |true=>
    refine zd (m:=((i+1:Nat):Int)) (by omega) (by omega) ?_
    exact⟨(i+1,true),⟨hi',hγ⟩,by simp only;omega,zad [(0,_)] rfl ⟨cr,cr,cr,cr,rfl,cr,zf (by first |rfl |simp),cr,trivial⟩ ⟨zbg hW,trivial⟩⟩
   |false=>
    refine zd (m:=((i+1:Nat):Int)) (by omega) (by omega) ?_
    exact⟨(i+1,false),⟨hi',hγ⟩,by simp only;omega,zad [(0,_)] rfl ⟨cr,cr,cr,cr,rfl,cr,zf (by first |rfl |simp),cr,trivial⟩ ⟨zbg hW,trivial⟩⟩
 simp only[zb]at h5
 rw[List.take_of_length_le (by omega)]at hγ
 rw[List.take_of_length_le (by omega)]
 rw[hβ,<-hB]at hγ
 rw[<-hOL]
 have hSe:zdg O n own=(zb3 O n own).foldl (zgt (zb3 O n own)) []:=rfl
 obtain⟨L,hL⟩: ∃L,L=zb3 O n own:=⟨_,rfl⟩
 rw[<-hL]at hLn hLl hSe⊢
 obtain⟨SH,hSH⟩: ∃SH,SH=zdg O n own:=⟨_,rfl⟩
 rw[<-hSH]at hSe⊢
 refine zy (λi:Nat×List Int=>{F:=[(0, .r (spots O)),(1, .r (I n)),(2, .r (I own)),(3, .r (.b false)),(11, .r (is L)),(13, .r (.b γ)),(20, .own 0),(21, .r (I i.1))],O:=[(0,some (.ch 3 1 i.2.length (i.2.map I) true))],nx:=1})
  (λi=>i.1<=L.length/\(L.take i.1).foldl (zgt L) []=i.2) (λi=>L.length-i.1) (0,[]) ⟨by simp,rfl⟩
  ((zew 20 3 1 rfl).trans (zad [(0,1)] rfl ⟨cr,cr,cr,cr,cr,cr,rfl,cr,trivial⟩ ⟨⟨rfl,rfl,rfl,rfl,zn _⟩,trivial⟩)) ?_
 rintro⟨i5,acc⟩ ⟨hi5,hacc⟩
 simp only at hi5 hacc
 have hinv:=zbgb (all:=L) (L.take i5) [] (by simp)
 rw[hacc]at hinv
 have htl:(L.take i5).length<=L.length:=by rw[List.length_take];omega
 have hal:acc.length<=6600000000000:=by have:=hinv.2;simp at this;omega
 refine zh (λh6=>zq ?_) (λh6=>zt ?_)
 ·simp only[zb]at h6
  have hi':i5<L.length:=by omega
  have hsn:=zfx (f:=zgt L) (b:=[]) hi'
  rw[hacc]at hsn
  obtain⟨x,hx⟩: ∃x,x=L[i5]:=⟨_,rfl⟩
  rw[<-hx]at hsn
  refine zm (by omega) (by omega) (zai rfl hi') (zg rfl ?_)
  rw[<-hx]
  refine ze (zgq x) ?_
  obtain⟨a,ha⟩: ∃a,a=zbj x:=⟨_,rfl⟩
  obtain⟨b,hb⟩: ∃b,b=zbi x:=⟨_,rfl⟩
  have hsn2:(L.take (i5+1)).foldl (zgt L) []=addK L (addK L acc a) b:=by rw[hsn,ha,hb];rfl
  rw[<-ha,<-hb]
  refine zh (λh7=>?_) (λh7=>zt ?_)
  ·simp only[zb]at h7
   refine Vcall.bool (zk2 L a (by omega)) (λh8=>zw rfl (zt ?_)) (λh8=>zu rfl (zq ?_))
   ·simp only[zb]at h8
    have e1:addK L acc a=acc:=by unfold addK;rw[if_neg (λh=>h.2 h8)]
    rw[e1]at hsn2
    refine zh (λh9=>?_) (λh9=>zt ?_)
    ·simp only[zb]at h9
     refine Vcall.bool (zk2 L b (by omega)) (λh10=>zw rfl (zt ?_)) (λh10=>zu rfl (zq ?_))
     ·simp only[zb]at h10
      have e2:addK L (acc) b=acc:=by unfold addK;rw[if_neg (λh=>h.2 h10)]
      rw[e2]at hsn2
      refine zd (m:=((i5+1:Nat):Int)) (by omega) (by omega) ?_
      exact⟨(i5+1,acc),⟨hi',hsn2⟩,by simp only;omega,zad [(0,_)] rfl ⟨cr,cr,cr,cr,cr,cr,rfl,cr,trivial⟩ ⟨zbg rfl,trivial⟩⟩
     ·simp only[zb]at h10
      have e2:addK L (acc) b=acc++[b]:=by unfold addK;rw[if_pos ⟨by omega,h10⟩]
      rw[e2]at hsn2
      refine zx ?_
      refine Vapp.mk' (j:=(acc++[b]).length) (zs:=(acc++[b]).map I) (by simp only[maxLen,List.length_append,List.length_cons,List.length_nil];omega) (by simp;omega) (by simp) (by simp[zb8,cellsOf]) ?_
      refine zd (m:=((i5+1:Nat):Int)) (by omega) (by omega) ?_
      exact⟨(i5+1,acc++[b]),⟨hi',hsn2⟩,by simp only;omega,zad [(0,_)] rfl ⟨cr,cr,cr,cr,cr,cr,rfl,cr,trivial⟩ ⟨zbg rfl,trivial⟩⟩
    ·simp only[zb]at h9
     have e2:addK L (acc) b=acc:=by unfold addK;rw[if_neg (λh=>by omega)]
     rw[e2]at hsn2
     refine zd (m:=((i5+1:Nat):Int)) (by omega) (by omega) ?_
     exact⟨(i5+1,acc),⟨hi',hsn2⟩,by simp only;omega,zad [(0,_)] rfl ⟨cr,cr,cr,cr,cr,cr,rfl,cr,trivial⟩ ⟨zbg rfl,trivial⟩⟩
   ·simp only[zb]at h8
    have e1:addK L acc a=acc++[a]:=by unfold addK;rw[if_pos ⟨by omega,h8⟩]
    rw[e1]at hsn2
    refine zx ?_
    refine Vapp.mk' (j:=(acc++[a]).length) (zs:=(acc++[a]).map I) (by simp only[maxLen,List.length_append,List.length_cons,List.length_nil];omega) (by simp;omega) (by simp) (by simp[zb8,cellsOf]) ?_
    refine zh (λh9=>?_) (λh9=>zt ?_)
    ·simp only[zb]at h9
     refine Vcall.bool (zk2 L b (by omega)) (λh10=>zw rfl (zt ?_)) (λh10=>zu rfl (zq ?_))
     ·simp only[zb]at h10
      have e2:addK L (acc++[a]) b=acc++[a]:=by unfold addK;rw[if_neg (λh=>h.2 h10)]
      rw[e2]at hsn2
      refine zd (m:=((i5+1:Nat):Int)) (by omega) (by omega) ?_
      exact⟨(i5+1,acc++[a]),⟨hi',hsn2⟩,by simp only;omega,zad [(0,_)] rfl ⟨cr,cr,cr,cr,cr,cr,rfl,cr,trivial⟩ ⟨zbg rfl,trivial⟩⟩
     ·simp only[zb]at h10
      have e2:addK L (acc++[a]) b=acc++[a]++[b]:=by unfold addK;rw[if_pos ⟨by omega,h10⟩]
      rw[e2]at hsn2
      refine zx ?_
      refine Vapp.mk' (j:=(acc++[a]++[b]).length) (zs:=(acc++[a]++[b]).map I) (by simp only[maxLen,List.length_append,List.length_cons,List.length_nil];omega) (by simp;omega) (by simp) (by simp[zb8,cellsOf]) ?_
      refine zd (m:=((i5+1:Nat):Int)) (by omega) (by omega) ?_
      exact⟨(i5+1,acc++[a]++[b]),⟨hi',hsn2⟩,by simp only;omega,zad [(0,_)] rfl ⟨cr,cr,cr,cr,cr,cr,rfl,cr,trivial⟩ ⟨zbg rfl,trivial⟩⟩
    ·simp only[zb]at h9
     have e2:addK L (acc++[a]) b=acc++[a]:=by unfold addK;rw[if_neg (λh=>by omega)]
     rw[e2]at hsn2
     refine zd (m:=((i5+1:Nat):Int)) (by omega) (by omega) ?_
     exact⟨(i5+1,acc++[a]),⟨hi',hsn2⟩,by simp only;omega,zad [(0,_)] rfl ⟨cr,cr,cr,cr,cr,cr,rfl,cr,trivial⟩ ⟨zbg rfl,trivial⟩⟩
  ·simp only[zb]at h7
   have e1:addK L acc a=acc:=by unfold addK;rw[if_neg (λh=>by omega)]
   rw[e1]at hsn2
   refine zh (λh9=>?_) (λh9=>zt ?_)
   ·simp only[zb]at h9
    refine Vcall.bool (zk2 L b (by omega)) (λh10=>zw rfl (zt ?_)) (λh10=>zu rfl (zq ?_))
    ·simp only[zb]at h10
     have e2:addK L (acc) b=acc:=by unfold addK;rw[if_neg (λh=>h.2 h10)]
     rw[e2]at hsn2
     refine zd (m:=((i5+1:Nat):Int)) (by omega) (by omega) ?_
     exact⟨(i5+1,acc),⟨hi',hsn2⟩,by simp only;omega,zad [(0,_)] rfl ⟨cr,cr,cr,cr,cr,cr,rfl,cr,trivial⟩ ⟨zbg rfl,trivial⟩⟩
    ·simp only[zb]at h10
     have e2:addK L (acc) b=acc++[b]:=by unfold addK;rw[if_pos ⟨by omega,h10⟩]
     rw[e2]at hsn2
     refine zx ?_
     refine Vapp.mk' (j:=(acc++[b]).length) (zs:=(acc++[b]).map I) (by simp only[maxLen,List.length_append,List.length_cons,List.length_nil];omega) (by simp;omega) (by simp) (by simp[zb8,cellsOf]) ?_
     refine zd (m:=((i5+1:Nat):Int)) (by omega) (by omega) ?_
     exact⟨(i5+1,acc++[b]),⟨hi',hsn2⟩,by simp only;omega,zad [(0,_)] rfl ⟨cr,cr,cr,cr,cr,cr,rfl,cr,trivial⟩ ⟨zbg rfl,trivial⟩⟩
   ·simp only[zb]at h9
    have e2:addK L (acc) b=acc:=by unfold addK;rw[if_neg (λh=>by omega)]
    rw[e2]at hsn2
    refine zd (m:=((i5+1:Nat):Int)) (by omega) (by omega) ?_
    exact⟨(i5+1,acc),⟨hi',hsn2⟩,by simp only;omega,zad [(0,_)] rfl ⟨cr,cr,cr,cr,cr,cr,rfl,cr,trivial⟩ ⟨zbg rfl,trivial⟩⟩
 simp only[zb]at h6
 rw[List.take_of_length_le (by omega)]at hacc
 have hse:acc=SH:=by rw[hSe,<-hacc]
 subst hse
 refine ze (zuk L (by omega)) ?_
 refine ze (zuk acc (by omega)) ?_
 rw[<-hγ]
 exact⟨_,rfl,cr⟩
end
end Go.Proofs.YtpdllgbfemnemaaGreat.Sx
