import Derived.Test.YtoegdgbghdnnfaaGreatZHp
import Derived.Test.YtoegdgbghdnnfaaGreatZTi
import Derived.Test.YtoegdgbghdnnfaaGreatZGf
import Derived.Test.YtoegdgbghdnnfaaGreatZSxNm
import Derived.Test.YtoegdgbghdnnfaaGreatZKq
import Derived.Test.YtoegdgbghdnnfaaGreatZHh
import Derived.Test.YtoegdgbghdnnfaaGreatZQc
import Derived.Test.YtoegdgbghdnnfaaGreatZSxPt
namespace Go.Proofs.YtoegdgbghdnnfaaGreat.Sx
open Go.RowKit
theorem z09(x:Int):bG 92 [is [],I x] (.r (.b false)):=by
 refine bT Tryz.func92 rfl ?_
 refine Vloop.mk' (λj:Nat=>{F:=[(0, .r (is [])),(1, .r (I x)),(5, .r (I j))],O:=[],nx:=0}) (λj=>j<=0) (λj=>0-j) 0 (by omega) (zac [] rfl ⟨cr,cr,cr,trivial⟩ trivial) ?_
 intro j hj
 refine zw (by simp only[zb,List.length_nil];omega) (zt ?_)
 exact cr
theorem znj(l m:List UInt8)(hl:l.length<=100000000000)(hm:m.length<=100000000000):bG 93 [bs l,bs m] (.r (bs (l++m))):=by
 refine bT Tryz.func93 rfl ?_
 refine zy ?_
 refine Vapp.mk' (j:=l.length) (zs:=l.map U8) (by simp[maxLen];omega) (by simp;omega) (by simp) (by simp) ?_
 refine Vapp.mk' (j:=(l++m).length) (zs:=(l++m).map U8) (by simp[maxLen];omega) (by simp;omega) (by simp) (by simp) ?_
 exact cr
def zas(t:List Node):Nat->Nat->List UInt8
 |0,k=>shaB ([1]++beB 4 k++zak (nT t (nd 0 k)))
 |h+1,k=>shaB ([2]++zak (nT t (nd (h+1) k))++(vecB (zas t h (2*k))++vecB (zas t h (2*k+1))))
theorem zcr(t:List Node): ∀h k,(zas t h k).length=32
 |0,k=>zf1 _
 |h+1,k=>zf1 _
theorem zwc(t:List Node)(hfit: ∀x∈t,x.fit)(hr: ∀x∈t,x.right=true)(k:Nat)(hk:k<65536)(hx:nd 0 k<t.length):bG 55 [nods t,I (nd 0 k),is []] (.r (bs ([1]++beB 4 k++zak (nT t (nd 0 k))))):=by
 refine bT Tryz.func55 rfl ?_
 have hm:=zci hx
 have hle:=zfh _ (hfit _ hm)
 have hq:(k:Int)=IntKind.i64.wrap ((nd 0 k:Int).tdiv 2):=by
  rw[zde,Int.tdiv_eq_ediv_of_nonneg (by omega),show(((2*k:Nat):Int))/2=k by omega]
  exact wrap_i64 (by omega)
 refine zm (by omega) (by omega) (zbs rfl hx) ?_
 refine za rfl rfl ?_
 refine⟨by decide,_,rfl,?_⟩
 refine zu (by rw[zcn];rfl) (zq ?_)
 refine⟨by decide,(k:Int),hq,?_⟩
 refine ze (z09 _) ?_
 refine zt ?_
 refine bV ?_
 refine zy ?_
 refine⟨by decide,(k:Int),hq,?_⟩
 refine⟨((k:Nat):Int),by have:=zgt (k:Int) (by omega);rw[this];simp,?_⟩
 refine ze (zk3 4 k (by omega) (by omega)) ?_
 refine ze (znj [1] (beB 4 k) (by simp) (by simp[zao])) ?_
 refine za rfl rfl ?_
 refine ze (zii _ (hfit _ hm) (λ_=>Node.right_late (hr _ hm))) ?_
 refine ze (znj ([1]++beB 4 k) (zak (nT t (nd 0 k))) (by simp[zao]) (by omega)) ?_
 exact cr
theorem z0a(t:List Node)(hfit: ∀x∈t,x.fit)(hr: ∀x∈t,x.right=true)(h:Nat)(hh:h+1<=16)
  (ih: ∀k,k<2^(16-h)->inR h k (nd h k)->((k+1)*2^(h+1)<=t.length+1)->bG 25 [nods t,I (nd h k),is []] (.r (bs (zas t h k))))
  (k:Nat) (hk:k<2^(16-(h+1))) (hx:(k+1)*2^(h+1+1)<=t.length+1):bG 55 [nods t,I (nd (h+1) k),is []] (.r (bs ([2]++zak (nT t (nd (h+1) k))++(vecB (zas t h (2*k))++vecB (zas t h (2*k+1)))))):=by
 refine bT Tryz.func55 rfl ?_
 have hleft:=zd4 (d:=16) (by omega) (show h+1<=16 by omega) hk
 have hright:=zdn (d:=16) (by omega) (show h+1<=16 by omega) hk
 have hk2:2^(16-h)=2*2^(16-(h+1)):=by rw[show 16-h=(16-(h+1))+1 by omega,Nat.pow_succ];omega
 have hin:=zbn (h+1) k
 have e2:(k+1)*2^(h+1+1)=k*2^(h+1+1)+2^(h+1+1):=by rw[Nat.add_mul,Nat.one_mul]
 have e3:2^(h+1+1)=2*2^(h+1):=by rw[Nat.pow_succ 2 (h+1)];omega
 have e4:=zpa k h
 have e5:=zq0 k h
 have e6:(2*k+1)*2^(h+1)=2*k*2^(h+1)+2^(h+1):=by rw[Nat.add_mul,Nat.one_mul]
 have e7:(2*k+1+1)*2^(h+1)=(2*k+1)*2^(h+1)+2^(h+1):=by rw[Nat.add_mul,Nat.one_mul]
 have hlt:nd (h+1) k<t.length:=by unfold inR at hin;omega
 have hm:=zci hlt
 obtain⟨n,hn⟩: ∃n,n=nT t (nd (h+1) k):=⟨_,rfl⟩
 have hnf:n.fit:=hn▸hfit _ hm
 have hnr:n.right=true:=hn▸hr _ hm
 have hle:=zfh n hnf
 have hll:=hnf.2.2.2.1
 have l1:=zcr t h (2*k)
 have l2:=zcr t h (2*k+1)
 have v1:=zal (zas t h (2*k))
 have v2:=zal (zas t h (2*k+1))
 refine zm (by omega) (by omega) (zbs rfl hlt) ?_
 rw[<-hn]
 refine za rfl rfl ?_
 refine⟨by decide,_,rfl,?_⟩
 refine zw (by rw[zc4];rfl) (zt ?_)
 refine Vloop.mk' (λj:Nat=>{F:=[(0, .r (nods t)),(1, .r (I (nd (h+1) k))),(2, .r (is [])),(7, .own 0),(8, .own 1),(9, .r (I j))],O:=[(0,some (.box (n.c.map .r))),(1,some (.ch 3 1 (n.par.late.take j).length ((n.par.late.take j).map I) true))],nx:=2})
  (λj=>j<=n.par.late.length) (λj=>n.par.late.length-j) 0 (by omega)
  ((zb7 8 3 1 rfl).trans (zac [(0,0),(1,1)] rfl ⟨cr,cr,cr,rfl,rfl,cr,trivial⟩ ⟨zae n.c,⟨rfl,rfl,rfl,rfl,zn _⟩,trivial⟩)) ?_
 intro j hj
 refine zh (λh1=>zq ?_) (λh1=>zt ?_)
 ·simp only[zb]at h1
  have hj':j<n.par.late.length:=by omega
  have e:=zir hj'
  have htl:(n.par.late.take j).length=j:=by rw[List.length_take];omega
  refine zm (by omega) (by omega) (zaj rfl hj') (zg rfl ?_)
  refine ze (z09 _) ?_
  refine zu rfl (zq ?_)
  refine zm (by omega) (by omega) (zaj rfl hj') (zg rfl ?_)
  refine zy ?_
  refine Vapp.mk' (j:=(n.par.late.take (j+1)).length) (zs:=(n.par.late.take (j+1)).map I) (by simp[maxLen];omega) (by simp;omega) (by rw[e,bL];rfl) (by rw[e,List.map_append];rfl) ?_
  refine zd (m:=((j+1:Nat):Int)) (by omega) (by omega) ?_
  exact⟨j+1,hj',by omega,zac [(0,0),(1,_)] rfl ⟨cr,cr,cr,rfl,rfl,cr,trivial⟩ ⟨zae n.c,zau rfl,trivial⟩⟩
 simp only[zb]at h1
 rw[List.take_of_length_le (by omega)]
 refine ze (ze4 _) ?_
 rw[hleft,hright]
 refine zy ?_
 refine za rfl rfl ?_
 refine Vcall.mk' (zii n hnf (λ_=>Node.right_late hnr)) (zn _) ?_
 refine ze (znj [2] (zak n) (by simp) (by omega)) ?_
 refine ze (ih (2*k) (by omega) (zbn _ _) (by omega)) ?_
 refine ze (zdm _ (by omega)) ?_
 refine ze (ih (2*k+1) (by omega) (zbn _ _) (by omega)) ?_
 refine ze (zdm _ (by omega)) ?_
 refine ze (znj _ _ (by omega) (by omega)) ?_
 refine ze (znj ([2]++zak n) _ (by simp;omega) (by simp;omega)) ?_
 exact cr
theorem zxi(t:List Node)(hfit: ∀x∈t,x.fit)(hr: ∀x∈t,x.right=true): ∀(h k:Nat),h<=16->k<2^(16-h)->(k+1)*2^(h+1)<=t.length+1->bG 25 [nods t,I (nd h k),is []] (.r (bs (zas t h k))):=by
 have key: ∀(x:Int) (b:List UInt8),b.length<=100000000000->bG 55 [nods t,I x,is []] (.r (bs b))->bG 25 [nods t,I x,is []] (.r (bs (shaB b))):=λx b hb hg=>by
  refine bT Tryz.func25 rfl ?_
  refine ze hg ?_
  refine ze (z9t b hb) ?_
  exact cr
 intro h
 induction h with
 |zero=>
  intro k _ hk hx
  have hin:=zbn 0 k
  have hlt:nd 0 k<t.length:=by unfold inR at hin;rw[Nat.add_mul]at hx;omega
  have:=zfh _ (hfit _ (zci hlt))
  exact key _ _ (by simp[zao];omega) (zwc t hfit hr k (by simpa using hk) hlt)
 |succ h ih=>
  intro k hh hk hx
  have hin:=zbn (h+1) k
  have hlt:nd (h+1) k<t.length:=by unfold inR at hin;rw[Nat.add_mul]at hx;omega
  have:=zfh _ (hfit _ (zci hlt))
  have l1:=zcr t h (2*k)
  have l2:=zcr t h (2*k+1)
  have v1:=zal (zas t h (2*k))
  have v2:=zal (zas t h (2*k+1))
  exact key _ _ (by simp;omega) (z0a t hfit hr h hh (λk hk _ hx=>ih k (by omega) hk hx) k hk hx)
theorem z99(t:List Node)(hfit: ∀x∈t,x.fit)(hr: ∀x∈t,x.right=true)(d:Nat)(hd:d<=16)(hl:t.length+1=2^(d+1)):bG 8 [nods t] (.r (bs (zas t d 0))):=by
 refine bT Tryz.func8 rfl ?_
 have hp:=zc2 hd
 have h0:=zag d
 have e2:2^(d+1)=2*2^d:=by rw[Nat.pow_succ];omega
 have hroot:=zhu d
 refine zd (m:=((t.length-1:Nat):Int)) (by omega) (by omega) ?_
 refine⟨by decide,(nd d 0:Int),?_,?_⟩
 ·rw[Int.tdiv_eq_ediv_of_nonneg (by omega),show(((t.length-1:Nat):Int))/2=(nd d 0:Int)by omega]
  exact wrap_i64 (by omega)
 refine Vcall.mk' (zxi t hfit hr d 0 hd (zag _) (by omega)) (zk (cr) (zk (cr) (zk (Cv.nil 1) Cvs.nil))) ?_
 exact cr
def zi4(t:List Node)(x:Int):List UInt8:=zas t (lv x.toNat) (x.toNat/2^(lv x.toNat+1))
theorem zx3(t:List Node){h k:Nat}(hh:h<=16)(hk:k<2^(16-h)):zi4 t (nd h k)=zas t h k:=by
 obtain⟨e1,e2⟩:=z15 hh hk
 unfold zi4
 rw[e2,e1]
def zbp(t:List Node)(x:Int):Spot:=⟨x,nT t x.toNat⟩
def zb8(t:List Node)(x:Int):Stub:=⟨x,zi4 t x⟩
def cutA(t:List Node)(n own:Int):List Int:=za8 (zb4 (zan t t.length) n own)
def cutB(t:List Node)(n own:Int):List Int:=za8 (zdq (zan t t.length) n own)
def cutS(t:List Node)(n own:Int):Lean_:=⟨n,own,(cutA t n own).map (zbp t),(cutB t n own).map (zb8 t)⟩
theorem zyb{t:List Node}(hr: ∀x∈t,x.right=true)(hl: ∀x∈t,x.par.late.length<=1000):zgx (zan t t.length):=λs hs=>by
 simp only[zan,List.mem_map,List.mem_range]at hs
 obtain⟨i,hi,rfl⟩:=hs
 exact⟨Nat.le_trans (hl _ (zci hi)) (by decide),Node.right_late (hr _ (zci hi))⟩
theorem z2b{a b:Nat}(h:2^a=2^b):a=b:=by
 rcases Nat.lt_trichotomy a b with h1 |h1 |h1
 ·have:=Nat.pow_lt_pow_right (show 1<2 by omega) h1;omega
 ·exact h1
 ·have:=Nat.pow_lt_pow_right (show 1<2 by omega) h1;omega
theorem zdib(t:List Node)(hfit: ∀x∈t,x.fit)(hr: ∀x∈t,x.right=true){d:Nat}(hd:d<=16)(hl:t.length+1=2^(d+1)){x:Int}(hx:ofI x ((2^d:Nat):Int)=true):bG 25 [nods t,I x,is []] (.r (bs (zi4 t x))):=by
 obtain⟨d',h,k,hd',e,hh,hk,rfl⟩:=ze6 hx
 have e':d'=d:=z2b (by exact_mod_cast e.symm)
 subst e'
 have hk16:=lt16 hd hk
 rw[zx3 t (by omega) hk16]
 refine zxi t hfit hr h k (by omega) hk16 ?_
 rw[hl]
 have:=Nat.mul_le_mul_right (2^(h+1)) (show k+1<=2^(d'-h)from hk)
 rwa[<-Nat.pow_add,show d'-h+(h+1)=d'+1 by omega]at this
theorem zfy{l:List Int}{z:Int}:z∈za8 l↔z∈l:=by
 unfold za8
 have: ∀(l a:List Int),z∈l.foldl (λa x=>insD x a) a↔z∈a\/z∈l:=by
  intro l
  induction l with
  |nil=>intro a;simp
  |cons x l ih=>
   intro a
   rw[List.foldl_cons,ih,zhs]
   simp only[List.mem_cons]
   exact⟨λh=>by rcases h with(h |h) |h<;>simp[h],λh=>by rcases h with h |h |h<;>simp[h]⟩
 simpa using this l []
set_option maxHeartbeats 1000000 in
theorem z6a(t:List Node)(pf:Bool)(OL SL:List Int)(ok:Bool)(hfit: ∀x∈t,x.fit)(hr: ∀x∈t,x.right=true){d:Nat}(hd:d<=16)(hl:t.length+1=2^(d+1)){own:Int}
  (hop:bG 64 [zcw (zan t t.length),I ((2^d:Nat):Int),I own, .b pf] (.r (.tu [is (za8 OL),is (za8 SL), .b ok])))
  (hA: ∀x∈OL,ofI x ((2^d:Nat):Int)=true) (hB: ∀x∈SL,ofI x ((2^d:Nat):Int)=true) (hAl:OL.length<=1000000) (hBl:SL.length<=1000000):
  bG 36 [nods t,I own, .b pf] (.r (.ag (Lean_.mk ((2^d:Nat):Int) own ((za8 OL).map (zbp t)) ((za8 SL).map (zb8 t))).c)):=by
 refine bT Tryz.func36 rfl ?_
 have hf:=zce d hd
 have hn:=zdc hf
 have e2:2^(d+1)=2*2^d:=by rw[Nat.pow_succ];omega
 have hp:=zc2 hd
 obtain⟨n,hnn⟩: ∃n:Int,n=((2^d:Nat):Int):=⟨_,rfl⟩
 rw[<-hnn]at hop hf hn hA hB⊢
 refine zd (m:=((t.length+1:Nat):Int)) (by omega) (by omega) ?_
 refine⟨by decide,n,?_,?_⟩
 ·rw[Int.tdiv_eq_ediv_of_nonneg (by omega),show(((t.length+1:Nat):Int))/2=n by omega]
  exact wrap_i64 (by omega)
 refine ze (zdmb t (by omega)) ?_
 refine ze hop ?_
 obtain⟨A,hAe⟩: ∃A,A=za8 OL:=⟨_,rfl⟩
 obtain⟨B,hBe⟩: ∃B,B=za8 SL:=⟨_,rfl⟩
 have hA': ∀x∈A,ofI x n=true:=λx hx=>hA x (zfy.1 (by rw[hAe]at hx;exact hx))
 have hB': ∀x∈B,ofI x n=true:=λx hx=>hB x (zfy.1 (by rw[hBe]at hx;exact hx))
 have hAl':A.length<=1000000:=by rw[hAe];unfold za8;rw[ze7];simpa using hAl
 have hBl':B.length<=1000000:=by rw[hBe];unfold za8;rw[ze7];simpa using hBl
 rw[<-hAe,<-hBe]
 refine Vloop.mk' (λj:Nat=>{F:=[(0, .r (nods t)),(6, .own 0),(8, .r (is A)),(9, .r (is B)),(11, .own 1),(12, .r (I j))],O:=[(0,some (.box (zero4.map .r))),(1,some (.box [.r (I n), .r (I own), .own 2, .own 3])),(2,some (zc3 ((A.take j).map (zbp t)))),(3,some (zda []))],nx:=4})
  (λj=>j<=A.length) (λj=>A.length-j) 0 (by omega)
  ((zb1 true 1 2 132 11 (cells:=[.r (I n), .r (I own), .r (.x (.slice none 0 0)), .r (.x (.slice none 0 0))]) rfl rfl).trans ((zb1 true 1 3 134 2 (cells:=[.r (I n), .r (I own), .own 2, .r (.x (.slice none 0 0))]) rfl rfl).trans (zac [(0,0),(1,1),(2,2),(3,3)] rfl ⟨cr,rfl,cr,cr,rfl,cr,trivial⟩ ⟨zae zero4,cvc (zbk _) (cvc (zbk _) (cvc rfl (cvc rfl rfl))),⟨rfl,rfl,rfl,rfl,zn _⟩,⟨rfl,rfl,rfl,rfl,zn _⟩,trivial⟩))) ?_
 intro j hj
 refine zh (λh=>zq ?_) (λh=>zt ?_)
 ·simp only[zb]at h
  have hj':j<A.length:=by omega
  have htk:(A.take j).length=j:=by rw[List.length_take];omega
  obtain⟨x,hx⟩: ∃x,x=A[j]:=⟨_,rfl⟩
  have hxo:=(ze5.1 (hA' x (hx▸List.getElem_mem hj'))).2
  refine bV ?_
  refine zm (by omega) (by omega) (zaj rfl hj') (zg rfl ?_)
  refine zm (by omega) (by omega) (zaj rfl hj') (zg rfl ?_)
  rw[<-hx]
  refine zm (by omega) (by omega) (zbs (j:=x.toNat) (by omega) (by omega)) ?_
  refine za rfl rfl ?_
  refine zy ?_
  have e:(A.take (j+1)).map (zbp t)=(A.take j).map (zbp t)++[⟨x,nT t x.toNat⟩]:=by rw[zir hj',List.map_append,<-hx];rfl
  refine Vapp.mk' (j:=((A.take (j+1)).map (zbp t)).length) (zs:=((A.take (j+1)).map (zbp t)).flatMap Spot.c) (by simp only[maxLen,List.length_map];omega) (by simp;omega) (by rw[e,bL];rfl) (by rw[e,List.flatMap_append];exact congrArg (List.flatMap Spot.c ((A.take j).map (zbp t))++ ·) (by simp[zbl,cellsOf])) ?_
  refine zd (m:=((j+1:Nat):Int)) (by omega) (by omega) ?_
  exact⟨j+1,hj',by omega,zac [(0,0),(1,1),(2,_),(3,3)] rfl ⟨cr,rfl,cr,cr,rfl,cr,trivial⟩ ⟨zae zero4,cvc (zbk _) (cvc (zbk _) (cvc rfl (cvc rfl rfl))),⟨rfl,rfl,rfl,rfl,zn _⟩,⟨rfl,rfl,rfl,rfl,zn _⟩,trivial⟩⟩
 simp only[zb]at h
 rw[List.take_of_length_le (by omega)]
 clear h hj
 refine Vloop.mk' (λj:Nat=>{F:=[(0, .r (nods t)),(6, .own 0),(9, .r (is B)),(11, .own 1),(13, .r (I j))],O:=[(0,some (.box (zero4.map .r))),(1,some (.box [.r (I n), .r (I own), .own 2, .own 3])),(2,some (zc3 (A.map (zbp t)))),(3,some (zda ((B.take j).map (zb8 t))))],nx:=4})
  (λj=>j<=B.length) (λj=>B.length-j) 0 (by omega) (zac [(0,0),(1,1),(2,2),(3,3)] rfl ⟨cr,rfl,cr,rfl,cr,trivial⟩ ⟨zae zero4,cvc (zbk _) (cvc (zbk _) (cvc rfl (cvc rfl rfl))),⟨rfl,rfl,rfl,rfl,zn _⟩,⟨rfl,rfl,rfl,rfl,zn _⟩,trivial⟩) ?_
 intro j hj
 refine zh (λh=>zq ?_) (λh=>zt ?_)
 ·simp only[zb]at h
  have hj':j<B.length:=by omega
  have htk:(B.take j).length=j:=by rw[List.length_take];omega
  obtain⟨x,hx⟩: ∃x,x=B[j]:=⟨_,rfl⟩
  have hxo:=hB' x (hx▸List.getElem_mem hj')
  refine bV ?_
  refine zm (by omega) (by omega) (zaj rfl hj') (zg rfl ?_)
  refine zm (by omega) (by omega) (zaj rfl hj') (zg rfl ?_)
  rw[<-hx]
  refine Vcall.mk' (zdib t hfit hr hd hl (x:=x) (by rw[<-hnn];exact hxo)) (zk (cr) (zk (cr) (zk (Cv.nil 1) Cvs.nil))) ?_
  refine zy ?_
  have e:(B.take (j+1)).map (zb8 t)=(B.take j).map (zb8 t)++[⟨x,zi4 t x⟩]:=by rw[zir hj',List.map_append,<-hx];rfl
  refine Vapp.mk' (j:=((B.take (j+1)).map (zb8 t)).length) (zs:=((B.take (j+1)).map (zb8 t)).flatMap Stub.c) (by simp only[maxLen,List.length_map];omega) (by simp;omega) (by rw[e,bL];rfl) (by rw[e,List.flatMap_append];exact congrArg (List.flatMap Stub.c ((B.take j).map (zb8 t))++ ·) (by simp[zbl,cellsOf,bs])) ?_
  refine zd (m:=((j+1:Nat):Int)) (by omega) (by omega) ?_
  exact⟨j+1,hj',by omega,zac [(0,0),(1,1),(2,2),(3,_)] rfl ⟨cr,rfl,cr,rfl,cr,trivial⟩ ⟨zae zero4,cvc (zbk _) (cvc (zbk _) (cvc rfl (cvc rfl rfl))),⟨rfl,rfl,rfl,rfl,zn _⟩,⟨rfl,rfl,rfl,rfl,zn _⟩,trivial⟩⟩
 simp only[zb]at h
 rw[List.take_of_length_le (by omega)]
 refine za rfl rfl ?_
 refine za rfl rfl ?_
 exact cr
theorem zizb(t:List Node)(hfit: ∀x∈t,x.fit)(hr: ∀x∈t,x.right=true)(hlt: ∀x∈t,x.par.late.length<=1000){d:Nat}(hd:d<=16)(hl:t.length+1=2^(d+1)){own:Int}(h0:0<=own)(h1:own< ((2^d:Nat):Int))
  (hA: ∀x∈zb4 (zan t t.length) ((2^d:Nat):Int) own,ofI x ((2^d:Nat):Int)=true) (hB: ∀x∈zdq (zan t t.length) ((2^d:Nat):Int) own,ofI x ((2^d:Nat):Int)=true)
  (hAl:(zb4 (zan t t.length) ((2^d:Nat):Int) own).length<=1000000) (hBl:(zdq (zan t t.length) ((2^d:Nat):Int) own).length<=1000000):
  bG 36 [nods t,I own, .b false] (.r (.ag (cutS t ((2^d:Nat):Int) own).c)):=
 z6a t false _ _ _ hfit hr hd hl (zdkb (zan t t.length) _ own (by rw[zoo];have:=zc2 hd;rw[Nat.pow_succ]at hl;omega) (zyb hr hlt) (zce d hd) h0 h1) hA hB hAl hBl
def zpr:Par:=⟨[],[],[]⟩
theorem zf1b:zpr.fit:=⟨by decide,by decide,by decide,λy hy=>by cases hy⟩
def idxA{α:Type}(q:α->Bool):Nat->List α->Int
 |_,[]=> -1
 |j,x::r=>if q x then(j:Int)else idxA q (j+1) r
theorem z1u{α:Type}(q:α->Bool): ∀(l:List α) (j:Nat), -1<=idxA q j l/\idxA q j l< (j+l.length:Nat)/\(0<=idxA q j l↔l.any q=true)
 |[],j=>by simp[idxA];omega
 |x::r,j=>by
  have ih:=z1u q r (j+1)
  rw[idxA,List.any_cons,List.length_cons]
  by_cases hq:q x=true
  ·rw[if_pos hq,hq]
   exact⟨by omega,by omega,by simp⟩
  ·rw[if_neg hq,Bool.eq_false_iff.2 hq,Bool.false_or]
   exact⟨ih.1,by omega,ih.2.2⟩
theorem Cv.fn{P:Program}{α:Type}{f:FuncId}{arg:α->RV}{D:α->Prop}{q:α->Bool}(h: ∀x,D x->zab P f [arg x] (.r (.b (q x)))):Cv (.x (.func (.func f) #[] #[])) (.s (cloS P arg D q)):=λw k v hv=>by
 simp only[RV.at_]at hv⊢
 exact⟨f,[], #[],hv,rfl,h⟩
abbrev nodA(n:Node):RV:= .ag n.c
theorem zz7(l:List Node)(D:Node->Prop)(q:Node->Bool)(hl:l.length<=1000000000)(hD: ∀x∈l,D x):bG 223 [nods l, .s (cloS bP nodA D q)] (.r (I (idxA q 0 l))):=by
 refine bT Tryz.func223 rfl ?_
 refine Vloop.mk' (λj:Nat=>{F:=[(0, .r (nods l)),(1, .r (.s (cloS bP nodA D q))),(7, .r (I l.length)),(8, .r (I j))],O:=[],nx:=0}) (λj=>j<=l.length/\idxA q 0 l=idxA q j (l.drop j)) (λj=>l.length-j) 0 ⟨by omega,by simp⟩ (zac [] rfl ⟨cr,cr,cr,cr,trivial⟩ trivial) ?_
 rintro j ⟨hj,he⟩
 refine zh (λh=>zq ?_) (λh=>zt ?_)
 ·simp only[zb]at h
  have hj':j<l.length:=by omega
  rw[List.drop_eq_getElem_cons hj']at he
  simp only[idxA]at he
  refine zm (by omega) (by omega) (zo6 rfl hj') ?_
  refine za rfl rfl ?_
  refine Vstep.cloB l[j] rfl rfl rfl rfl (cr) (hD _ (List.getElem_mem hj')) (λhq=>zq ?_) (λhq=>zt ?_)
  ·rw[hq]at he
   exact zf (by rw[he];simp)
  ·rw[hq]at he
   refine zd (m:=((j+1:Nat):Int)) (by omega) (by omega) ?_
   exact⟨j+1,⟨hj',by rw[he];simp⟩,by omega,zac [] rfl ⟨cr,cr,cr,cr,trivial⟩ trivial⟩
 ·simp only[zb]at h
  rw[List.drop_eq_nil_of_le (by omega)]at he
  exact zf (by rw[he];rfl)
theorem zts(l:List Node)(D:Node->Prop)(q:Node->Bool)(hl:l.length<=1000000000)(hD: ∀x∈l,D x):bG 169 [nods l, .s (cloS bP nodA D q)] (.r (.b (l.any q))):=by
 refine bT Tryz.func169 rfl ?_
 refine ze (zz7 l D q hl hD) ?_
 exact Vcmp.mk' rfl (zf (congrArg RV.b (by rw[Bool.eq_iff_iff,decide_eq_true_eq];exact(z1u q l 0).2.2)))
def isLf(n:Node):Bool:=decide (n.kind.toNat=1)
theorem zaab(n:Node):bG 170 [nodA n] (.r (.b (isLf n))):=by
 refine bT Tryz.func170 rfl ?_
 refine Vcmp.mk' (m:=isLf n) ?_ (cr)
 unfold isLf
 rw[Bool.eq_iff_iff]
 simp only[zb]
 omega
theorem ztu(l:List Node)(hl:l.length<=1000000000):bG 121 [nods l] (.r (.b (l.any isLf))):=by
 refine bT Tryz.func121 rfl ?_
 refine Vcall.mk' (zts l (λ_=>True) isLf hl λ_ _=>trivial) (zk (cr) (zk (Cv.fn λn _=>zaab n) Cvs.nil)) ?_
 exact cr
section
variable (lf:Leaf) (hlf:lf.fit) (hlr:lf.right=true)
abbrev L1(lf:Leaf):Node:=⟨1,lf,zpr⟩
theorem zg3{lf:Leaf}(h:lf.fit):(L1 lf).fit:=⟨h,zf1b⟩
theorem zqg{lf:Leaf}(h:lf.right=true):(L1 lf).right=true:=by
 show(if(1:UInt8).toNat=0 then _ else if(1:UInt8).toNat=1 then lf.right&&zpr.none else _)=true
 rw[if_neg (by decide),if_pos (by decide),h]
 rfl
theorem i00:(0:Int)<=0:=by decide
theorem i01:(0:Int)< ((1:Nat):Int):=by decide
theorem i2b: -9223372036854775808<=(2:Int)/\(2:Int)<=9223372036854775807:=by decide
theorem n1b:1<=1000000000:=by decide
theorem idx0:(([L1 lf].flatMap Node.c).drop ((0:Int).toNat*10)).take 10=(L1 lf).c:=zo6 (l:=[L1 lf]) (j:=0) rfl (Nat.succ_pos _)
theorem znp:bG 119 [nods [L1 lf]] (.r (I 1)):=by
 refine bT Tryz.func119 rfl ?_
 refine zd (m:=2) rfl i2b ?_
 refine⟨by decide,1,by decide,?_⟩
 refine⟨by decide,1,rfl,?_⟩
 refine zw rfl ?_
 refine Vcall.bool (zni 1) (λ_=>zw rfl (zt ?_)) (λh=>absurd h (by decide))
 exact cr
include hlf hlr in
theorem z69:bG 120 [nods [L1 lf]] (.r (.b true)):=by
 refine bT Tryz.func120 rfl ?_
 have hb:=zfc (L1 lf) (zg3 hlf)
 rw[if_pos (zqg hlr)]at hb
 generalize zak (L1 lf)=q at hb
 refine Vloop.rounds 2 ?_
 refine Vrounds.step mixed Tab_ok ?_
 refine zu rfl (zq ?_)
 refine zm i00 i01 (idx0 lf) ?_
 refine za rfl rfl ?_
 refine⟨by decide,0,by decide,?_⟩
 refine zw rfl (zt ?_)
 refine zw rfl (zt ?_)
 refine za rfl rfl ?_
 refine ze hb ?_
 refine zw rfl (zt ?_)
 refine zd (m:=1) rfl (by decide) ?_
 refine Vrounds.step mixed Tab_ok ?_
 refine zw rfl (zt ?_)
 exact cr
theorem zdzb:bG 122 [nods [L1 lf],I 0] (.r (.b true)):=by
 refine bT Tryz.func122 rfl ?_
 refine ze (znp lf) ?_
 refine zm i00 i01 (idx0 lf) ?_
 refine zg rfl ?_
 refine Vloop.rounds 1 ?_
 refine Vrounds.step mixed Tab_ok ?_
 refine zw rfl (zt ?_)
 exact cr
include hlf hlr in
theorem zxx:bG 72 [nods [L1 lf]] (.r (.b true)):=by
 refine bT Tryz.func72 rfl ?_
 have hs:=ztu [L1 lf] n1b
 have e:[L1 lf].any isLf=true:=rfl
 rw[e]at hs
 refine ze (znp lf) ?_
 refine zw rfl ?_
 refine ze (z69 lf hlf hlr) ?_
 refine zw rfl ?_
 refine zu rfl ?_
 refine ze hs ?_
 refine zw rfl ?_
 refine zw rfl (zt ?_)
 refine Vloop.rounds 2 ?_
 refine Vrounds.step mixed Tab_ok ?_
 refine zu rfl (zq ?_)
 refine ze (zdzb lf) ?_
 refine zw rfl (zt ?_)
 refine zd (m:=1) rfl (by decide) ?_
 refine Vrounds.step mixed Tab_ok ?_
 refine zw rfl (zt ?_)
 exact cr
include hlf in
theorem z1f:bG 29 [nods [L1 lf]] (.r (nods [L1 lf])):=by
 refine bT Tryz.func29 rfl ?_
 refine Vloop.rounds 2 ?_
 refine Vrounds.step mixed Tab_ok ?_
 refine zu rfl (zq ?_)
 refine zm i00 i01 (idx0 lf) ?_
 refine za rfl rfl ?_
 refine za rfl rfl ?_
 refine ze (zk1 (L1 lf) (zg3 hlf) (zdu _ hlf)) ?_
 refine zy ?_
 refine Vapp.mk' (j:=1) (zs:=(L1 lf).c) (by decide) (by decide) rfl rfl ?_
 refine zd (m:=1) rfl (by decide) ?_
 refine Vrounds.step mixed Tab_ok ?_
 refine zw rfl (zt ?_)
 exact cr
end
structure SecP.sm (s:SecP):Prop where
 jn:s.jn.length<=1000000
 wl:s.wl.length<=1000000
 ep:s.ep.length<=1000000
 sd:s.sd.length<=1000000
 en:s.en.length<=1000000
 ex:s.ex.length<=1000000
 au:s.au.length<=1000000
 xt:s.xt.length<=1000000
 cf:s.cf.length<=1000000
 mb:s.mb.length<=1000000
 rs:s.rs.length<=1000000
 it:s.it.length<=1000000
set_option maxHeartbeats 2000000 in
theorem z6v(s:SecP)(hs:s.sm):bG 209 [.ag s.c] (.r (.ag s.c)):=by
 refine bT Tryz.func209 rfl ?_
 obtain⟨h1,h2,h3,h4,h5,h6,h7,h8,h9,h10,h11,h12⟩:=hs
 refine Vstep.bsl (adrs 0 [0,1,2,3,4,5,6,7,8,9,10,11]) Tab_ok rfl rfl rfl rfl rfl rfl (by decide) (by repeat' (first|exact rfl|refine⟨_,_,_,rfl,rfl,rfl,?_⟩)) ?_
 refine Vloop.mk' (λj:Nat=>⟨[(1, .own 0),(2, .own 1),(17, .cut 2 0 12),(18, .r (I 12)),(19, .r (I j))],[(0,some (.box (s.c.map TF.r))),(1,some (.box nl12)),(2,some (.box (adrs 0 [0,1,2,3,4,5,6,7,8,9,10,11])))],3⟩) (λj=>j<=12) (λj=>12-j) 0 (by omega) (zac [(0,0),(1,1),(2,2)] rfl (by repeat' (first|exact rfl|exact trivial|exact cr|exact Cv.nil _|exact⟨rfl,rfl⟩|refine⟨_,_,rfl,?_,?_⟩|refine⟨?_,?_⟩)) (by repeat' (first|exact rfl|exact trivial|exact cr|exact Cv.nil _|exact⟨rfl,rfl⟩|refine⟨_,_,rfl,?_,?_⟩|refine⟨?_,?_⟩))) ?_
 intro j hj
 rcases(by omega:j<12\/j=12)with hlt |rfl
 rotate_left
 ·refine zw rfl (zt ?_)
  refine za rfl rfl ?_
  refine za rfl rfl ?_
  exact cr
 obtain⟨k,hk⟩: ∃k,k=j+1:=⟨_,rfl⟩
 rcases(by omega:j=0\/j=1\/j=2\/j=3\/j=4\/j=5\/j=6\/j=7\/j=8\/j=9\/j=10\/j=11)with rfl |rfl |rfl |rfl |rfl |rfl |rfl |rfl |rfl |rfl |rfl |rfl
 all_goals
  refine zu rfl (zq ?_)
  refine Vadr.mk' _ rfl (by decide) ?_
  refine ze (zcj _ (by omega)) ?_
  refine zd (m:=(k:Int)) (by omega) (by omega) ?_
  exact⟨k,by omega,by omega,by subst hk;exact zac [(0,0),(1,1),(2,2)] rfl (by repeat' (first|exact rfl|exact trivial|exact cr|exact Cv.nil _|exact⟨rfl,rfl⟩|refine⟨_,_,rfl,?_,?_⟩|refine⟨?_,?_⟩)) (by repeat' (first|exact rfl|exact trivial|exact cr|exact Cv.nil _|exact⟨rfl,rfl⟩|refine⟨_,_,rfl,?_,?_⟩|refine⟨?_,?_⟩))⟩
theorem z0b(x:KeyP)(hx:x.key.length<=1000000):bG 210 [keyR [x]] (.r (keyR [x])):=by
 refine bT Tryz.func210 rfl ?_
 refine Vloop.rounds 2 ?_
 refine Vrounds.step mixed Tab_ok ?_
 refine zu rfl (zq ?_)
 refine zm i00 i01 rfl ?_
 refine za rfl rfl ?_
 refine bV ?_
 refine ze (zcj _ (by omega)) ?_
 refine zy ?_
 refine Vapp.mk' (j:=1) (zs:=x.c) (by decide) (by decide) rfl rfl ?_
 refine zd (m:=1) rfl (by decide) ?_
 refine Vrounds.step mixed Tab_ok ?_
 refine zw rfl (zt ?_)
 exact cr
structure ViewP where
 ctx:CtxP
 own:Int
 interim:List UInt8
 tag:List UInt8
 sec:SecP
 key:KeyP
abbrev ViewP.c(v:ViewP):List RV:=[bs v.ctx.group, .i .u64 v.ctx.epoch,bs v.ctx.tree,bs v.ctx.trans,I v.own,bs v.interim,bs v.tag,bs v.sec.jn,bs v.sec.wl,bs v.sec.ep,bs v.sec.sd,bs v.sec.en,bs v.sec.ex,bs v.sec.au,bs v.sec.xt,bs v.sec.cf,bs v.sec.mb,bs v.sec.rs,bs v.sec.it,keyR [v.key]]
structure ViewP.sm (v:ViewP):Prop where
 group:v.ctx.group.length<=1000000
 tree:v.ctx.tree.length<=1000000
 trans:v.ctx.trans.length<=1000000
 interim:v.interim.length<=1000000
 tag:v.tag.length<=1000000
 sec:v.sec.sm
 key:v.key.key.length<=1000000
abbrev nl20:List TF:=[.r nl, .r (.i .u64 0), .r nl, .r nl, .r (I 0), .r nl, .r nl, .r nl, .r nl, .r nl, .r nl, .r nl, .r nl, .r nl, .r nl, .r nl, .r nl, .r nl, .r nl, .r nl]
set_option maxHeartbeats 2000000 in
theorem z3t(v:ViewP)(hv:v.sm):bG 144 [.ag v.c] (.r (.ag v.c)):=by
 refine bT Tryz.func144 rfl ?_
 obtain⟨h1,h2,h3,h4,h5,h6,h7⟩:=hv
 have cs:=z6v v.sec h6
 have ck:=z0b v.key h7
 refine Vdraw.code0 (Vcode.nmB 0 1000000 rfl λb=>Vcode.subp mixed Tab_ok ((zfob (id:=0) (t:=3) (tn:=1000000) (b:=b) rfl rfl rfl).trans (zfpb (id:=0) (t:=1) (tn:=1000000) rfl rfl)) ?_)
 refine bV ?_
 refine zy ?_
 refine Vloop.mk' (λj:Nat=>⟨[(1, .own 0),(2, .own 1),(18, .r (.sl 1 5 [At b 0,At b 2,At b 3,At b 5,At b 6])),(19, .r (I 5)),(20, .r (I j)),(1000000, .nm 0 (.pointer (some ⟨b,0,none⟩)))],[(0,some (.box (v.c.map TF.r))),(1,some (.box nl20))],2⟩) (λj=>j<=5) (λj=>5-j) 0 (by omega) ((zb1b (id:=0) (t:=1) (tn:=1000000) rfl rfl).trans (zac [(0,0),(1,1)] rfl (by repeat' (first|exact rfl|exact trivial|exact cr|exact Cv.nil _|exact⟨rfl,rfl⟩|refine⟨_,_,rfl,?_,?_⟩|refine⟨?_,?_⟩)) (by repeat' (first|exact rfl|exact trivial|exact cr|exact Cv.nil _|exact⟨rfl,rfl⟩|refine⟨_,_,rfl,?_,?_⟩|refine⟨?_,?_⟩)))) ?_
 intro j hj
 rcases(by omega:j<5\/j=5)with hlt |rfl
 rotate_left
 ·refine zw rfl (zt ?_)
  refine bV ?_
  refine za rfl rfl ?_
  refine ze cs ?_
  refine ze ck ?_
  refine za rfl rfl ?_
  refine za rfl rfl ?_
  exact cr
 obtain⟨k,hk⟩: ∃k,k=j+1:=⟨_,rfl⟩
 rcases(by omega:j=0\/j=1\/j=2\/j=3\/j=4)with rfl |rfl |rfl |rfl |rfl
 all_goals
  refine zu rfl (zq ?_)
  refine zm (by decide) (by decide) rfl ?_
  refine zg rfl ?_
  refine Vstep.sub (zq9 (id:=0) (t:=26) (tn:=1000000) rfl rfl rfl) (Vstep.val Tab_ok ?_)
  refine ze (zcj _ (by omega)) ?_
  refine Vstep.sub (zq9 (id:=0) (t:=29) (tn:=1000000) rfl rfl rfl) (Vstep.sto Tab_ok rfl ?_)
  refine zd (m:=(k:Int)) (by omega) (by omega) ?_
  exact⟨k,by omega,by omega,by subst hk;exact zac [(0,0),(1,1)] rfl (by repeat' (first|exact rfl|exact trivial|exact cr|exact Cv.nil _|exact⟨rfl,rfl⟩|refine⟨_,_,rfl,?_,?_⟩|refine⟨?_,?_⟩)) (by repeat' (first|exact rfl|exact trivial|exact cr|exact Cv.nil _|exact⟨rfl,rfl⟩|refine⟨_,_,rfl,?_,?_⟩|refine⟨?_,?_⟩))⟩
section
variable {P:Program} {T:TT} {B:Bs} {N:Nat} {S:St} {a:Act} {w:World} {k:Kp} {g:Env} {o:Oper}
def zw2(P:Program)(f:FuncId)(args cells rest:List RV):Prop:=
 zlj P f/\∀w k vs,RV.partsAt w k args vs->Calls P f vs.toArray w λe w'=>∃v us,e= .returned (.tuple (v::us).toArray)/\Ext w w'/\∃k':Kp,(∀b,b<w.heap.size->k' b=k b)/\(Res.bx cells).at_ w.heap.size w' k' v/\RV.partsAt w' k' rest us
def zcsb(S:St)(cells:List RV):TF->Prop
 | .own id=>oget S.O id=some (.box (cells.map .r))
 |_=>False
def retB(T:TT)(results:List ResultVar)(cells rest:List RV)(S:St):Prop:=
 match results with
 |x::y::xs=>resv T S x (zcsb S cells)/\zpj T S (y::xs) λrs=>Cvs rs rest
 |_=>False
theorem zc8b{X0:World}{X1:Kp}(hs:SatE ⟨X0,X1,[],[]⟩ N S a w k g){id:Nat}{cells:List RV}{v:Value}(ho:oget S.O id=some (.box (cells.map .r)))(hv:v=(g id).1):(Res.bx cells).at_ X0.heap.size w k v:=by
 obtain⟨q1,q2,q3,q4⟩:=hs.owns id _ ho
 simp only[Ow.at_]at q3
 obtain⟨b,cur,t,e,hh,hkb,hsz,hc⟩:=q3
 rw[e]at hv q4
 refine⟨b,cur,t,hv,?_,hh,hkb,by simpa using hsz,λj f u hf hu=>?_⟩
 ·rcases(q4 b rfl).1 with h |h
  ·exact h
  ·simp at h
 ·exact hc j (.r f) u (by rw[List.getElem?_map,hf];rfl) hu
theorem zwe{f:FuncId}{fn:Func}{args cells rest:List RV}{c:Code}(hm:P.follows .mixedOrders=true)(hT:TOk P T)(hf:P.funcs[f]?=some fn)(hb:fn.body=some c)
  (hk:(Nat.ble args.length fn.ntmps&&(zbe fn.ntmps c&& !(fn.name== "runtime.NumGoroutine")))=true)
  (h:vcg P T c (St.args args) λe S=>(e= .ret\/e= .normal)/\∃S',Sub S S'/\retB T fn.results.toList cells rest S'):zw2 P f args cells rest:=by
 simp only[Bool.and_eq_true,Nat.ble_eq,Bool.not_eq_true',beq_eq_false_iff_ne]at hk
 obtain⟨hn,hd,hname⟩:=hk
 refine⟨⟨fn,c,hf,hb,hname⟩,λw k vs hp=>?_⟩
 refine calls_of_wp hf hb ?_
 refine za3 hm hT c _ _ h ⟨w,k,[],[]⟩ fn.ntmps _ w k _ (zkl hp hn) hd λe S0 a' w' k0 ⟨hex,S',hsub,hq⟩ hs0=>?_
 have fin:a'.defers=[]/\∃v,(results fn a'.tmps).run P w'= .ok v w'/\(λ(e:Ending) w'=>∃v us,e= .returned (.tuple (v::us).toArray)/\Ext w w'/\∃k':Kp,(∀b,b<w.heap.size->k' b=k b)/\(Res.bx cells).at_ w.heap.size w' k' v/\RV.partsAt w' k' rest us) (.returned v) w':=by
  obtain⟨k',g,hs'⟩:=hsub _ _ _ _ _ hs0
  have hext:Ext w w':=⟨hs'.keep.os,hs'.keep.tape,hs'.keep.output,hs'.keep.size,λb hb=>hs'.keep.block b hb (by simp)⟩
  have hkk: ∀b,b<w.heap.size->k' b=k b:=λb hb=>hs'.kk b hb (by simp)
  refine⟨hs'.defers,?_⟩
  unfold retB at hq
  split at hq
  ·rename_i x y xs hx
   obtain⟨h1,h2⟩:=hq
   obtain⟨fr,v,hret,hat,hr⟩:=zi7 hT hs' h1
   obtain⟨rs,us,hcv,hp',hlen,hr2⟩:=zia hT hs' h2
   refine⟨.tuple (v::us).toArray,?_,v,us,rfl,hext,k',hkk,?_,hcv.at_ hp'⟩
   ·have hr3: ∀ys:List ResultVar,Sem.run P (List.mapM (zpm a'.tmps) ys) w'=Result.ok us w'->Sem.run P (List.mapM (zpm a'.tmps) (x::ys)) w'=Result.ok (v::us) w':=λys h=>by
     rw[List.mapM_cons,Sem.run_bind,hr]
     simp[h]
    have hr4:=hr3 _ hr2
    rw[zhe,Array.mapM_eq_mapM_toList,hx]
    simp only[Sem.run_bind,Sem.run_map,hr4]
    have hne:us≠[]:=λe=>by rw[e]at hlen;simp at hlen
    simp[hne]
   ·cases fr with
    |own id=>simp only[zcsb]at hret;simp only[TF.at_]at hat;exact zc8b hs' hret hat
    |_=>exact hret.elim
  ·exact hq.elim
 rcases hex with rfl |rfl
 ·exact fin
 ·exact fin
end
abbrev zwp:ByteArray:=⟨#[105,110,105,116]⟩
abbrev zwz:ByteArray:=⟨#[115,105,103,110]⟩
abbrev zPk:List RV:=[nl,nl,nl,nl, .i .u8 0,nl,nl,nl]
def zsq(a b c:List UInt8):RV:= .ag [bs a,bs b,bs c]
def zdp(box sign ident:List UInt8):Leaf:=⟨box,sign,ident,1,[],[]⟩
section
variable (ident seed x1 p1 q1 x2 p2 q2 sg pk:List UInt8) (hs:seed.length=32)
 (c1:bG 81 [bs seed,Str zwp] (.r (bs x1))) (c2:bG 134 [bs x1] (.r (.tu [bs p1,bs q1])))
 (c3:bG 81 [bs seed,Str boxS] (.r (bs x2))) (c4:bG 134 [bs x2] (.r (.tu [bs p2,bs q2])))
 (c5:bG 81 [bs seed,Str zwz] (.r (bs sg))) (c6:bG 135 [bs sg] (.r (.tu [bs pk,Er 0])))
include hs c1 c2 c3 c4 c5 c6
set_option maxHeartbeats 2000000 in
theorem zxu(z tx s2:List UInt8)(o:Leaf)(hz:zS64=z)
  (c7:bG 136 [.ag (zdp q2 pk ident).c,bs sg,bs [],I 0] (.r (.tu [.ag o.c,Er 0])))
  (c8:bG 137 [.ag (PackP.c ⟨q1,o,z⟩)] (.r (.tu [bs tx,Er 0])))
  (c9:bG 138 [bs sg,Str kpS,bs tx] (.r (.tu [bs s2,Er 0]))):
  bG 79 [bs ident,bs seed] (.r (.tu [.ag (PackP.c ⟨q1,o,s2⟩),zsq p1 p2 sg,Er 0])):=by
 refine bT Tryz.func79 rfl ?_
 have hzl:64=z.length:=by rw[<-hz];decide
 refine zw (by simp only[zb];omega) (zt ?_)
 refine ze c1 ?_
 refine ze c2 ?_
 refine ze c3 ?_
 refine ze c4 ?_
 refine ze c5 ?_
 refine ze c6 ?_
 refine za rfl rfl ?_
 refine Vcall.mk' c7 (zk (Cv.ag (zk (cr) (zk (cr) (zk (cr) (zk (cr) (zk (Cv.nil 1) (zk (Cv.nil 1) Cvs.nil))))))) (zk (cr) (zk (Cv.nil 1) (zn _)))) ?_
 refine zw rfl (zt ?_)
 refine bV ?_
 refine za rfl rfl ?_
 refine⟨rfl,by decide,by decide,by decide,z.length,z.map U8,hzl,by rw[zj4,hz],zy ?_⟩
 refine za rfl rfl ?_
 refine ze c8 ?_
 refine ze c9 ?_
 refine bV ?_
 refine za rfl rfl ?_
 refine za rfl rfl ?_
 refine za rfl rfl ?_
 refine za rfl rfl ?_
 exact⟨_,rfl,cr⟩
set_option maxHeartbeats 2000000 in
theorem zwg(e:Nat)(he:e≠0)(he2:e<256)
  (c7:bG 136 [.ag (zdp q2 pk ident).c,bs sg,bs [],I 0] (.r (.tu [.ag zl.c,Er e]))):
  bG 79 [bs ident,bs seed] (.r (.tu [.ag zPk, .ag [nl,nl,nl],Er e])):=by
 refine bT Tryz.func79 rfl ?_
 refine zw (by simp only[zb];omega) (zt ?_)
 refine ze c1 ?_
 refine ze c2 ?_
 refine ze c3 ?_
 refine ze c4 ?_
 refine ze c5 ?_
 refine ze c6 ?_
 refine za rfl rfl ?_
 refine Vcall.mk' c7 (zk (Cv.ag (zk (cr) (zk (cr) (zk (cr) (zk (cr) (zk (Cv.nil 1) (zk (Cv.nil 1) Cvs.nil))))))) (zk (cr) (zk (Cv.nil 1) (zn _)))) ?_
 refine zu (by simp only[zb];omega) (zq ?_)
 refine za rfl rfl ?_
 refine za rfl rfl ?_
 exact⟨_,rfl,cr⟩
end
structure PkgV where
 init:List UInt8
 leaf:Leaf
 sig:List UInt8
 a:List UInt8
 b:List UInt8
 c:List UInt8
structure PkgV.ok (v:PkgV):Prop where
 init:v.init.length=32
 box:v.leaf.box.length=32
 sign:v.leaf.sign.length=32
 ident:v.leaf.ident.length<=64
 parent:v.leaf.parent.length=0
 lsig:v.leaf.sig.length=64
 sig:v.sig.length=64
 c:v.c.length=32
 right:v.leaf.right=true
 a:v.a.length=32
 b:v.b.length=32
 spub:v.leaf.sign=pubS v.c
theorem z3x(ident seed:List UInt8)(hs:seed.length=32)(hi:ident.length<=1000):
  (¬(0<ident.length/\ident.length<=64)/\bG 79 [bs ident,bs seed] (.r (.tu [.ag zPk, .ag [nl,nl,nl],Er 3])))\/
  ((0<ident.length/\ident.length<=64)/\∃v:PkgV,v.ok/\bG 79 [bs ident,bs seed] (.r (.tu [.ag (PackP.c ⟨v.init,v.leaf,v.sig⟩),zsq v.a v.b v.c,Er 0]))):=by
 have c1:=zho seed zwp (by omega) (by decide)
 have h1:=zea seed (sB zwp) [] (n:=32) (by omega)
 generalize labB seed (sB zwp) [] 32=x1 at c1 h1
 have c2:=z1h x1 (by omega)
 have k1:=zob x1
 generalize zpg x1=p1 at c2 k1
 have e1:=zrm p1
 generalize zkw p1=q1 at c2 e1
 have c3:=zho seed boxS (by omega) (by decide)
 have h2:=zea seed (sB boxS) [] (n:=32) (by omega)
 generalize labB seed (sB boxS) [] 32=x2 at c3 h2
 have c4:=z1h x2 (by omega)
 have k2:=zob x2
 generalize zpg x2=p2 at c4 k2
 have e2:=zrm p2
 generalize zkw p2=q2 at c4 e2
 have c5:=zho seed zwz (by omega) (by decide)
 have h3:=zea seed (sB zwz) [] (n:=32) (by omega)
 generalize labB seed (sB zwz) [] 32=sg at c5 h3
 have c6:=zu7 sg h3
 have e3:=zy4 sg
 generalize hpk:pubS sg=pk at c6 e3
 have c7:=z34 (zdp q2 pk ident) sg [] 0 ⟨by show q2.length<=_;omega,by show pk.length<=_;omega,by show ident.length<=_;omega,by show 0<=_;omega,by show 0<=_;omega⟩ (by decide) (by show q2.length+pk.length+ident.length+0<=_;omega) (by unfold i64;omega)
 have hr:((zdp q2 pk ident).with zS64).right=decide (0<ident.length/\ident.length<=64):=by
  unfold Leaf.right
  refine decide_eq_decide.2 ⟨λh=>⟨h.2.2.1,h.2.2.2.1⟩,λh=>⟨e2,e3,h.1,h.2,by show 0< (1:UInt8).toNat;decide,by show(1:UInt8).toNat<4;decide, .inl rfl,rfl⟩⟩
 have ht:zhj (zdp q2 pk ident) 0=true:=rfl
 by_cases hz: ¬(0<ident.length/\ident.length<=64)
 ·refine .inl ⟨hz,?_⟩
  have he:zgn (zdp q2 pk ident) sg 0=3:=by
   unfold zgn
   rw[hr,decide_eq_false hz]
   rfl
  rw[zmr,he,if_neg (by decide)]at c7
  exact zwg ident seed x1 p1 q1 x2 p2 q2 sg pk hs c1 c2 c3 c4 c5 c6 3 (by decide) (by decide) c7
 ·have hz:=Decidable.not_not.1 hz
  refine .inr ⟨hz,?_⟩
  have he:zgn (zdp q2 pk ident) sg 0=0:=by
   unfold zgn
   rw[hr,decide_eq_true hz,if_pos rfl,if_pos ht,if_pos h3]
  rw[zmr,if_pos he]at c7
  have hol:(slOk (zdp q2 pk ident) sg [] 0).right=true:=by
   unfold Leaf.right
   refine decide_eq_true ⟨e2,e3,hz.1,hz.2,by show 0< (1:UInt8).toNat;decide,by show(1:UInt8).toNat<4;decide, .inl rfl,zn0 _ _ _⟩
  have hsh:(slOk (zdp q2 pk ident) sg [] 0).box.length=32/\(slOk (zdp q2 pk ident) sg [] 0).sign.length=32/\(slOk (zdp q2 pk ident) sg [] 0).ident.length<=64/\(slOk (zdp q2 pk ident) sg [] 0).src=1/\(slOk (zdp q2 pk ident) sg [] 0).parent.length=0/\(slOk (zdp q2 pk ident) sg [] 0).sig.length=64/\(slOk (zdp q2 pk ident) sg [] 0).sign=pubS sg:=⟨e2,e3,hz.2,rfl,rfl,zn0 _ _ _,hpk.symm⟩
  generalize slOk (zdp q2 pk ident) sg [] 0=o at c7 hol hsh
  obtain⟨o1,o2,o3,o4,o5,o6,o7⟩:=hsh
  have hzl:zS64.length=64:=by decide
  have hf:PackP.fit ⟨q1,o,zS64⟩:=⟨by show q1.length<=_;omega,⟨by show o.box.length<=_;omega,by show o.sign.length<=_;omega,by show o.ident.length<=_;omega,by show o.parent.length<=_;omega,by show o.sig.length<=_;omega⟩,by show zS64.length<=_;omega⟩
  have c8:=z3y ⟨q1,o,zS64⟩ hf
  have hpr:PackP.right ⟨q1,o,zS64⟩=true:=by
   unfold PackP.right
   rw[show(PackP.mk q1 o zS64).leaf=o from rfl,hol,o4]
   show(decide (q1.length=32)&&(true&&decide ((1:UInt8)=1)&&decide (zS64.length=64)))=true
   rw[decide_eq_true e1,decide_eq_true hzl]
   rfl
  have htl:(zhd ⟨q1,o,zS64⟩).length<=500000000:=by
   have hv:=zal q1
   have hL:=zl5 o
   simp only[zhd,bL,zao]
   omega
  rw[hpr]at c8
  generalize zhd ⟨q1,o,zS64⟩=tx at c8 htl
  have c9:=z1j sg kpS tx h3 (by decide) htl
  have hs2:=zn0 sg (sB kpS) tx
  generalize zwq sg (sB kpS) tx=s2 at c9 hs2
  exact⟨⟨q1,o,s2,p1,p2,sg⟩,⟨e1,o1,o2,o3,o5,o6,hs2,h3,hol,k1,k2,o7⟩,zxu ident seed x1 p1 q1 x2 p2 q2 sg pk hs c1 c2 c3 c4 c5 c6 zS64 tx s2 o rfl c7 c8 c9⟩
theorem z66(ident seed:List UInt8)(hs:seed.length=32)(hi:ident.length<=64):
  (ident.length=0/\bG 79 [bs ident,bs seed] (.r (.tu [.ag zPk, .ag [nl,nl,nl],Er 3])))\/
  (ident.length≠0/\∃v:PkgV,v.ok/\bG 79 [bs ident,bs seed] (.r (.tu [.ag (PackP.c ⟨v.init,v.leaf,v.sig⟩),zsq v.a v.b v.c,Er 0]))):=by
 rcases z3x ident seed hs (by omega)with⟨h,c⟩ |⟨h,c⟩
 ·exact .inl ⟨by omega,c⟩
 ·exact .inr ⟨by omega,c⟩
end Go.Proofs.YtoegdgbghdnnfaaGreat.Sx
