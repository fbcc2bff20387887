import Derived.Test.YtoegdgbghdnnfaaGreatZSxPt
import Derived.Test.YtoegdgbghdnnfaaGreatZBytes
import Derived.Test.YtoegdgbghdnnfaaGreatZKc
import Derived.Test.YtoegdgbghdnnfaaGreatZOnes
import Derived.Test.YtoegdgbghdnnfaaGreatZKu
import Derived.Test.YtoegdgbghdnnfaaGreatZSxZ
import Derived.Shelf.RegionOpenPlain
import Derived.Lib.Walk
import Derived.Lib.SliceRun
import Derived.Lib.Overlaps
import Derived.Laws.Externs
import Derived.Laws.IdiomCopy
import Derived.Lib.AppendZerosOnto
import Derived.Laws.NewBlocks
import Derived.Test.YtoegdgbghdnnfaaGreatZSxS
import Derived.Test.YtoegdgbghdnnfaaGreatZSxV
namespace Go.Proofs.YtoegdgbghdnnfaaGreat.Sx
open Go.RowKit
theorem z3s(l:Leaf)(hl:l.fit):bG 96 [.ag l.c] (.r (.ag l.c)):=by
 refine bT Tryz.func96 rfl ?_
 obtain⟨h1,h2,h3,h4,h5⟩:=hl
 refine Vstep.bsl (adrs 0 [0,1,2,4,5]) Tab_ok rfl rfl rfl rfl rfl rfl (by decide) (by repeat' (first|exact rfl|refine⟨_,_,_,rfl,rfl,rfl,?_⟩)) ?_
 refine Vloop.mk' (λj:Nat=>⟨[(1, .own 0),(2, .own 1),(10, .cut 2 0 5),(11, .r (I 5)),(12, .r (I j))],[(0,some (.box (l.c.map TF.r))),(1,some (.box [.r (.x (.slice none 0 0)), .r (.x (.slice none 0 0)), .r (.x (.slice none 0 0)), .r (.i .u8 0), .r (.x (.slice none 0 0)), .r (.x (.slice none 0 0))])),(2,some (.box (adrs 0 [0,1,2,4,5])))],3⟩) (λj=>j<=5) (λj=>5-j) 0 (by omega) (zac [(0,0),(1,1),(2,2)] rfl (by repeat' (first|exact rfl|exact trivial|exact cr|exact Cv.nil _|exact⟨rfl,rfl⟩|refine⟨_,_,rfl,?_,?_⟩|refine⟨?_,?_⟩)) (by repeat' (first|exact rfl|exact trivial|exact cr|exact Cv.nil _|exact⟨rfl,rfl⟩|refine⟨_,_,rfl,?_,?_⟩|refine⟨?_,?_⟩))) ?_
 intro j hj
 rcases(by omega:j<5\/j=5)with hlt |rfl
 rotate_left
 ·refine zw rfl (zt ?_)
  refine za rfl rfl ?_
  refine za rfl rfl ?_
  exact cr
 obtain⟨k,hk⟩: ∃k,k=j+1:=⟨_,rfl⟩
 rcases(by omega:j=0\/j=1\/j=2\/j=3\/j=4)with rfl |rfl |rfl |rfl |rfl
 all_goals
  refine zu rfl (zq ?_)
  refine Vadr.mk' _ rfl (by decide) ?_
  refine ze (zcj _ (by omega)) ?_
  refine zd (m:=(k:Int)) (by omega) (by omega) ?_
  exact⟨k,by omega,by omega,by subst hk;exact zac [(0,0),(1,1),(2,2)] rfl (by repeat' (first|exact rfl|exact trivial|exact cr|exact Cv.nil _|exact⟨rfl,rfl⟩|refine⟨_,_,rfl,?_,?_⟩|refine⟨?_,?_⟩)) (by repeat' (first|exact rfl|exact trivial|exact cr|exact Cv.nil _|exact⟨rfl,rfl⟩|refine⟨_,_,rfl,?_,?_⟩|refine⟨?_,?_⟩))⟩
theorem zdu(l:Leaf)(hl:l.fit):bG 96 [.ag l.c] (.r (.ag l.c)):=z3s l hl
theorem zv4{α β:Type}{f:α->List β}{sz:Nat}(hf: ∀x,(f x).length=sz): ∀(l:List α) (j:Nat),(l.flatMap f).take (j*sz)=(l.take j).flatMap f
 |[],j=>by simp
 |x::l,0=>by simp
 |x::l,j+1=>by
  rw[List.flatMap_cons,List.take_succ_cons,List.flatMap_cons,Nat.add_mul,Nat.one_mul,Nat.add_comm,<-zv4 hf l j]
  rw[List.take_append,hf x,List.take_of_length_le (by rw[hf x];omega),Nat.add_sub_cancel_left]
instance {h k:Nat}{x:Int}:Decidable (inR h k x):=by unfold inR;infer_instance
theorem z7u{h k:Nat}{x:Int}(hx:inR h k x):inR (h+1) (k/2) x:=by
 rcases Nat.mod_two_eq_zero_or_one k with he |he
 ·exact(zcb (k:=k/2) (by rwa[show 2*(k/2)=k by omega])).1
 ·exact(zcc (k:=k/2) (by rwa[show 2*(k/2)+1=k by omega])).1
theorem zvc{h k:Nat}{x:Int}(hx:inR h k x): ∀e,inR (h+e) (k/2^e) x
 |0=>by simpa using hx
 |e+1=>by
  have:=z7u (zvc hx e)
  rwa[Nat.div_div_eq_div_mul,<-Nat.pow_succ]at this
theorem za5b{h k k':Nat}{x:Int}(h1:inR h k x)(h2:inR h k' x):k=k':=by
 unfold inR at*
 have hp:=zag (h+1)
 generalize 2^(h+1)=q at*
 rcases Nat.lt_trichotomy k k' with hlt |rfl |hgt
 ·have:=Nat.mul_le_mul_right q (show k+1<=k' from hlt)
  rw[Nat.add_mul,Nat.one_mul]at this
  omega
 ·rfl
 ·have:=Nat.mul_le_mul_right q (show k'+1<=k from hgt)
  rw[Nat.add_mul,Nat.one_mul]at this
  omega
theorem zq7(k:Nat):sibN k/2=k/2/\sibN k≠k:=by
 unfold sibN
 split<;>omega
theorem z8v{o i j:Nat}{x:Int}(h1:inR i (sibN (o/2^i)) x)(h2:inR j (sibN (o/2^j)) x):i=j:=by
 have key: ∀{i j:Nat},i<j->inR i (sibN (o/2^i)) x->inR j (sibN (o/2^j)) x->False:=λ{i j} hij h1 h2=>by
  have h3:=zvc (z7u h1) (j-i-1)
  rw[(zq7 _).1,<-zl1,Nat.div_div_eq_div_mul,<-Nat.pow_add,show i+1+(j-i-1)=j by omega]at h3
  exact(zq7 (o/2^j)).2 (za5b h2 h3)
 rcases Nat.lt_trichotomy i j with h |h |h
 ·exact(key h h1 h2).elim
 ·exact h
 ·exact(key h h2 h1).elim
theorem zsn{o i j:Nat}(h1:inR i (sibN (o/2^i)) (nd j (o/2^j))):False:=by
 obtain⟨h2,h3⟩:=zdj.1 h1
 rw[Nat.div_div_eq_div_mul,<-Nat.pow_add,show j+(i-j)=i by omega]at h3
 exact(zq7 (o/2^i)).2 h3.symm
theorem zir{α:Type}{l:List α}{j:Nat}(hj:j<l.length):l.take (j+1)=l.take j++[l[j]]:=by
 rw[List.take_add_one,List.getElem?_eq_getElem hj];rfl
def nods(l:List Node):RV:= .sl 10 l.length (l.flatMap Node.c)
theorem zo6{l:List Node}{i:Int}{j:Nat}(h:i=j)(hj:j<l.length):((l.flatMap Node.c).drop (i.toNat*10)).take 10=l[j].c:=zhp (f:=Node.c) (sz:=10) (λ_=>rfl) h hj
def nT(t:List Node)(j:Nat):Node:=t.getD j Node.zero
theorem zh9{t:List Node}{j:Nat}(hj:j<t.length):t[j]=nT t j:=by simp[nT,hj]
theorem zci{t:List Node}{j:Nat}(hj:j<t.length):nT t j∈t:=zh9 hj▸List.getElem_mem hj
theorem zbs{l:List Node}{i:Int}{j:Nat}(h:i=j)(hj:j<l.length):((l.flatMap Node.c).drop (i.toNat*10)).take 10=(nT l j).c:=by rw[<-zh9 hj];exact zo6 h hj
def zom(t:List Node):Bool:=decide (t.length<=40/\∀x∈t,x.small=true)
theorem z6o(t:List Node)(h1:t.length<=maxL):bG 5 [nods t] (.r (.b (zom t))):=by
 refine bT Tryz.func5 rfl ?_
 have no:(t.length<=40->(∀x∈t,x.small=true)->False)->zom t=false:=λh=>by
  simp only[zom,decide_eq_false_iff_not]
  rintro⟨a,b⟩
  exact h a b
 simp only[maxL]at h1
 refine zh (λh=>?_) (λh=>?_)
 ·refine zq (zf (congrArg RV.b (Eq.symm (no λa b=>?_))))
  simp only[zb]at h;omega
 simp only[zb]at h
 refine zt ?_
 refine Vloop.mk' (λj:Nat=>{F:=[(0, .r (nods t)),(3, .r (I j))],O:=[],nx:=0}) (λj=>j<=t.length/\∀x∈t.take j,x.small=true) (λj=>t.length-j) 0 ⟨by omega,by simp⟩ (zac [] rfl ⟨cr,cr,trivial⟩ trivial) ?_
 rintro j ⟨hj,hn⟩
 refine zh (λh4=>zq ?_) (λh4=>zt ?_)
 ·simp only[zb]at h4
  have hj':j<t.length:=by omega
  refine zm (by omega) (by omega) (zo6 rfl hj') ?_
  refine za rfl rfl ?_
  refine Vcall.bool (z6n _) (λh5=>zw rfl (zt ?_)) (λh5=>zu rfl (zq ?_))
  ·refine zd (m:=((j+1:Nat):Int)) (by omega) (by omega) ?_
   exact⟨j+1,⟨hj',zmt hj' hn h5⟩,by omega,zac [] rfl ⟨cr,cr,trivial⟩ trivial⟩
  ·refine zf (congrArg RV.b (Eq.symm (no λa b=>?_)))
   have:=b _ (List.getElem_mem hj')
   rw[h5]at this;cases this
 simp only[zb]at h4
 rw[List.take_of_length_le (by omega)]at hn
 refine zf (congrArg RV.b (Eq.symm ?_))
 simp only[zom,decide_eq_true_eq]
 exact⟨by omega,hn⟩
theorem z08(l:List Int)(x:Int)(hl:l.length<=1000000000000):bG 24 [is l,I x] (.r (.b (decide (x∈l)))):=by
 refine bT Tryz.func24 rfl ?_
 refine Vloop.mk' (λj:Nat=>{F:=[(0, .r (is l)),(1, .r (I x)),(5, .r (I j))],O:=[],nx:=0}) (λj=>j<=l.length/\x∉l.take j) (λj=>l.length-j) 0 ⟨by omega,by simp⟩ (zac [] rfl ⟨cr,cr,cr,trivial⟩ trivial) ?_
 rintro j ⟨hj,hn⟩
 refine zh (λh=>zq ?_) (λh=>zt ?_)
 ·simp only[zb]at h
  have hj':j<l.length:=by omega
  refine zm (by omega) (by omega) (zaj rfl hj') (zg rfl ?_)
  refine zh (λh2=>zq ?_) (λh2=>zt ?_)
  ·simp only[zb]at h2
   exact zf (by simp[ofC,<-h2])
  ·simp only[zb]at h2
   refine zd (m:=((j+1:Nat):Int)) (by omega) (by omega) ?_
   exact⟨j+1,⟨hj',zm2 hj' hn h2⟩,by omega,zac [] rfl ⟨cr,cr,cr,trivial⟩ trivial⟩
 ·simp only[zb]at h
  rw[List.take_of_length_le (by omega)]at hn
  exact zf (by simp[ofC,hn])
def zat(t:List Node):Int:=if zck (((t.length+1)/2:Nat):Int)=true/\t.length%2=1 then(((t.length+1)/2:Nat):Int)else 0
theorem z3h(t:List Node)(h1:t.length<=1000000):bG 21 [nods t] (.r (I (zat t))):=by
 refine bT Tryz.func21 rfl ?_
 refine Vloop.mk' (λj:Nat=>{F:=[(0, .r (nods t)),(3, .r (I ((2^j:Nat):Int)))],O:=[],nx:=0}) (λj=>j<=17/\∀i,i<j->2*2^i-1≠t.length) (λj=>17-j) 0 ⟨by omega,by omega⟩ (zac [] rfl ⟨cr,cr,trivial⟩ trivial) ?_
 rintro j ⟨hj,hn⟩
 have hp:=zag j
 have e2:2^(j+1)=2*2^j:=by rw[Nat.pow_succ];omega
 refine zh (λh=>zq ?_) (λh=>zt ?_)
 ·simp only[zb]at h
  have hj':j<17:=by
   rcases Nat.lt_or_ge j 17 with h' |h'
   ·exact h'
   ·have:j=17:=by omega
    subst this
    have:(2:Nat)^17=131072:=by decide
    omega
  refine zd rfl (by omega) ?_
  refine zd rfl (by omega) ?_
  refine zh (λh2=>zq ?_) (λh2=>zt ?_)
  ·simp only[zb]at h2
   refine zf (congrArg I ?_)
   have e:(t.length+1)/2=2^j:=by omega
   have hf:=zce j (by omega)
   unfold zat
   rw[e,if_pos ⟨hf,by omega⟩]
  ·simp only[zb]at h2
   refine zd (m:=((2^(j+1):Nat):Int)) (by omega) (by omega) ?_
   refine⟨j+1,⟨by omega,λi hi=>?_⟩,by omega,zac [] rfl ⟨cr,cr,trivial⟩ trivial⟩
   rcases Nat.lt_or_ge i j with h3 |h3
   ·exact hn i h3
   ·have:i=j:=by omega
    subst this;omega
 ·simp only[zb]at h
  refine zf (congrArg I (Eq.symm ?_))
  unfold zat
  rw[if_neg]
  rintro⟨hf,ho⟩
  obtain⟨d,hd,e⟩:=zet hf
  refine hn d ?_ (by omega)
  rcases Nat.lt_or_ge d j with h3 |h3
  ·exact h3
  ·have:=Nat.pow_le_pow_right (n:=2) (by omega) (show j<=d from h3)
   have:=zc2 hd
   omega
def zcd(t:List Node)(n:Nat):List Int:=((List.range n).filter λi=>decide ((nT t (2*i)).kind.toNat=1)).map λi:Nat=>(i:Int)
def zbh(t:List Node):List Int:=zcd t ((t.length+1)/2)
theorem zn4(t:List Node)(n:Nat):zcd t (n+1)=if(nT t (2*n)).kind.toNat=1 then zcd t n++[(n:Int)]else zcd t n:=by
 unfold zcd
 rw[List.range_succ,List.filter_append]
 by_cases h:(nT t (2*n)).kind.toNat=1
 ·simp[h]
 ·simp[h]
theorem zn3(t:List Node)(n:Nat):(zcd t n).length<=n:=by
 unfold zcd
 rw[List.length_map]
 exact Nat.le_trans (List.length_filter_le _ _) (by simp)
theorem zz8(t:List Node)(h1:t.length<=1000000):bG 60 [nods t] (.r (is (zbh t))):=by
 refine bT Tryz.func60 rfl ?_
 refine Vloop.mk' (λj:Nat=>{F:=[(0, .r (nods t)),(3, .own 0),(4, .r (I j))],O:=[(0,some (.ch 3 1 (zcd t j).length ((zcd t j).map I) true))],nx:=1}) (λj=>j<=(t.length+1)/2) (λj=>(t.length+1)/2-j) 0 (by omega)
  ((zb7 3 3 1 rfl).trans (zac [(0,0)] rfl ⟨cr,rfl,cr,trivial⟩ ⟨⟨rfl,rfl,rfl,rfl,zn _⟩,trivial⟩)) ?_
 intro j hj
 have hml:=zn3 t j
 refine zd rfl (by omega) ?_
 refine zh (λh=>zq ?_) (λh=>zt ?_)
 ·simp only[zb]at h
  have hj':2*j<t.length:=by omega
  refine zd rfl (by omega) ?_
  refine zm (by omega) (by omega) (zbs (j:=2*j) (by omega) hj') (zg rfl ?_)
  refine zh (λh2=>zq ?_) (λh2=>zt ?_)
  ·simp only[zb]at h2
   have e:zcd t (j+1)=zcd t j++[(j:Int)]:=by rw[zn4,if_pos (by omega)]
   refine zy ?_
   refine Vapp.mk' (j:=(zcd t (j+1)).length) (zs:=(zcd t (j+1)).map I) (by simp[maxLen];omega) (by simp;omega) (by rw[e];simp) (by rw[e];simp[zbl,cellsOf]) ?_
   refine zd (m:=((j+1:Nat):Int)) (by omega) (by omega) ?_
   exact⟨j+1,by omega,by omega,zac [(0,_)] rfl ⟨cr,rfl,cr,trivial⟩ ⟨zau rfl,trivial⟩⟩
  ·simp only[zb]at h2
   have e:zcd t (j+1)=zcd t j:=by rw[zn4,if_neg (by omega)]
   refine zd (m:=((j+1:Nat):Int)) (by omega) (by omega) ?_
   exact⟨j+1,by omega,by omega,zac [(0,0)] rfl ⟨cr,rfl,cr,trivial⟩ ⟨zau e.symm,trivial⟩⟩
 ·simp only[zb]at h
  have:j=(t.length+1)/2:=by omega
  subst this
  exact cr
theorem zgrb(t:List Node)(i:Int)(h1:t.length<=1000000):bG 34 [nods t,I i] (.r (.b (decide (i∈zbh t)))):=by
 refine bT Tryz.func34 rfl ?_
 refine ze (zz8 t h1) ?_
 refine ze (z08 _ _ (by have:=zn3 t ((t.length+1)/2);unfold zbh;omega)) ?_
 exact cr
theorem z0i{t:List Node}{i:Int}(h:i∈zbh t): ∃o:Nat,i=(o:Int)/\o< (t.length+1)/2/\(nT t (2*o)).kind.toNat=1:=by
 simp only[zbh,zcd,List.mem_map,List.mem_filter,List.mem_range,decide_eq_true_eq]at h
 obtain⟨o,⟨h2,h3⟩,rfl⟩:=h
 exact⟨o,rfl,h2,h3⟩
section
open Go.ChangeShapes Go.WideShapes Go.ChangeAt Go.RowKit
set_option maxRecDepth 100000 in
theorem zewb{H:Type}{enc:TypeId×Value->H}{W:World}{base:Nat}{v:Value}{d:DataW H}{p:List MemPlace}(hval:Value.okWide bP W .any base 26 v)
  (h:DataW.Trod enc bP W 0 (λ_=>true) true 26 v d p) (hw: ∀n∈d.weights bP 26,n<=reachBytes):
  ∃l:List Node,(∀x∈l,∀u∈x.par.late,Sx.i64 u)/\l.length<=maxL/\(nods l).at_ W (allK W) v:=by
 obtain⟨a,n,c,rfl⟩:=okWide_slice Tryz.underlying26 hval
 obtain⟨fuel,hf⟩:=h
 obtain⟨l,h1,h2,h3⟩:=Rd.slice (sz:=10) (r:=⟨H,enc,W,0,λ_=>true,true⟩) (fuel:=fuel) (cs:=[.slice a n c]) (x:=(d,p)) Tryz.underlying26 (by kernel_rfl) (by omega) (λ_=>rfl) Rd.node hf
 refine⟨l,h1,?_,?_⟩
 ·rcases h3 with rfl |⟨E,Sp,he,hlen⟩
  ·simp
  ·have:=hw ((E.length+Sp.length)*Tryz.prog.bytesOf 61) (by rw[show d= .slice E Sp from he];simp[DataW.weights,Tryz.underlying26])
   rw[show Tryz.prog.bytesOf 61=208 by kernel_rfl]at this
   simp only[reachBytes]at this
   unfold maxL
   omega
 ·simp only[RV.listAt]at h2
  obtain⟨u,r,e,_,hat,rfl⟩:=h2
  simp only[List.cons.injEq,and_true]at e
  rw[e]
  exact hat
end
structure PackP where
 init:List UInt8
 leaf:Leaf
 sig:List UInt8
 deriving DecidableEq
abbrev PackP.c(p:PackP):List RV:=[bs p.init,bs p.leaf.box,bs p.leaf.sign,bs p.leaf.ident,U8 p.leaf.src,bs p.leaf.parent,bs p.leaf.sig,bs p.sig]
end Go.Proofs.YtoegdgbghdnnfaaGreat.Sx
