import Derived.Test.YtoegdgbghdnnfaaGreatZAj
import Derived.Test.YtoegdgbghdnnfaaGreatZAa
import Derived.Test.YtoegdgbghdnnfaaGreatZSxNm
import Derived.Test.YtoegdgbghdnnfaaGreatZHp
import Derived.Test.YtoegdgbghdnnfaaGreatZQc
import Derived.Test.YtoegdgbghdnnfaaGreatZHh
import Derived.Test.YtoegdgbghdnnfaaGreatZIi
import Derived.Test.YtoegdgbghdnnfaaGreatZHi
import Derived.Test.YtoegdgbghdnnfaaGreatZSxV
namespace Go.Proofs.YtoegdgbghdnnfaaGreat.Sx
open Go.RowKit
section
variable {t:List Node} {d o:Nat} (k:TreeOk t d) (ht:t.length<=1000000) (hr:rightT t=true) (ho:o<2^d) (hm:(o:Int)∈zbh t) (hb: ∀x∈t,(zak x).length<=2000) (hlt: ∀x∈t,x.par.late.length<=1000)
include k in
theorem zpc{x:Int}(hx:inR d 0 x):nT t x.toNat∈t:=by
 have:=k.len
 unfold inR at hx
 rw[Nat.zero_mul]at hx
 exact zci (by omega)
include k in
theorem zwu{x:Int}(hx:inR d 0 x):ofI x ((2^d:Nat):Int)=true:=by
 have e2:2^(d+1)=2*2^d:=by rw[Nat.pow_succ];omega
 unfold inR at hx
 rw[Nat.zero_mul]at hx
 exact ze5.2 ⟨zce d k.hd,by omega⟩
include k hb in
theorem zp9{K M:List Int}(hK: ∀z∈K,inR d 0 z)(hM: ∀z∈M,inR d 0 z)(hKl:K.length<=1000000)(hMl:M.length<=1000000):(zc9 t d o K M).brief:=by
 refine⟨⟨by show(K.map (zbp t)).length<=_;rw[List.length_map];omega,by show(M.map (zb8 t)).length<=_;rw[List.length_map];omega,?_,?_⟩,?_,?_,?_⟩
 ·intro x hx
  obtain⟨z,hz,rfl⟩:=List.mem_map.1 hx
  exact k.fit _ (zpc k (hK z hz))
 ·intro x hx
  obtain⟨z,hz,rfl⟩:=List.mem_map.1 hx
  show(zas t _ _).length<=_
  rw[zcr];decide
 ·intro x n hx
  change zaf (K.map (zbp t)) x=some n at hx
  rw[zfa]at hx
  split at hx
  ·rename_i h
   cases hx
   have:=hb _ (zpc k (hK x h))
   omega
  ·cases hx
 ·intro x hx
  obtain⟨z,hz,rfl⟩:=List.mem_map.1 hx
  show(zas t _ _).length<=_
  rw[zcr];decide
 ·intro x hx
  obtain⟨z,hz,rfl⟩:=List.mem_map.1 hx
  exact k.right _ (zpc k (hK z hz))
include k hb in
theorem zkg{K M:List Int}(hd4:d<=4)(hK: ∀z∈K,inR d 0 z)(mark:UInt8):(putB (zc9 t d o K M) d 0).length<=64032/\(zei mark (zc9 t d o K M) d).length<=1048576:=by
 have h:=zy6 (s:=zc9 t d o K M) (c:=2000) (λx n hx=>?_) (λx hx=>?_) d 0
 ·have h2:=Nat.pow_le_pow_right (n:=2) (by omega) (show d+1<=5 by omega)
  have h3:=Nat.mul_le_mul_left 2001 h2
  refine⟨by omega,?_⟩
  unfold zei
  simp only[bL,zao,List.length_cons,List.length_nil]
  omega
 ·change zaf (K.map (zbp t)) x=some n at hx
  rw[zfa]at hx
  split at hx
  ·rename_i h
   cases hx
   exact hb _ (zpc k (hK x h))
  ·cases hx
 ·obtain⟨z,hz,rfl⟩:=List.mem_map.1 hx
  show(zas t _ _).length<=_
  rw[zcr];decide
def sliceB(t:List Node)(d o:Nat):List UInt8:=zei 1 (cutS t ((2^d:Nat):Int) o) d
def zoc(t:List Node)(d o:Nat):List UInt8:=zei 2 (zc9 t d o (zco ((2^d:Nat):Int) o) (zdr ((2^d:Nat):Int) o)) d
include k ht hr ho hm in
theorem zd7b:bG 39 [nods t,I o] (.r (.tu [.ag (cutS t ((2^d:Nat):Int) o).c,Er 0])):=by
 have hb:=zw9 (o:=o) k ho
 obtain⟨hK,hM⟩:=zgq k ho
 have c1:=z1p k ht hr false _ _ ho hm (zpv k ho)
 have c2:=zxp ((2^d:Nat):Int) o (cutS t ((2^d:Nat):Int) o).opn (cutS t ((2^d:Nat):Int) o).shut hb.lo hb.lh hb.fo hb.ao hb.ah hb.fh
 have e:zh0 ((2^d:Nat):Int) o (cutS t ((2^d:Nat):Int) o).opn (cutS t ((2^d:Nat):Int) o).shut=cutS t ((2^d:Nat):Int) o:=zy1 hK.1 hM.1
 rw[e]at c2
 refine bT Tryz.func39 rfl ?_
 refine ze c1 ?_
 refine zw rfl (zt ?_)
 refine za rfl rfl ?_
 refine ze c2 ?_
 refine za rfl rfl ?_
 exact⟨_,rfl,cr⟩
include k ht hr in
theorem zasb(i:Int)(hm:i∉zbh t):bG 39 [nods t,I i] (.r (.tu [.ag zero4,Er 7])):=by
 refine bT Tryz.func39 rfl ?_
 refine ze (zx0 k ht hr i false hm) ?_
 refine zu rfl (zq ?_)
 refine za rfl rfl ?_
 exact⟨_,rfl,cr⟩
include k ho hb in
theorem z7g(hd4:d<=4)(hleaf:(nT t (2*o)).kind.toNat=1):bG 41 [.ag (cutS t ((2^d:Nat):Int) o).c] (.r (.tu [bs (sliceB t d o),Er 0])):=by
 obtain⟨hK,hM⟩:=zgq k ho
 have hR:=zgab k ho hleaf
 have c1:=zuz (cutS t ((2^d:Nat):Int) o) (zw9 k ho)
 rw[hR,zihb hR]at c1
 have c2:=zu6 1 (cutS t ((2^d:Nat):Int) o) (λx n h=>zvr (o:=o) k hK x n h) k.hd ho rfl rfl (by have:=(zkg (M:=cutB t ((2^d:Nat):Int) o) (o:=o) k hb hd4 hK.2 1).1;exact Nat.le_trans this (by decide))
 refine bT Tryz.func41 rfl ?_
 refine za rfl rfl ?_
 refine ze c1 ?_
 refine zw rfl (zt ?_)
 refine za rfl rfl ?_
 refine ze c2 ?_
 exact⟨_,rfl,cr⟩
include k ht hr ho hm hb in
theorem z7l(hd4:d<=4):bG 43 [nods t,I o] (.r (.tu [bs (zoc t d o),Er 0])):=by
 obtain⟨p1,p2⟩:=zsp k ho
 have hv:=zv6 k ho
 have w:=zf2 (zan t t.length) (o:Int) true d 0 0 []
 rw[hv]at w
 have c1:=z1p k ht hr true _ _ ho hm hv
 have c2:=zu6 2 (zc9 t d o (topS (pthS t d o).opn o d).1 (topS (pthS t d o).opn o d).2) (λx n h=>zvr (o:=o) k w.1 x n h) k.hd ho rfl rfl (by have:=(zkg (M:=(topS (pthS t d o).opn o d).2) (o:=o) k hb hd4 w.1.2 1).1;exact Nat.le_trans this (by decide))
 have e:zei 2 (zc9 t d o (topS (pthS t d o).opn o d).1 (topS (pthS t d o).opn o d).2) d=zoc t d o:=zqa 2 (λz=>(p1 z).symm) (λz=>(p2 z).symm)
 rw[e]at c2
 refine bT Tryz.func43 rfl ?_
 refine ze c1 ?_
 refine zw rfl (zt ?_)
 refine za rfl rfl ?_
 refine ze c2 ?_
 exact⟨_,rfl,cr⟩
include k ht hr in
theorem z38(i:Int)(hm:i∉zbh t):bG 43 [nods t,I i] (.r (.tu [bs [],Er 7])):=by
 refine bT Tryz.func43 rfl ?_
 refine ze (zx0 k ht hr i true hm) ?_
 refine zu rfl (zq ?_)
 exact⟨_,rfl,Cv.tu (zk (Cv.nil 1) (zn _))⟩
include k ho in
theorem zf9b:(∀x∈zb4 (zan t t.length) ((2^d:Nat):Int) o,inR d 0 x)/\(∀x∈zdq (zan t t.length) ((2^d:Nat):Int) o,inR d 0 x)/\(zb4 (zan t t.length) ((2^d:Nat):Int) o).length<=1000000/\(zdq (zan t t.length) ((2^d:Nat):Int) o).length<=1000000:=by
 obtain⟨hK,hM⟩:=zgq k ho
 obtain⟨c1,c2,c3,c4,c5,c6⟩:=zna k ho
 have hl:=zfk (zan t t.length) (o:Int) false d 0 0 []
 rw[zpv k ho]at hl
 simp only[c1,c2]at hl
 have h16:=zc2 k.hd
 have e2:2^(d+1)=2*2^d:=by rw[Nat.pow_succ];omega
 exact⟨λx hx=>hK.2 x (by rw[c1];exact(c3 x).1 hx),λx hx=>hM.2 x (by rw[c2];exact(c4 x).1 hx),by omega,by omega⟩
include k ho hlt in
theorem zgpb:bG 36 [nods t,I o, .b false] (.r (.ag (cutS t ((2^d:Nat):Int) o).c)):=by
 obtain⟨a,b,c,e⟩:=zf9b k ho
 exact zizb t k.fit k.right hlt k.hd k.len (by omega) (by omega) (λx hx=>zwu k (a x hx)) (λx hx=>zwu k (b x hx)) c e
include k ho in
theorem zud:(∀x∈zco ((2^d:Nat):Int) o,inR d 0 x)/\(∀x∈zdr ((2^d:Nat):Int) o,inR d 0 x)/\(zco ((2^d:Nat):Int) o).length<=1000000/\(zdr ((2^d:Nat):Int) o).length<=1000000:=by
 obtain⟨p1,p2⟩:=zsp k ho
 have w:=zf2 (zan t t.length) (o:Int) true d 0 0 []
 rw[zv6 k ho]at w
 have hpl:=zin (2*(o:Int)) ((2^d:Nat):Int)
 have hl1:(zco ((2^d:Nat):Int) o).length<=18:=by unfold zco;rw[List.length_cons];omega
 have hi:=(zqv (all:=zco ((2^d:Nat):Int) o) (zco ((2^d:Nat):Int) o) [] (by simp)).2
 have hl2:(zdr ((2^d:Nat):Int) o).length<=1000000:=by
  unfold zdr
  simp only[List.length_nil,Nat.zero_add]at hi
  omega
 exact⟨λx hx=>w.1.2 x ((p1 x).1 hx),λx hx=>w.2.2 x ((p2 x).1 hx),by omega,hl2⟩
include k ho in
theorem zdhb:bG 36 [nods t,I o, .b true] (.r (.ag (zc9 t d o (za8 (zco ((2^d:Nat):Int) o)) (za8 (zdr ((2^d:Nat):Int) o))).c)):=by
 obtain⟨a,b,c,e⟩:=zud k ho
 have hlen:=k.len
 have h16:=zc2 k.hd
 have e2:2^(d+1)=2*2^d:=by rw[Nat.pow_succ];omega
 exact z6a t true _ _ _ k.fit k.right k.hd k.len (z9y (zan t t.length) _ o (by rw[zoo];omega) (zce d k.hd) (by omega) (by omega)) (λx hx=>zwu k (a x hx)) (λx hx=>zwu k (b x hx)) c e
include k ho hb in
theorem z96:bG 35 [.ag (cutS t ((2^d:Nat):Int) o).c, .i .u8 1] (.r (bs (sliceB t d o))):=by
 obtain⟨hK,hM⟩:=zgq k ho
 have hl:=zw9 k ho
 exact z59 _ (zp9 (o:=o) k hb hK.2 hM.2 (by have:=hl.lo;simpa[cutS]using this) (by have:=hl.lh;simpa[cutS]using this)) k.hd ho rfl rfl
include k ho hb in
theorem z91:bG 35 [.ag (zc9 t d o (za8 (zco ((2^d:Nat):Int) o)) (za8 (zdr ((2^d:Nat):Int) o))).c, .i .u8 2] (.r (bs (zoc t d o))):=by
 obtain⟨a,b,c,e⟩:=zud k ho
 have g:=zrw 2 (zc9 t d o (za8 (zco ((2^d:Nat):Int) o)) (za8 (zdr ((2^d:Nat):Int) o))) (zp9 (o:=o) k hb (λz hz=>a z (zfy.1 hz)) (λz hz=>b z (zfy.1 hz)) (by unfold za8;rw[ze7];simpa using c) (by unfold za8;rw[ze7];simpa using e)) k.hd ho rfl rfl
 rw[zqa 2 (λz=>zfy) (λz=>zfy)]at g
 exact g
end
def endN(t:List Node):Nat->Nat
 |0=>0
 |j+1=>if(nT t j).kind.toNat=0 then endN t j else j+1
theorem zj8(t:List Node)(j:Nat):endN t (j+1)=if(nT t j).kind.toNat=0 then endN t j else j+1:=rfl
theorem ztn(t:List Node): ∀j,endN t j<=j
 |0=>Nat.le_refl _
 |j+1=>by
  unfold endN
  split
  ·exact Nat.le_succ_of_le (ztn t j)
  ·exact Nat.le_refl _
theorem zxc{t:List Node}{i:Nat}(hk:(nT t i).kind.toNat≠0): ∀j,i<j->0<endN t j
 |0,h=>by omega
 |j+1,h=>by
  unfold endN
  split
  ·rename_i h2
   exact zxc hk j (by rcases Nat.lt_or_ge i j with q | q; exact q; exact absurd (show (nT t i).kind.toNat=0 by rw[show i=j by omega]; exact h2) hk)
  ·omega
def trnB(t:List Node):List UInt8:=(t.take (endN t t.length)).flatMap zak
def zmu(t:List Node):List UInt8:=vecB (trnB t)
theorem zo2{c:Nat}: ∀(l:List Node),(∀x∈l,(zak x).length<=c)->(l.flatMap zak).length<=c*l.length
 |[],_=>by simp
 |x::l,h=>by
  have a:=h x (by simp)
  have b:=zo2 l λy hy=>h y (by simp[hy])
  rw[List.flatMap_cons,bL,List.length_cons,Nat.mul_succ]
  omega
section
variable (t:List Node) (ht:t.length<=1000) (hfit: ∀x∈t,x.fit) (hr:rightT t=true) (hb: ∀x∈t,(zak x).length<=20000)
include hb in
theorem zuf(j:Nat):((t.take j).flatMap zak).length<=20000*t.length:=by
 have h1:=zo2 (t.take j) λx hx=>hb x (List.mem_of_mem_take hx)
 have h2:(t.take j).length<=t.length:=by rw[List.length_take];omega
 have h3:=Nat.mul_le_mul_left 20000 h2
 omega
include hr in
theorem zvw:(∀x∈t,x.right=true)/\0<endN t t.length/\0<t.length:=by
 have r:RightT t:=zeq.1 hr
 obtain⟨hl,hf,hpos⟩:=zff r.n
 have hs:=r.some
 refine⟨λx hx=>?_,?_,hpos⟩
 ·obtain⟨j,hj,rfl⟩:=List.mem_iff_getElem.1 hx
  rw[zh9 hj];exact(r.ok j hj).1
 ·unfold zf9 at hs
  rw[List.any_eq_true]at hs
  obtain⟨i,hi,hd⟩:=hs
  exact zxc (i:=i) (by have:=(of_decide_eq_true hd).1;omega) _ (List.mem_range.1 hi)
include ht hfit hr hb in
theorem zayb(hm:(zmu t).length<=1048576):bG 42 [nods t] (.r (.tu [bs (zmu t),Er 0])):=by
 refine zar (T:=Tab) mixed Tab_ok Tryz.func42 rfl (by kernel_rfl) ?_
 have c1:=zjx t (by omega) hfit
 rw[hr]at c1
 obtain⟨hra,he,hp⟩:=zvw t hr
 have hin:(trnB t).length<=20000*t.length:=zuf t hb _
 have hel:=ztn t t.length
 refine ze c1 ?_
 refine zw rfl (zt ?_)
 refine Vloop.mkx (λj:Nat=>⟨[(0, .r (nods t)),(4, .r (I j))],[],0⟩) (λj=>j<=t.length/\endN t t.length=endN t j) (λj=>j) t.length ⟨Nat.le_refl _,rfl⟩ (zac [] rfl ⟨cr,cr,trivial⟩ trivial) ?_
 rintro j ⟨hj,hje⟩
 have hj0:1<=j:=by
  rcases Nat.eq_zero_or_pos j with q |q
  ·rw[hje,q]at he;exact absurd he (Nat.lt_irrefl _)
  ·exact q
 refine zd (m:=((j-1:Nat):Int)) (by omega) (by omega) ?_
 refine zm (by omega) (by omega) (zbs (j:=j-1) (by omega) (by omega)) (zg rfl ?_)
 obtain⟨i,rfl⟩: ∃i,j=i+1:=⟨j-1,by omega⟩
 simp only[Nat.add_sub_cancel]
 refine zh (λh=>zq ?_) (λh=>zt ?_)
 ·simp only[zb]at h
  refine zd (m:=((i:Nat):Int)) (by omega) (by omega) ?_
  exact⟨i,⟨by omega,by rw[hje,zj8,if_pos (by omega)]⟩,by omega,zac [] rfl ⟨cr,cr,trivial⟩ trivial⟩
 simp only[zb]at h
 have hee:endN t t.length=i+1:=by rw[hje,zj8,if_neg (by omega)]
 have hI:trnB t=(t.take (i+1)).flatMap zak:=by unfold trnB;rw[hee]
 have htl:(t.take (i+1)).length=i+1:=by rw[List.length_take];omega
 refine⟨_,zo _,?_⟩
 refine⟨by omega,by omega,by omega,(t.take (i+1)).length,(t.take (i+1)).flatMap Node.c,by omega,by rw[show((0:Int).toNat*10)=0 from rfl,List.drop_zero,htl];exact zv4 (f:=Node.c) (sz:=10) (λ_=>rfl) t _,?_⟩
 obtain⟨u,hu⟩: ∃u,u=t.take (i+1):=⟨_,rfl⟩
 have hut: ∀x∈u,x∈t:=λx hx=>List.mem_of_mem_take (hu▸hx)
 rw[<-hu]at hI htl⊢
 refine Vloop.mkx (λj:Nat=>⟨[(5, .own 0),(27, .r (nods u)),(28, .r (I u.length)),(29, .r (I j))],[(0,some (.ch 5 1 ((u.take j).flatMap zak).length (((u.take j).flatMap zak).map U8) true))],1⟩) (λj=>j<=u.length) (λj=>u.length-j) 0 (by omega)
  ((zb7 5 5 1 rfl).trans (zac [(0,0)] rfl ⟨rfl,cr,cr,cr,trivial⟩ ⟨⟨rfl,rfl,rfl,rfl,zn _⟩,trivial⟩)) ?_
 clear h hj hje hj0
 intro j hj
 refine zh (λh=>zq ?_) (λh=>zt ?_)
 ·simp only[zb]at h
  have hj':j<u.length:=by omega
  have hmem:=zci hj'
  have hx:=hfit _ (hut _ hmem)
  have c2:=zfc (nT u j) hx
  rw[if_pos (hra _ (hut _ hmem))]at c2
  have h1:=hb _ (hut _ hmem)
  have h2:((u.take j).flatMap zak).length<=20000*u.length:=by
   have a:=zo2 (c:=20000) (u.take j) λx hx=>hb x (hut x (List.mem_of_mem_take hx))
   have b:(u.take j).length<=u.length:=by rw[List.length_take];omega
   have c:=Nat.mul_le_mul_left 20000 b
   omega
  have e:(u.take (j+1)).flatMap zak=(u.take j).flatMap zak++zak (nT u j):=by rw[List.take_succ_eq_append_getElem hj',zh9 hj',List.flatMap_append];simp
  refine zm (by omega) (by omega) (zbs rfl hj') ?_
  refine za rfl rfl ?_
  refine za rfl rfl ?_
  refine ze c2 ?_
  refine Vapp.mk' (j:=((u.take (j+1)).flatMap zak).length) (zs:=((u.take (j+1)).flatMap zak).map U8) (by simp only[maxLen];omega) (by show(((u.take j).flatMap zak).length+(zak (nT u j)).length)*1<=_;omega) (by rw[e,bL]) (by rw[e,List.map_append]) ?_
  refine zd (m:=((j+1:Nat):Int)) (by omega) (by omega) ?_
  exact⟨j+1,by omega,by omega,zac [(0,_)] rfl ⟨rfl,cr,cr,cr,trivial⟩ ⟨⟨rfl,rfl,rfl,rfl,zn _⟩,trivial⟩⟩
 simp only[zb]at h
 rw[List.take_of_length_le (by omega),<-hI]
 refine⟨_,zo _,?_⟩
 refine Vcall.mk' (zbv [] (trnB t) (by simp) (by omega)) (zk (Cv.nil 1) (zk (cr) Cvs.nil)) ?_
 rw[List.nil_append]
 change(vecB (trnB t)).length<=1048576 at hm
 refine zw (by simp only[zb];omega) (zt ?_)
 exact⟨_,zo _,_,rfl,cr⟩
include ht hfit hr hb in
theorem z58:bG 33 [nods t] (.r (bs (zmu t))):=by
 refine bT Tryz.func33 rfl ?_
 obtain⟨hra,he,hp⟩:=zvw t hr
 have hin:(trnB t).length<=20000*t.length:=zuf t hb _
 have hel:=ztn t t.length
 refine Vloop.mk' (λj:Nat=>⟨[(0, .r (nods t)),(3, .r (I ((endN t j-1:Nat):Int))),(4, .r (I j))],[],0⟩) (λj=>j<=t.length) (λj=>t.length-j) 0 (by omega) (zac [] rfl ⟨cr,cr,cr,trivial⟩ trivial) ?_
 intro j hj
 refine zh (λh=>zq ?_) (λh=>zt ?_)
 ·simp only[zb]at h
  have hj':j<t.length:=by omega
  refine zm (by omega) (by omega) (zbs rfl hj') (zg rfl ?_)
  refine zh (λh2=>zq ?_) (λh2=>zt ?_)
  ·simp only[zb]at h2
   refine zd (m:=((j+1:Nat):Int)) (by omega) (by omega) ?_
   have e:endN t (j+1)-1=j:=by rw[zj8,if_neg (by omega)];omega
   exact⟨j+1,by omega,by omega,zac [] rfl ⟨cr,zf (by rw[e]),cr,trivial⟩ trivial⟩
  ·simp only[zb]at h2
   refine zd (m:=((j+1:Nat):Int)) (by omega) (by omega) ?_
   have e:endN t (j+1)=endN t j:=by rw[zj8,if_pos (by omega)]
   exact⟨j+1,by omega,by omega,zac [] rfl ⟨cr,zf (by rw[e]),cr,trivial⟩ trivial⟩
 simp only[zb]at h
 obtain rfl:j=t.length:=by omega
 obtain⟨e,hee⟩: ∃e,e=endN t t.length:=⟨_,rfl⟩
 have hI:trnB t=(t.take e).flatMap zak:=by unfold trnB;rw[hee]
 rw[<-hee]at he hel⊢
 refine Vloop.mk' (λj:Nat=>⟨[(0, .r (nods t)),(3, .r (I ((e-1:Nat):Int))),(5, .own 0),(6, .r (I j))],[(0,some (.ch 5 1 ((t.take j).flatMap zak).length (((t.take j).flatMap zak).map U8) true))],1⟩) (λj=>j<=e) (λj=>e-j) 0 (by omega)
  ((zb7 5 5 1 rfl).trans (zac [(0,0)] rfl ⟨cr,cr,rfl,cr,trivial⟩ ⟨⟨rfl,rfl,rfl,rfl,zn _⟩,trivial⟩)) ?_
 clear h hj
 intro j hj
 have out:j=e->bG 59 [bs ((t.take j).flatMap zak)] (bch (zmu t)):=λq=>by
  rw[q,<-hI]
  exact zdm _ (by omega)
 refine zh (λh=>?_) (λh=>zt ?_)
 ·simp only[zb]at h
  have hj':j<t.length:=by omega
  refine zu (by simp only[zb];omega) (zq ?_)
  have hmem:=zci hj'
  have hx:=hfit _ hmem
  have hrr:=hra _ hmem
  have h1:=hb _ hmem
  have h2:=zuf t hb j
  have e':(t.take (j+1)).flatMap zak=(t.take j).flatMap zak++zak (nT t j):=by rw[List.take_succ_eq_append_getElem hj',zh9 hj',List.flatMap_append];simp
  refine zm (by omega) (by omega) (zbs rfl hj') ?_
  refine za rfl rfl ?_
  refine ze (zii _ hx (λ_=>Node.right_late hrr)) ?_
  refine Vapp.mk' (j:=((t.take (j+1)).flatMap zak).length) (zs:=((t.take (j+1)).flatMap zak).map U8) (by simp only[maxLen];omega) (by show(((t.take j).flatMap zak).length+(zak (nT t j)).length)*1<=_;omega) (by rw[e',bL]) (by rw[e',List.map_append]) ?_
  refine zd (m:=((j+1:Nat):Int)) (by omega) (by omega) ?_
  exact⟨j+1,by omega,by omega,zac [(0,_)] rfl ⟨cr,cr,rfl,cr,trivial⟩ ⟨⟨rfl,rfl,rfl,rfl,zn _⟩,trivial⟩⟩
 simp only[zb]at h
 refine ze (out (by omega)) ?_
 exact cr
end
theorem zfu(l:List UInt8):bG 10 [bs l,bs l] (.r (.b true)):=by
 have h:=zhn l l
 rw[decide_eq_true rfl]at h
 exact h
theorem zdxb(x:CtxP):bG 31 [.ag x.c, .ag x.c] (.r (.b true)):=by
 refine bT Tryz.func31 rfl ?_
 refine ze (zfu x.group) ?_
 refine zu (by simp only[zb]) ?_
 refine ze (zfu x.tree) ?_
 refine ze (zfu x.trans) ?_
 exact cr
abbrev epT(x:CtxP)(t:List Node):List RV:=[bs x.group, .i .u64 x.epoch,bs x.tree,bs x.trans,nods t]
abbrev mirT(x:CtxP)(t:List Node)(it:List UInt8):List RV:=[.sl 5 1 (epT x t),bs it,ns]
section
variable (x:CtxP) (t:List Node) (it:List UInt8) (hx:x.fit) {d:Nat} (k:TreeOk t d) (ht:t.length<=1000000) (hr:rightT t=true)
include hx k ht hr in
theorem z1k(he:x.tree=zas t d 0)(hi:it.length<=1000000):bG 9 [.ag x.c,bs it,nods t] (.r (.tu [.ptr (mirT x t it),Er 0])):=by
 refine zar (T:=Tab) mixed Tab_ok Tryz.func9 rfl (by kernel_rfl) ?_
 have c3:bG 27 [bs (zas t d 0),bs x.tree] (.r (.b true)):=by
  have:=zqr (zas t d 0) x.tree
  rw[decide_eq_true he.symm]at this
  exact this
 have c1:=z1i k ht hr
 generalize zas t d 0=g at c1 c3
 have c4:=zjw (zik (zdub t ht k.fit))
 refine ze c1 ?_
 refine zw rfl (zt ?_)
 refine ze c3 ?_
 refine zw rfl (zt ?_)
 refine za rfl rfl ?_
 refine ze (znq x hx) ?_
 refine ze c4 ?_
 refine zy ?_
 refine ze (zcj it (by omega)) ?_
 refine⟨_,Sub.trans (zac [(0,3)] (S':=⟨[(6, .own 0),(7, .r (Er 0))],[(0,some (.box ((mirT x t it).map TF.r)))],1⟩) rfl (by repeat' (first|exact rfl|exact trivial|exact cr|exact Cv.nil _|exact⟨rfl,rfl⟩|refine⟨_,_,rfl,?_,?_⟩|refine⟨?_,?_⟩)) (by repeat' (first|exact rfl|exact trivial|exact cr|exact Cv.nil _|exact⟨rfl,rfl⟩|refine⟨_,_,rfl,?_,?_⟩|refine⟨?_,?_⟩))) (zd7 (t:=6) (mirT x t it) rfl rfl),?_⟩
 exact⟨_,rfl,cr⟩
include k ht hr in
theorem zd2b(he:x.tree≠zas t d 0):bG 9 [.ag x.c,bs it,nods t] (.r (.tu [np,Er 17])):=by
 refine zar (T:=Tab) mixed Tab_ok Tryz.func9 rfl (by kernel_rfl) ?_
 have c3:bG 27 [bs (zas t d 0),bs x.tree] (.r (.b false)):=by
  have:=zqr (zas t d 0) x.tree
  rw[decide_eq_false (λh=>he h.symm)]at this
  exact this
 have c1:=z1i k ht hr
 generalize zas t d 0=g at c1 c3
 refine ze c1 ?_
 refine zw rfl (zt ?_)
 refine ze c3 ?_
 refine zu rfl (zq ?_)
 refine⟨_,zo _,?_⟩
 exact⟨_,rfl,cr⟩
theorem zd1b(hfit: ∀x∈t,x.fit)(ht:t.length<=1000000)(hb:rightT t=false):bG 9 [.ag x.c,bs it,nods t] (.r (.tu [np,Er 12])):=by
 refine zar (T:=Tab) mixed Tab_ok Tryz.func9 rfl (by kernel_rfl) ?_
 refine ze (z3u t ht hfit hb) ?_
 refine zu rfl (zq ?_)
 refine⟨_,zo _,?_⟩
 exact⟨_,rfl,cr⟩
theorem z1l:bG 49 [.ptr (mirT x t it)] (.r (.ag (epT x t))):=by
 refine bT Tryz.func49 rfl ?_
 refine bV ?_
 refine zg rfl ?_
 refine zg rfl ?_
 refine zd (m:=0) rfl (by decide) ?_
 refine zm i00 i01 rfl ?_
 refine za rfl rfl ?_
 refine za rfl rfl ?_
 exact cr
theorem zr3:bG 19 [.ptr (mirT x t it)] (.r (.tu [.i .u64 x.epoch, .i .u64 x.epoch])):=by
 refine bT Tryz.func19 rfl ?_
 refine Vfun.pn _ rfl rfl rfl Tryz.underlying31 (zt ?_)
 refine Vdraw.code (Vcode.float mixed Tab_ok 13 [⟨0,6, .r (.ptr (mirT x t it)),[]⟩,⟨1,7, .r (.ptr (mirT x t it)),[0]⟩,⟨2,8, .r (.ptr (mirT x t it)),[1]⟩,⟨3,9, .r (.sl 5 1 (epT x t)),[2]⟩,⟨4,10, .r (.ptr (epT x t)),[3]⟩,⟨5,11, .r (.ptr (epT x t)),[4]⟩,⟨6,12, .r (.ptr ((epT x t).drop 1)),[5]⟩,⟨7,13, .r (.i .u64 x.epoch),[6]⟩,⟨8,14, .r (.ptr (mirT x t it)),[]⟩,⟨9,15, .r (.ag (epT x t)),[8]⟩,⟨10,16, .r (.ag x.c),[9]⟩,⟨11,17, .r (.i .u64 x.epoch),[10]⟩,⟨12,2, .r (.i .u64 x.epoch),[7]⟩] [] (by kernel_rfl) (F:=[(0, .r (.ptr (mirT x t it)))]) (O:=[]) (nx:=0) (zac [] rfl ⟨cr,trivial⟩ trivial) ?_)
 refine⟨rfl,⟨λY=>zo _,λY=>zo _,λY=>zo _,λY=>zg rfl (zo _),λY=>zm i00 i01 rfl (zo _),λY=>zo _,λY=>zo _,λY=>zg rfl (zo _),λY=>zo _,λY=>ze (z1l x t it) (zo _),λY=>Vsem.fieldN Tab_ok rfl rfl rfl rfl rfl rfl rfl (Nat.le_of_ble_eq_true rfl) rfl (zo _),λY=>Vsem.field Tab_ok rfl rfl rfl rfl rfl rfl rfl rfl (zo _),λY=>zo _,trivial⟩,?_⟩
 exact⟨_,rfl,cr⟩
include hx in
theorem z0e:bG 32 [.ptr (mirT x t it)] (.r (.ag x.c)):=by
 refine bT Tryz.func32 rfl ?_
 refine Vfun.pn _ rfl rfl rfl Tryz.underlying31 (zt ?_)
 refine ze (z1l x t it) ?_
 refine Vsem.fieldN Tab_ok rfl rfl rfl rfl rfl rfl rfl (Nat.le_of_ble_eq_true rfl) rfl ?_
 refine ze (znq x hx) ?_
 refine za rfl rfl ?_
 exact cr
def atE(e n:Nat):Nat:=if e<n then 13 else if n<e then 18 else 0
include hx in
theorem z6y(n:Nat)(hn:n<18446744073709551616):bG 38 [.ptr (mirT x t it), .i .u64 n] (.r (.tu [I 0,Er (atE x.epoch n)])):=by
 have he:=hx.epoch
 refine bT Tryz.func38 rfl ?_
 refine ze (zr3 x t it) ?_
 refine Vfun.pn _ rfl rfl rfl Tryz.underlying31 (zt ?_)
 unfold atE
 refine zh (λh=>zq ?_) (λh=>zt ?_)
 ·simp only[zb]at h
  rw[if_pos (by omega)]
  exact⟨_,rfl,cr⟩
 simp only[zb]at h
 rw[if_neg (by omega)]
 refine zh (λh2=>zq ?_) (λh2=>zt ?_)
 ·simp only[zb]at h2
  rw[if_pos (by omega)]
  exact⟨_,rfl,cr⟩
 simp only[zb]at h2
 rw[if_neg (by omega)]
 refine Vint.u64 (n:=0) (by omega) (by decide) ?_
 refine zd (m:=0) rfl (by decide) ?_
 exact⟨_,rfl,cr⟩
end
def zjo(x:CtxP):Bool:=decide (x.group.length<=200)&&decide (x.tree.length<=200)&&decide (x.trans.length<=200)
theorem z7k(x:CtxP):bG 6 [.ag x.c] (.r (.b (zjo x))):=by
 refine bT Tryz.func6 rfl ?_
 refine zh (λh1=>?_) (λh1=>?_)
 rotate_left
 ·simp only[zb]at h1
  exact zf (congrArg RV.b (by unfold zjo;rw[decide_eq_false (show¬x.group.length<=200 by omega)];rfl))
 simp only[zb]at h1
 refine zh (λh2=>?_) (λh2=>?_)
 rotate_left
 ·simp only[zb]at h2
  exact zf (congrArg RV.b (by unfold zjo;rw[decide_eq_false (show¬x.tree.length<=200 by omega)];simp))
 simp only[zb]at h2
 refine Vcmp.mk' (m:=decide (x.trans.length<=200)) (by rw[Bool.eq_iff_iff];simp only[zb];omega) ?_
 exact zf (congrArg RV.b (by unfold zjo;rw[decide_eq_true (show x.group.length<=200 by omega),decide_eq_true (show x.tree.length<=200 by omega)];rfl))
structure TreeIn (t:List Node) (d:Nat):Prop where
 ok:TreeOk t d
 right:rightT t=true
 len:t.length<=40
 small: ∀x∈t,x.small=true
theorem z0n{n:Node}(hs:n.small=true):(zak n).length<=2000:=by
 simp only[Node.small,decide_eq_true_eq]at hs
 have h1:=zl5 n.leaf
 have h2:=zal n.par.box
 have h3:=zal n.par.hash
 have h4:=zal (zcl n.par.late)
 have h5:=zfx n.par.late
 unfold zl4 at h1
 unfold zak parB
 split
 ·rw[List.length_cons];omega
 ·split
  ·simp only[List.length_cons,bL];omega
  ·simp
section
variable {t:List Node} {d:Nat} (g:TreeIn t d)
include g
theorem TreeIn.d4:d<=4:=by
 have h:=g.ok.len
 have:=g.len
 rcases Nat.lt_or_ge d 5 with q |q
 ·omega
 ·have:=Nat.pow_le_pow_right (n:=2) (by omega) (show 6<=d+1 by omega)
  omega
theorem TreeIn.ht:t.length<=1000000:=by have:=g.len;omega
theorem TreeIn.b2: ∀n∈t,(zak n).length<=2000:=λn hn=>z0n (g.small n hn)
theorem TreeIn.late: ∀n∈t,n.par.late.length<=1000:=λn hn=>by
 have:=g.small n hn
 simp only[Node.small,decide_eq_true_eq]at this
 omega
theorem TreeIn.tree_le:(zmu t).length<=1048576:=by
 have h1:=zal (trnB t)
 have h2:=g.len
 have h3:(trnB t).length<=2000*(t.take (endN t t.length)).length:=zo2 _ λn hn=>g.b2 n (List.mem_of_mem_take hn)
 have h4:(t.take (endN t t.length)).length<=40:=by rw[List.length_take];omega
 unfold zmu
 omega
theorem TreeIn.member{i:Int}(hm:i∈zbh t): ∃o:Nat,i=(o:Int)/\o<2^d/\(nT t (2*o)).kind.toNat=1:=by
 obtain⟨o,rfl,h1,h2⟩:=zfp.1 hm
 have:=g.ok.len
 have e2:2^(d+1)=2*2^d:=by rw[Nat.pow_succ];omega
 exact⟨o,rfl,by omega,h2⟩
theorem TreeIn.slice_le{o:Nat}(ho:o<2^d):(sliceB t d o).length<=1048576/\(zoc t d o).length<=1048576:=
 ⟨(zkg (o:=o) (M:=cutB t ((2^d:Nat):Int) o) g.ok g.b2 g.d4 (zgq g.ok ho).1.2 1).2,(zkg (o:=o) (M:=zdr ((2^d:Nat):Int) o) g.ok g.b2 g.d4 (zud g.ok ho).1 2).2⟩
end
theorem z0d:bG 40 [bs [],Er 7] (.r (.tu [bs [],Er 7])):=by
 refine bT Tryz.func40 rfl ?_
 refine zu rfl (zq ?_)
 exact⟨_,rfl,Cv.tu (zk (Cv.nil 1) (zn _))⟩
section
variable {x:CtxP} {t:List Node} {it:List UInt8} {d:Nat} (hx:x.fit) (g:TreeIn t d)
include hx in
theorem zg5b(n:Nat)(hn:n<18446744073709551616)(h:n≠x.epoch): ∃c:Nat,(c=13\/c=18)/\atE x.epoch n=c/\bG 38 [.ptr (mirT x t it), .i .u64 n] (.r (.tu [I 0,Er c])):=by
 have c:=z6y x t it hx n hn
 refine⟨atE x.epoch n,?_,rfl,c⟩
 unfold atE
 split
 ·exact .inl rfl
 ·split
  ·exact .inr rfl
  ·omega
include hx in
theorem zk7:bG 38 [.ptr (mirT x t it), .i .u64 x.epoch] (.r (.tu [I 0,Er 0])):=by
 have c:=z6y x t it hx x.epoch hx.epoch
 have e:atE x.epoch x.epoch=0:=by unfold atE;rw[if_neg (Nat.lt_irrefl _),if_neg (Nat.lt_irrefl _)]
 rwa[e]at c
include hx in
theorem h_mX(n:Nat)(i:Int)(hn:n<18446744073709551616)(h:n≠x.epoch):
  bG 13 [.ptr (mirT x t it), .i .u64 n,I i] (.r (.tu [bs [],Er (atE x.epoch n)]))/\
  bG 14 [.ptr (mirT x t it), .i .u64 n] (.r (.tu [bs [],Er (atE x.epoch n)]))/\
  bG 15 [.ptr (mirT x t it), .i .u64 n,I i] (.r (.tu [bs [],Er (atE x.epoch n)]))/\
  bG 16 [.ptr (mirT x t it), .i .u64 n,I i] (.r (.tu [bs [],Er (atE x.epoch n)])):=by
 obtain⟨c,hc,he,c1⟩:=zg5b (t:=t) (it:=it) hx n hn h
 rw[he]
 refine⟨?_,?_,?_,?_⟩
 ·refine bT Tryz.func13 rfl ?_
  refine ze c1 ?_
  refine zu (by simp only[zb];omega) (zq ?_)
  exact⟨_,rfl,Cv.tu (zk (Cv.nil 1) (zn _))⟩
 ·refine bT Tryz.func14 rfl ?_
  refine ze c1 ?_
  refine zu (by simp only[zb];omega) (zq ?_)
  exact⟨_,rfl,Cv.tu (zk (Cv.nil 1) (zn _))⟩
 ·refine bT Tryz.func15 rfl ?_
  refine ze c1 ?_
  refine zu (by simp only[zb];omega) (zq ?_)
  exact⟨_,rfl,Cv.tu (zk (Cv.nil 1) (zn _))⟩
 ·refine bT Tryz.func16 rfl ?_
  refine ze c1 ?_
  refine zu (by simp only[zb];omega) (zq ?_)
  exact⟨_,rfl,Cv.tu (zk (Cv.nil 1) (zn _))⟩
include hx in
theorem znr(i:Int):bG 16 [.ptr (mirT x t it), .i .u64 x.epoch,I i] (.r (.tu [bs [],Er 18])):=by
 refine bT Tryz.func16 rfl ?_
 refine ze (zk7 hx) ?_
 refine zw rfl (zt ?_)
 refine zu rfl (zq ?_)
 exact⟨_,rfl,Cv.tu (zk (Cv.nil 1) (zn _))⟩
include hx g in
theorem zqt:bG 14 [.ptr (mirT x t it), .i .u64 x.epoch] (.r (.tu [bs (zmu t),Er 0])):=by
 refine bT Tryz.func14 rfl ?_
 refine ze (zk7 hx) ?_
 refine zw rfl (zt ?_)
 refine zg rfl ?_
 refine zm i00 i01 rfl ?_
 refine zg rfl ?_
 refine ze (zayb t (by have:=g.len;omega) g.ok.fit g.right (λn hn=>by have:=g.b2 n hn;omega) g.tree_le) ?_
 exact⟨_,rfl,cr⟩
include hx g in
theorem zu5(o:Nat)(ho:o<2^d)(hm:(o:Int)∈zbh t)(hk:(nT t (2*o)).kind.toNat=1):bG 13 [.ptr (mirT x t it), .i .u64 x.epoch,I o] (.r (.tu [bs (sliceB t d o),Er 0])):=by
 refine bT Tryz.func13 rfl ?_
 refine ze (zk7 hx) ?_
 refine zw rfl (zt ?_)
 refine zg rfl ?_
 refine zm i00 i01 rfl ?_
 refine zg rfl ?_
 refine ze (zd7b g.ok g.ht g.right ho hm) ?_
 refine zw rfl (zt ?_)
 refine za rfl rfl ?_
 refine ze (z7g g.ok ho g.b2 g.d4 hk) ?_
 refine ze (zlz _ (g.slice_le ho).1) ?_
 exact⟨_,rfl,cr⟩
include hx g in
theorem zr5(i:Int)(hm:i∉zbh t):bG 13 [.ptr (mirT x t it), .i .u64 x.epoch,I i] (.r (.tu [bs [],Er 7])):=by
 refine bT Tryz.func13 rfl ?_
 refine ze (zk7 hx) ?_
 refine zw rfl (zt ?_)
 refine zg rfl ?_
 refine zm i00 i01 rfl ?_
 refine zg rfl ?_
 refine ze (zasb g.ok g.ht g.right i hm) ?_
 refine zu rfl (zq ?_)
 exact⟨_,rfl,Cv.tu (zk (Cv.nil 1) (zn _))⟩
include hx g in
theorem zu4(o:Nat)(ho:o<2^d)(hm:(o:Int)∈zbh t):bG 15 [.ptr (mirT x t it), .i .u64 x.epoch,I o] (.r (.tu [bs (zoc t d o),Er 0])):=by
 refine bT Tryz.func15 rfl ?_
 refine ze (zk7 hx) ?_
 refine zw rfl (zt ?_)
 refine zg rfl ?_
 refine zm i00 i01 rfl ?_
 refine zg rfl ?_
 refine ze (z7l g.ok g.ht g.right ho hm g.b2 g.d4) ?_
 refine ze (zlz _ (g.slice_le ho).2) ?_
 exact⟨_,rfl,cr⟩
include hx g in
theorem zr4(i:Int)(hm:i∉zbh t):bG 15 [.ptr (mirT x t it), .i .u64 x.epoch,I i] (.r (.tu [bs [],Er 7])):=by
 refine bT Tryz.func15 rfl ?_
 refine ze (zk7 hx) ?_
 refine zw rfl (zt ?_)
 refine zg rfl ?_
 refine zm i00 i01 rfl ?_
 refine zg rfl ?_
 refine ze (z38 g.ok g.ht g.right i hm) ?_
 refine ze z0d ?_
 exact⟨_,rfl,cr⟩
abbrev modR(x:CtxP)(t:List Node):List RV:=[.sl 4 1 x.c, .sl 1 1 [nods t],ns,ns]
set_option maxHeartbeats 2000000 in
include hx g in
theorem zno(i:Int):bG 12 [.ptr (modR x t), .ptr (mirT x t it),I 0,I i] (.r (.b true)):=by
 refine bT Tryz.func12 rfl ?_
 refine zg rfl ?_
 refine zm i00 i01 rfl ?_
 refine zg rfl ?_
 refine zg rfl ?_
 refine zm i00 i01 rfl ?_
 refine zg rfl ?_
 have c4:=zqt (it:=it) hx g
 have c5:=z58 t (by have:=g.len;omega) g.ok.fit g.right (λn hn=>by have:=g.b2 n hn;omega)
 have c6:=zgrb t i g.ht
 have c2:=znr (t:=t) (it:=it) hx i
 by_cases hm:i∈zbh t
 ·rw[decide_eq_true hm]at c6
  obtain⟨o,rfl,ho,hk⟩:=g.member hm
  refine ze (zu5 hx g o ho hm hk) ?_
  refine ze c2 ?_
  refine ze (zu4 hx g o ho hm) ?_
  refine ze c4 ?_
  refine zd (m:=0) rfl (by decide) ?_
  refine zw rfl ?_
  refine ze c5 ?_
  refine ze (zfu _) ?_
  refine zw rfl (zt ?_)
  refine ze c6 ?_
  refine zw rfl ?_
  refine zw rfl (zt ?_)
  refine zd (m:=0) rfl (by decide) ?_
  refine zw rfl ?_
  refine zd (m:=0) rfl (by decide) ?_
  refine zw rfl ?_
  refine ze (zgpb g.ok ho g.late) ?_
  refine ze (z96 g.ok ho g.b2) ?_
  refine ze (zfu _) ?_
  refine zw rfl ?_
  refine ze (zdhb g.ok ho) ?_
  refine ze (z91 g.ok ho g.b2) ?_
  refine ze (zfu _) ?_
  refine zw rfl (zt ?_)
  refine zu rfl (zq ?_)
  refine zd (m:=18) rfl (by decide) ?_
  refine zu rfl ?_
  refine zu rfl ?_
  exact cr
 ·rw[decide_eq_false hm]at c6
  refine ze (zr5 hx g i hm) ?_
  refine ze c2 ?_
  refine ze (zr4 hx g i hm) ?_
  refine ze c4 ?_
  refine zd (m:=0) rfl (by decide) ?_
  refine zw rfl ?_
  refine ze c5 ?_
  refine ze (zfu _) ?_
  refine zw rfl (zt ?_)
  refine ze c6 ?_
  refine zw rfl ?_
  refine zu rfl (zq ?_)
  refine zd (m:=7) rfl (by decide) ?_
  refine zw rfl ?_
  refine zd (m:=7) rfl (by decide) ?_
  refine zw rfl ?_
  refine zd (m:=0) rfl (by decide) ?_
  refine zw rfl (zt ?_)
  refine zu rfl (zq ?_)
  refine zd (m:=18) rfl (by decide) ?_
  refine zu rfl ?_
  refine zu rfl ?_
  exact cr
end
end Go.Proofs.YtoegdgbghdnnfaaGreat.Sx
