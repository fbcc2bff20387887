import Derived.Test.YtpdllgbfemnemaaGreatZSxW
import Derived.Test.YtpdllgbfemnemaaGreatZWireC
import Derived.Test.YtpdllgbfemnemaaGreatZWalkR14C
import Derived.Test.YtpdllgbfemnemaaGreatZShaC
namespace Go.Proofs.YtpdllgbfemnemaaGreat.Sx
open Go.RowKit
section
theorem zpi(n:Int):zaf Tryz.prog 54 [I n] (.r (.b (za0 n))):=
 zi8 (us:=[.int .i64 n]) (u:= .bool (za0 n)) (za8 Tryz.func54 rfl (by kernel_rfl)) (λ_ _ _ h=>zrj h) (λ_ _=>by simp[RV.at_]) λw=>zi6 n w
theorem z2y(x:Int):zaf Tryz.prog 137 [I x] (.r (I (lvI x))):=
 zi8 (us:=[.int .i64 x]) (u:= .int .i64 (lvI x)) (za8 Tryz.func137 rfl (by kernel_rfl)) (λ_ _ _ h=>zrj h) (λ_ _=>by simp[RV.at_]) λw=>zj9 x w
theorem zii(x:Int):zaf Tryz.prog 90 [I x] (.r (I (zbj x))):=
 zi8 (us:=[.int .i64 x]) (u:= .int .i64 (zbj x)) (za8 Tryz.func90 rfl (by kernel_rfl)) (λ_ _ _ h=>zrj h) (λ_ _=>by simp[RV.at_]) λw=>z1t x w
theorem zg5(x:Int):zaf Tryz.prog 91 [I x] (.r (I (zbi x))):=
 zi8 (us:=[.int .i64 x]) (u:= .int .i64 (zbi x)) (za8 Tryz.func91 rfl (by kernel_rfl)) (λ_ _ _ h=>zrj h) (λ_ _=>by simp[RV.at_]) λw=>zyb x w
theorem zvn(n:Int):zaf Tryz.prog 53 [I n] (.r (I (zgu n))):=
 zi8 (us:=[.int .i64 n]) (u:= .int .i64 (zgu n)) (za8 Tryz.func53 rfl (by kernel_rfl)) (λ_ _ _ h=>zrj h) (λ_ _=>by simp[RV.at_]) λw=>zajb n w
theorem zi9(x y:Int):zaf Tryz.prog 98 [I x,I y] (.r (.b (zal x y))):=
 zi8 (us:=[.int .i64 x, .int .i64 y]) (u:= .bool (zal x y)) (za8 Tryz.func98 rfl (by kernel_rfl)) (λ_ _ _ h=>zkr h) (λ_ _=>by simp[RV.at_]) λw=>z78 x y w
theorem z9j(x n:Int):zaf Tryz.prog 99 [I x,I n] (.r (I (sibI x n))):=
 zlz (us:=[.int .i64 x, .int .i64 n]) (u:= .int .i64 (sibI x n)) (za8 Tryz.func99 rfl (by kernel_rfl)) (λ_ _ _ h=>zkr h) (λ_ _=>by simp[RV.at_]) λw=>(zsk x n w).mono λ_ _ ⟨he,hx⟩=>⟨_,he,hx,rfl⟩
theorem zj5(x y:Int):zaf Tryz.prog 45 [I x,I y] (.r (.b (zal x y))):=
 zlz (us:=[.int .i64 x, .int .i64 y]) (u:= .bool (zal x y)) (za8 Tryz.func45 rfl (by kernel_rfl)) (λ_ _ _ h=>zkr h) (λ_ _=>by simp[RV.at_]) λw=>z0t x y w
theorem zgq(x:Int):zaf Tryz.prog 49 [I x] (.r (.tu [I (zbj x),I (zbi x)])):=
 zlz (us:=[.int .i64 x]) (u:= .tuple #[.int .i64 (zbj x), .int .i64 (zbi x)]) (za8 Tryz.func49 rfl (by kernel_rfl)) (λ_ _ _ h=>zrj h) (λ_ _=>by simp[RV.at_,RV.partsAt]) λw=>zlu x w
theorem zun(x n:Int):zaf Tryz.prog 55 [I x,I n] (ich (za4 x n)):=
 zb1 (za8 Tryz.func55 rfl (by kernel_rfl)) λw k vs hp=>by
  rw[zkr hp]
  exact(z0r x n w).mono λ_ _ ⟨v,he,hx,_,hv⟩=>⟨v,he,hx,zqp hv⟩
theorem zatb(x n:Int):zaf Tryz.prog 57 [I x,I n] (ich (zau x n)):=
 zb1 (za8 Tryz.func57 rfl (by kernel_rfl)) λw k vs hp=>by
  rw[zkr hp]
  exact(z65 x n w).mono λ_ _ ⟨v,he,hx,_,hv⟩=>⟨v,he,hx,zqp hv⟩
theorem zsy(x n:Int):zaf Tryz.prog 46 [I x,I n] (ich (za4 x n)):=
 zb1 (za8 Tryz.func46 rfl (by kernel_rfl)) λw k vs hp=>by
  rw[zkr hp]
  exact(z2j x n w).mono λ_ _ ⟨v,he,hx,_,hv⟩=>⟨v,he,hx,zqp hv⟩
theorem zvd(x n:Int):zaf Tryz.prog 33 [I x,I n] (ich (zau x n)):=
 zb1 (za8 Tryz.func33 rfl (by kernel_rfl)) λw k vs hp=>by
  rw[zkr hp]
  exact(zyh x n w).mono λ_ _ ⟨v,he,hx,_,hv⟩=>⟨v,he,hx,zqp hv⟩
theorem za4b(l m:List Int)(hl: ∀x∈l,i64 x)(hm: ∀x∈m,i64 x):zaf Tryz.prog 21 [is l,is m] (.r (.b (decide (l=m)))):=
 zb1 (za8 Tryz.func21 rfl (by kernel_rfl)) λw k vs hp=>by
  obtain⟨a,b,rfl,h1,h2⟩:=zim hp
  obtain⟨p,rfl,hp1⟩:=z6j hl h1
  obtain⟨q,rfl,hq1⟩:=z6j hm h2
  exact(z2g p q l m w hp1 hq1).mono λ_ _ ⟨v,he,hx,hv⟩=>⟨v,he,hx,k,λ_ _=>rfl,by simp only[Res.at_,RV.at_];exact hv⟩
theorem zho(l m:List UInt8):zaf Tryz.prog 19 [bs l,bs m] (.r (.b (decide (l=m)))):=
 zb1 (za8 Tryz.func19 rfl (by kernel_rfl)) λw k vs hp=>by
  obtain⟨a,b,rfl,h1,h2⟩:=zim hp
  obtain⟨p,rfl,hp1⟩:=zfv h1
  obtain⟨q,rfl,hq1⟩:=zfv h2
  exact(z2o p q l m w hp1 hq1).mono λ_ _ ⟨v,he,hx,hv⟩=>⟨v,he,hx,k,λ_ _=>rfl,by simp only[Res.at_,RV.at_];exact hv⟩
theorem zfe(l:List UInt8)(hl:l.length<=8000000000000):zaf Tryz.prog 87 [bs l] (bch l):=
 zb1 (za8 Tryz.func87 rfl (by kernel_rfl)) λw k vs hp=>by
  obtain⟨a,rfl,h1⟩:=zhe hp
  obtain⟨p,rfl,hp1⟩:=zfv h1
  exact(zvc p l w hp1 hl).mono λ_ _ ⟨v,he,hx,_,hv⟩=>⟨v,he,hx,zio hv⟩
theorem zdr(l m:List UInt8)(hl:l.length<=1000000000000)(hm:m.length<=1000000000000):zaf Tryz.prog 160 [bs l,bs m] (bch (l++m)):=
 zb1 (za8 Tryz.func160 rfl (by kernel_rfl)) λw k vs hp=>by
  obtain⟨a,b,rfl,h1,h2⟩:=zim hp
  obtain⟨p,rfl,hp1⟩:=zfv h1
  obtain⟨q,rfl,hq1⟩:=zfv h2
  exact(zc1b p q l m w hp1 hq1 hl hm).mono λ_ _ ⟨v,he,hx,_,hv⟩=>⟨v,he,hx,zio hv⟩
theorem zd8(l m:List UInt8)(hl:l.length<=1000000000000)(hm:m.length<=1000000000000):zaf Tryz.prog 77 [bs l,bs m] (bch (l++m)):=
 zb1 (za8 Tryz.func77 rfl (by kernel_rfl)) λw k vs hp=>by
  obtain⟨a,b,rfl,h1,h2⟩:=zim hp
  obtain⟨p,rfl,hp1⟩:=zfv h1
  obtain⟨q,rfl,hq1⟩:=zfv h2
  exact(zdnb p q l m w hp1 hq1 hl hm).mono λ_ _ ⟨v,he,hx,_,hv⟩=>⟨v,he,hx,zio hv⟩
theorem zsv(l:List UInt8)(size m:Nat)(hl:l.length<=1000000000000)(hs:size=1\/size=2\/size=4\/size=8):zaf Tryz.prog 129 [bs l,I size, .i .u64 m] (bch (l++beB size m)):=
 zb1 (za8 Tryz.func129 rfl (by kernel_rfl)) λw k vs hp=>by
  obtain⟨a,b,c,rfl,h1,h2,h3⟩:=zfsb hp
  obtain⟨p,rfl,hp1⟩:=zfv h1
  simp only[RV.at_]at h2 h3
  subst h2;subst h3
  exact(zkp p l size m w hp1 hl hs).mono λ_ _ ⟨v,he,hx,_,hv⟩=>⟨v,he,hx,zio hv⟩
theorem zd9(l m:List UInt8)(hl:l.length<=1000000000000)(hm:m.length<=1073741823):zaf Tryz.prog 130 [bs l,bs m] (bch (l++vecB m)):=
 zb1 (za8 Tryz.func130 rfl (by kernel_rfl)) λw k vs hp=>by
  obtain⟨a,b,rfl,h1,h2⟩:=zim hp
  obtain⟨p,rfl,hp1⟩:=zfv h1
  obtain⟨q,rfl,hq1⟩:=zfv h2
  exact(z5x p q l m w hp1 hq1 hl hm).mono λ_ _ ⟨v,he,hx,_,hv⟩=>⟨v,he,hx,zio hv⟩
theorem zec(m:List UInt8)(hm:m.length<=1073741823):zaf Tryz.prog 128 [bs m] (bch (vecB m)):=
 zb1 (za8 Tryz.func128 rfl (by kernel_rfl)) λw k vs hp=>by
  obtain⟨b,rfl,h2⟩:=zhe hp
  obtain⟨q,rfl,hq1⟩:=zfv h2
  exact(z68 q m w hq1 hm).mono λ_ _ ⟨v,he,hx,_,hv⟩=>⟨v,he,hx,zio hv⟩
theorem zk0(size m:Nat)(hs:size<=8)(hm:m<18446744073709551616):zaf Tryz.prog 78 [I size, .i .u64 m] (bch (beB size m)):=
 zb1 (za8 Tryz.func78 rfl (by kernel_rfl)) λw k vs hp=>by
  obtain⟨b,c,rfl,h2,h3⟩:=zim hp
  simp only[RV.at_]at h2 h3
  subst h2;subst h3
  exact(z5c size m w hs hm).mono λ_ _ ⟨v,he,hx,_,hv⟩=>⟨v,he,hx,zio hv⟩
end
section
theorem Vcall.bool{P:Program}{f:FuncId}{vs:List RV}{K:Res->Prop}{β:Bool}(hg:zaf P f vs (.r (.b β)))(ht:β=true->K (.r (.b true)))(hf:β=false->K (.r (.b false))):Vcall P f vs K:=by
 cases β
 ·exact ze hg (hf rfl)
 ·exact ze hg (ht rfl)
def Leaf.right(l:Leaf):Bool:=decide (l.box.length=32/\l.sign.length=32/\0<l.ident.length/\l.ident.length<=64/\0<l.src.toNat/\l.src.toNat<4/\(l.parent.length=0\/l.src.toNat=3/\l.parent.length=32)/\l.sig.length=64)
theorem z7o(l:Leaf):zaf Tryz.prog 83 [.ag l.c] (.r (.b l.right)):=by
 refine zac (T:=Tab) mixed Tab_ok Tryz.func83 rfl (by kernel_rfl) ?_
 (repeat' (first |refine zh (λh=>?_) (λh=>?_) |refine zf ?_ |refine zq ?_ |refine zt ?_))
 all_goals refine congrArg RV.b (Eq.symm ?_)
 all_goals simp only[Leaf.right,zb]at*
 all_goals omega
theorem z5q(a b:Leaf):zaf Tryz.prog 109 [.ag a.c, .ag b.c] (.r (.b (decide (a=b)))):=by
 refine zac (T:=Tab) mixed Tab_ok Tryz.func109 rfl (by kernel_rfl) ?_
 obtain⟨a1,a2,a3,a4,a5,a6⟩:=a
 obtain⟨b1,b2,b3,b4,b5,b6⟩:=b
 repeat' (first |refine Vcall.bool (zho _ _) (λh=>?_) (λh=>?_) |refine zh (λh=>?_) (λh=>?_) |refine zf ?_)
 all_goals simp only[zb,Int.natCast_inj,UInt8.toNat_inj]at*
 all_goals simp_all [ofC]
theorem zs0(a b:Node)(ha: ∀x∈a.par.late,i64 x)(hb: ∀x∈b.par.late,i64 x):zaf Tryz.prog 64 [.ag a.c, .ag b.c] (.r (.b (decide (a=b)))):=by
 refine zac (T:=Tab) mixed Tab_ok Tryz.func64 rfl (by kernel_rfl) ?_
 obtain⟨a1,a2,a3⟩:=a
 obtain⟨b1,b2,b3⟩:=b
 refine zh (λh1=>?_) (λh1=>?_)
 ·refine za rfl rfl ?_
  refine za rfl rfl ?_
  refine Vcall.bool (z5q a2 b2) (λh2=>?_) (λh2=>?_)
  ·refine Vcall.bool (zho _ _) (λh3=>?_) (λh3=>?_)
   ·refine Vcall.bool (zho _ _) (λh4=>?_) (λh4=>?_)
    ·refine Vcall.bool (za4b _ _ ha hb) (λh5=>?_) (λh5=>?_)
     ·refine zf ?_
      simp only[zb,Int.natCast_inj,UInt8.toNat_inj]at*
      obtain⟨_,_,_⟩:=a3
      obtain⟨_,_,_⟩:=b3
      simp_all [ofC]
     ·refine zf ?_
      simp only[zb,Int.natCast_inj,UInt8.toNat_inj]at*
      simp[ofC]
      intro _ _ e;exact h5 (by rw[e])
    ·refine zf ?_
     simp only[zb,Int.natCast_inj,UInt8.toNat_inj]at*
     simp[ofC]
     intro _ _ e;exact h4 (by rw[e])
   ·refine zf ?_
    simp only[zb,Int.natCast_inj,UInt8.toNat_inj]at*
    simp[ofC]
    intro _ _ e;exact h3 (by rw[e])
  ·refine zf ?_
   simp only[zb,Int.natCast_inj,UInt8.toNat_inj]at*
   simp[ofC,h2]
 ·refine zf ?_
  simp only[zb,Int.natCast_inj,UInt8.toNat_inj]at*
  simp[ofC,h1]
end
section
theorem zax{ρ:List (Nat×Nat)}{S:St}(v:RV):cvTF ρ S (.r v) (.r v):=by
 cases v<;>first |trivial |exact cr
theorem zab{ρ:List (Nat×Nat)}{S:St}: ∀l:List RV,zh5 ρ S (l.map .r) (l.map .r)
 |[]=>rfl
 |v::r=>⟨_,_,rfl,zax v,zab r⟩
def Leaf.fit(l:Leaf):Prop:=l.box.length<=1000000000/\l.sign.length<=1000000000/\l.ident.length<=1000000000/\l.parent.length<=1000000000/\l.sig.length<=1000000000
def Par.fit(p:Par):Prop:=p.box.length<=1000000000/\p.hash.length<=1000000000/\p.late.length<=100000000/\∀x∈p.late,i64 x
def zfh:Int->List Int->Bool
 |_,[]=>true
 |last,x::r=>decide (last<x/\x<65536)&&zfh x r
def Par.right(p:Par):Bool:=zfh (-1) p.late&&decide (p.box.length=32/\(p.hash.length=0\/p.hash.length=32))
def Leaf.none(l:Leaf):Bool:=decide (l.src.toNat=0/\l.box.length=0/\l.sign.length=0/\l.ident.length=0/\l.parent.length=0/\l.sig.length=0)
def Par.none(p:Par):Bool:=decide (p.box.length=0/\p.hash.length=0/\p.late.length=0)
theorem z0b(l:Leaf)(hl:l.fit):zaf Tryz.prog 172 [.ag l.c] (.r (.b l.none)):=by
 refine zac (T:=Tab) mixed Tab_ok Tryz.func172 rfl (by kernel_rfl) ?_
 obtain⟨h1,h2,h3,h4,h5⟩:=hl
 refine zh (λh=>?_) (λh=>?_)
 ·refine zd rfl (by omega) ?_
  refine zd rfl (by omega) ?_
  refine zd rfl (by omega) ?_
  refine zd rfl (by omega) ?_
  refine Vcmp.mk' rfl (zf (congrArg RV.b ?_))
  simp only[Leaf.none,zb]at*
  rw[Bool.eq_iff_iff]
  simp only[zb]at*
  omega
 ·refine zf (congrArg RV.b ?_)
  simp only[Leaf.none,zb]at*
  rw[eq_comm]
  simp only[zb]at*
  omega
theorem z3x(p:Par)(hp:p.fit):zaf Tryz.prog 173 [.ag p.c] (.r (.b p.none)):=by
 refine zac (T:=Tab) mixed Tab_ok Tryz.func173 rfl (by kernel_rfl) ?_
 obtain⟨h1,h2,h3,_⟩:=hp
 refine zd rfl (by omega) ?_
 refine zd rfl (by omega) ?_
 refine Vcmp.mk' rfl (zf (congrArg RV.b ?_))
 simp only[Par.none,zb]at*
 rw[Bool.eq_iff_iff]
 simp only[zb]at*
 omega
theorem zwl(l:Leaf):zaf Tryz.prog 174 [.ag l.c] (.r (.b l.right)):=by
 refine zac (T:=Tab) mixed Tab_ok Tryz.func174 rfl (by kernel_rfl) ?_
 (repeat' (first |refine zh (λh=>?_) (λh=>?_) |refine zf ?_ |refine zq ?_ |refine zt ?_))
 all_goals refine congrArg RV.b (Eq.symm ?_)
 all_goals simp only[Leaf.right,zb]at*
 all_goals omega
theorem z7u(p:Par)(hp:p.fit):zaf Tryz.prog 175 [.ag p.c] (.r (.b p.right)):=by
 refine zac (T:=Tab) mixed Tab_ok Tryz.func175 rfl (by kernel_rfl) ?_
 obtain⟨hp1,hp2,hp3,hp4⟩:=hp
 refine zy (λi:Nat×Int=>{F:=[(1, .own 0),(2, .r (.b false)),(3, .r (I i.2)),(7, .r (is p.late)),(8, .r (I p.late.length)),(9, .r (I i.1))],O:=[(0,some (.box (p.c.map .r)))],nx:=1})
  (λi=>i.1<=p.late.length/\zfh (-1) p.late=zfh i.2 (p.late.drop i.1)) (λi=>p.late.length-i.1) (0, -1) ⟨by simp,by simp⟩ (zad [(0,0)] rfl ⟨rfl,cr,cr,cr,cr,cr,trivial⟩ ⟨zab _,trivial⟩) ?_
 rintro⟨j,last⟩ ⟨hj,hlate⟩
 simp only at hj hlate
 refine zh (λh=>zq ?_) (λh=>zt ?_)
 ·simp only[zb]at h
  have hj':j<p.late.length:=by omega
  have hx:=hp4 _ (List.getElem_mem hj')
  rw[List.drop_eq_getElem_cons hj']at hlate
  simp only[zfh]at hlate
  refine zm (by omega) (by omega) (zai rfl hj') (zg rfl ?_)
  refine zh (λh1=>?_) (λh1=>?_)
  ·simp only[zb]at h1
   refine zq (zf (congrArg RV.b (Eq.symm ?_)))
   have: ¬(last<p.late[j]/\p.late[j]<65536):=by omega
   simp[Par.right,hlate,this]
  ·refine zh (λh2=>?_) (λh2=>?_)
   ·simp only[zb]at h2
    refine zq (zf (congrArg RV.b (Eq.symm ?_)))
    have: ¬(last<p.late[j]/\p.late[j]<65536):=by omega
    simp[Par.right,hlate,this]
   ·simp only[zb]at h1 h2
    refine zt ?_
    refine zd (m:=((j+1:Nat):Int)) (by omega) (by omega) ?_
    have:last<p.late[j]/\p.late[j]<65536:=by omega
    rw[decide_eq_true this,Bool.true_and]at hlate
    exact⟨(j+1,p.late[j]),⟨by simp only;omega,hlate⟩,by simp only;omega,zad [(0,0)] rfl ⟨rfl,cr,cr,cr,cr,cr,trivial⟩ ⟨zab _,trivial⟩⟩
 ·simp only[zb]at h
  have:p.late.drop j=[]:=List.drop_eq_nil_of_le (by omega)
  rw[this]at hlate
  simp only[zfh]at hlate
  (repeat' (first |refine zh (λh=>?_) (λh=>?_) |refine zf ?_ |refine zq ?_ |refine zt ?_))
  all_goals refine congrArg RV.b (Eq.symm ?_)
  all_goals simp only[Par.right,hlate,Bool.true_and,zb]at*
  all_goals omega
end
end Go.Proofs.YtpdllgbfemnemaaGreat.Sx
