import Derived.Test.YtkegaaonpekkgaaGreatZFu
import Derived.ChangeKeysEq
import Derived.Test.YtkegaaonpekkgaaGreatZFb
import Derived.Test.YtkegaaonpekkgaaGreatZSxU
import Derived.Test.YtkegaaonpekkgaaGreatZSxSt
import Derived.Test.YtkegaaonpekkgaaGreatZTc
import Derived.Test.YtkegaaonpekkgaaGreatZKb
import Derived.Test.YtkegaaonpekkgaaGreatZGeoB
import Derived.Laws.BytesArg
import Derived.Lib.Bytes
namespace Go.Proofs.YtkegaaonpekkgaaGreat.Sx
open Go.RowKit
abbrev u64v(x:UInt64):Value:= .int .u64 (x.toNat:Int)
def feV(x:Fe):Array Value:= #[u64v x.a,u64v x.b,u64v x.c,u64v x.d,u64v x.e]
def feEq(x y:Fe):Bool:=decide (x.a=y.a/\x.b=y.b/\x.c=y.c/\x.d=y.d/\x.e=y.e)
theorem z4z{x:Fe}{w:World}{k:Kp}{v:Value}(h:(RV.ag x.v).at_ w k v):v= .agg (feV x):=by
 simp only[RV.at_]at h
 obtain⟨us,rfl,hl⟩:=h
 simp only[RV.listAt,RV.at_]at hl
 congr 1
 apply Array.ext'
 obtain⟨u0,r0,e0,_,rfl,u1,r1,e1,_,rfl,u2,r2,e2,_,rfl,u3,r3,e3,_,rfl,u4,r4,e4,_,rfl,e5⟩:=hl
 subst e5 e4 e3 e2 e1
 exact e0
theorem zp4:Tryz.prog.underlying 180=some (.struct (Tryz.prog.fieldsOf 180)):=by kernel_rfl
theorem z00(x:Fe)(w:World):(part 178 (feV x) 0).run aP w= .ok (.agg (feV x)) w:=by
 have hagg:(isAgg 178).run aP w= .ok true w:=by
  unfold isAgg
  rw[Sem.run_bind,run_underlying (show Tryz.prog.underlying 178=some (.array 5 43)by kernel_rfl) w]
  rfl
 obtain⟨q,hq⟩:=Tab_ok.get (show tget Tab 178=some _ from rfl)
 have hsize:=za9 (w:=w) q hq
 simp only[part,Sem.run_bind,hagg,Result.andThen_ok,if_true,hsize,Sem.run_pure]
 rfl
theorem z7m(x:Fe)(i:Nat)(v:Value)(w:World)(h:(feV x)[i]?=some v):(part 43 (feV x) i).run aP w= .ok v w:=by
 have hagg:(isAgg 43).run aP w= .ok false w:=by
  unfold isAgg
  rw[Sem.run_bind,run_underlying (show Tryz.prog.underlying 43=some (.int .u64)by kernel_rfl) w]
  rfl
 simp only[part,Sem.run_bind,hagg,Result.andThen_ok,h]
 simp
theorem zve(x y:Fe)(w:World)(d:Nat): ∀is:List Nat,(∀i∈is,i<5)->∃r:Bool,(Op.eqItems (d+1) 43 1 (feV x) (feV y) is).run aP w= .ok r w/\(r=true↔∀i∈is,(feV x)[i]?=(feV y)[i]?)
 |[],_=>⟨true,by simp[Op.eqItems],by simp⟩
 |i::is,h=>by
  obtain⟨r,ih,hr⟩:=zve x y w d is λj hj=>h j (List.mem_cons_of_mem _ hj)
  have hi:=h i (List.mem_cons_self ..)
  have hx: ∃a:UInt64,(feV x)[i]?=some (u64v a):=by
   have:i=0\/i=1\/i=2\/i=3\/i=4:=by omega
   rcases this with rfl |rfl |rfl |rfl |rfl<;>exact⟨_,rfl⟩
  have hy: ∃a:UInt64,(feV y)[i]?=some (u64v a):=by
   have:i=0\/i=1\/i=2\/i=3\/i=4:=by omega
   rcases this with rfl |rfl |rfl |rfl |rfl<;>exact⟨_,rfl⟩
  obtain⟨a,ha⟩:=hx
  obtain⟨b,hb⟩:=hy
  simp only[Op.eqItems,Sem.run_bind,Nat.mul_one,z7m x i _ w ha,z7m y i _ w hb,Result.andThen_ok,run_equalIn_int w d 43 .u64 .u64 _ _ (show Tryz.prog.underlying 43=some (.int .u64)by kernel_rfl)]
  by_cases hab:(a.toNat:Int)=(b.toNat:Int)
  ·have e:(feV x)[i]?=(feV y)[i]?:=by rw[ha,hb,u64v,u64v,hab]
   exact⟨r,by simp[hab,ih],by rw[hr];simp[e]⟩
  ·have e: ¬(feV x)[i]?=(feV y)[i]?:=by
    rw[ha,hb]
    intro e
    injection e with e
    injection e with _ e
    exact hab e
   exact⟨false,by simp[hab],by simp[e]⟩
theorem zf6b(x y:Fe)(w:World)(dd:Nat):(Op.equalIn (dd+2) 178 (.agg (feV x)) (.agg (feV y))).run aP w= .ok (feEq x y) w:=by
 obtain⟨r,hr,hiff⟩:=zve x y w dd (List.range 5) (λi hi=>List.mem_range.1 hi)
 have hi: ∃i,Tryz.prog.info? 43=some i:=by
  obtain⟨q,hq⟩:=Tab_ok.get (show tget Tab 43=some _ from rfl)
  obtain⟨i,hi,_⟩:=q.info
  rw[hq]at hi
  exact⟨i,hi⟩
 obtain⟨i,hi⟩:=hi
 have harr:=run_equalIn_array (P:=Tryz.prog) w (dd+1) (feV x) (feV y) (show Tryz.prog.underlying 178=some (.array 5 43)by kernel_rfl) hi
 have hcells:Tryz.prog.cellsOf 43=1:=by kernel_rfl
 rw[hcells,hr]at harr
 have hre:r=feEq x y:=by
  have h5:(∀i∈List.range 5,(feV x)[i]?=(feV y)[i]?)↔(x.a=y.a/\x.b=y.b/\x.c=y.c/\x.d=y.d/\x.e=y.e):=by
   have hin: ∀a b:UInt64,some (u64v a)=some (u64v b)->a=b:=λa b e=>by
    simp only[u64v,Option.some.injEq,Value.int.injEq,true_and]at e
    exact UInt64.toNat_inj.1 (Int.ofNat_inj.1 e)
   constructor
   ·intro h
    exact⟨hin _ _ (h 0 (by simp)),hin _ _ (h 1 (by simp)),hin _ _ (h 2 (by simp)),hin _ _ (h 3 (by simp)),hin _ _ (h 4 (by simp))⟩
   ·rintro⟨h0,h1,h2,h3,h4⟩ i _
    simp only[feV,h0,h1,h2,h3,h4]
  rw[h5]at hiff
  unfold feEq
  cases r
  ·exact(decide_eq_false (λh=>by have:=hiff.2 h;cases this)).symm
  ·exact(decide_eq_true (hiff.1 rfl)).symm
 rw[<-hre]
 exact harr
theorem z83: ∃f,(Tryz.prog.fieldsOf 180).toList=[f]/\f.type=178/\f.offset=0/\f.name≠ "_" :=by
 obtain⟨q,hq⟩:=Tab_ok.get (show tget Tab 180=some _ from rfl)
 obtain⟨d,hdd,hko,_⟩:=q.desc
 rw[hq,zp4]at hdd
 injection hdd with hdd
 subst hdd
 obtain⟨fields,e,hfl⟩:=hko
 injection e with e
 rw[<-e]at hfl
 have hn:((Tryz.prog.fieldsOf 180).toList.all λf=> !(f.name== "_"))=true:=by kernel_rfl
 generalize (Tryz.prog.fieldsOf 180).toList=l at*
 have hlen:=congrArg List.length hfl
 rw[List.length_map]at hlen
 obtain⟨f,rfl⟩:=List.length_eq_one_iff.1 hlen
 simp only[List.map_cons,List.map_nil,List.cons.injEq,Prod.mk.injEq,and_true]at hfl
 simp only[List.all_cons,List.all_nil,Bool.and_true,Bool.not_eq_true',beq_eq_false_iff_ne]at hn
 exact⟨f,rfl,hfl.2,hfl.1,hn⟩
theorem zkcb(x y:Fe)(w:World):(binOp .eql 180 (.agg (feV x)) (.agg (feV y))).run aP w= .ok (.bool (feEq x y)) w:=by
 obtain⟨f,hf,ht,ho,hn⟩:=z83
 rw[run_eql_struct,run_equalIn_agg w 9999 _ _ _ zp4 (by kernel_rfl),hf]
 have h1:=z00 x w
 have h2:=z00 y w
 have h3:=zf6b x y w 9997
 simp only[Op.eqFields,ne_eq,hn,not_false_eq_true,if_true,ht,ho,Sem.run_bind,h1,h2,Result.andThen_ok]
 rw[h3]
 simp only[Result.andThen_ok]
 cases feEq x y<;>simp
section
theorem Vfun.eqFe{S:St}{o:Oper}{p q:Operand}{t2:TypeId}{x y:Fe}{K:RV->Prop}(hop:o.op= .binOp .eql 180 p q t2)(hx:opr S p=some (.r (.ag x.v)))(hy:opr S q=some (.r (.ag y.v)))(hK:K (.b (feEq x y))):Vfun aP S o [p,q] K:=by
 refine⟨[.ag x.v, .ag y.v],by simp only[oprs,hx,hy,St.rv],_,λa w k h=>?_,hK⟩
 obtain⟨u,v,e,h1,h2⟩:=zmz h
 have e1:=z4z h1
 have e2:=z4z h2
 simp only[List.map_cons,List.map_nil,List.cons.injEq,and_true]at e
 refine⟨.bool (feEq x y),?_,by simp only[RV.at_]⟩
 simp[execOp,hop,e.1,e.2,e1,e2,run_eqGuard_agg (P:=Tryz.prog) w .eql 180 p q _ _ (by kernel_rfl),zkcb x y w]
def zbr(x y:Fe):Bool:=feEq x.least y.least
theorem zjy(x y:Fe):aG 356 [.ag x.v, .ag y.v] (.r (.b (zbr x y))):=by
 refine aT Tryz.func356 rfl ?_
 refine aV ?_
 refine za rfl rfl ?_
 refine ze (zjx x) ?_
 refine za rfl rfl ?_
 refine ze (zjx y) ?_
 refine Vfun.eqFe (x:=x.least) (y:=y.least) rfl rfl rfl ?_
 exact cr
def zi7(a x:Fe):Fe×Bool:=cond (zbr (x.mul x) a) (cond x.odd (Fe.sub ⟨0,0,0,0,0⟩ x,true) (x,true)) (⟨0,0,0,0,0⟩,false)
def zbq(a:Fe):Fe:=a.pow (powE 254 15)
def zhj(a:Fe):Fe:=(zbq a).mul ((numF 2).pow (powE 251 31))
def zcg(a:Fe):Fe:=cond (zbr ((zbq a).mul (zbq a)) a) (zbq a) (zhj a)
def za4(a:Fe):Fe×Bool:=zi7 a (zcg a)
set_option maxHeartbeats 1000000 in
theorem zg2b(a:Fe):aG 331 [.ag a.v] (.r (.tu [.ag (za4 a).1.v, .b (za4 a).2])):=by
 refine aT Tryz.func331 rfl ?_
 refine aV ?_
 refine za rfl rfl ?_
 refine ze (zr1 254 15) ?_
 refine ze (z2w a (powE 254 15) (by rw[zpg];omega)) ?_
 have hX:a.pow (powE 254 15)=zbq a:=by rw[zbq]
 rw[hX]
 have hZ:zcg a=cond (zbr ((zbq a).mul (zbq a)) a) (zbq a) (zhj a):=by rw[zcg]
 have hY:zhj a=(zbq a).mul ((numF 2).pow (powE 251 31)):=by rw[zhj]
 generalize zbq a=x at*
 generalize zhj a=y at*
 refine aV ?_
 refine za rfl rfl ?_
 refine ze (zdd x) ?_
 refine za rfl rfl ?_
 refine ze (zjy (x.mul x) a) ?_
 refine⟨_,rfl,?_⟩
 refine⟨λh=>?_,λh=>?_⟩
 ·have e1:zbr (x.mul x) a=false:=by simpa using h
  have hr:zcg a=y:=by rw[hZ,e1];rfl
  refine aV ?_
  refine za rfl rfl ?_
  refine ze h_n2 ?_
  refine ze (zr1 251 31) ?_
  refine ze (z2w (numF 2) (powE 251 31) (by rw[zpg];omega)) ?_
  refine ze (zbf x ((numF 2).pow (powE 251 31))) ?_
  rw[<-hY]
  refine aV ?_
  refine za rfl rfl ?_
  refine ze (zdd y) ?_
  refine za rfl rfl ?_
  refine ze (zjy (y.mul y) a) ?_
  refine⟨_,rfl,?_⟩
  refine⟨λh2=>?_,λh2=>?_⟩
  ·have e2:zbr (y.mul y) a=false:=by simpa using h2
   have e:za4 a=(⟨0,0,0,0,0⟩,false):=by rw[za4,hr,zi7,e2];rfl
   rw[e]
   refine za rfl rfl ?_
   exact⟨_,rfl,cr⟩
  ·have e2:zbr (y.mul y) a=true:=by simpa using h2
   refine za rfl rfl ?_
   refine ze (z2s y) ?_
   refine⟨λh3=>?_,λh3=>?_⟩
   ·have e:za4 a=(Fe.sub ⟨0,0,0,0,0⟩ y,true):=by rw[za4,hr,zi7,e2,h3];rfl
    rw[e]
    refine za rfl rfl ?_
    refine ze (zup y) ?_
    refine za rfl rfl ?_
    refine za rfl rfl ?_
    exact⟨_,rfl,cr⟩
   ·have e:za4 a=(y,true):=by rw[za4,hr,zi7,e2,h3];rfl
    rw[e]
    refine za rfl rfl ?_
    refine za rfl rfl ?_
    exact⟨_,rfl,cr⟩
 ·have e1:zbr (x.mul x) a=true:=by simpa using h
  have hr:zcg a=x:=by rw[hZ,e1];rfl
  refine aV ?_
  refine za rfl rfl ?_
  refine ze (zdd x) ?_
  refine za rfl rfl ?_
  refine ze (zjy (x.mul x) a) ?_
  refine⟨_,rfl,?_⟩
  refine⟨λh2=>?_,λh2=>?_⟩
  ·have e2:zbr (x.mul x) a=false:=by simpa using h2
   have e:za4 a=(⟨0,0,0,0,0⟩,false):=by rw[za4,hr,zi7,e2];rfl
   rw[e]
   refine za rfl rfl ?_
   exact⟨_,rfl,cr⟩
  ·have e2:zbr (x.mul x) a=true:=by simpa using h2
   refine za rfl rfl ?_
   refine ze (z2s x) ?_
   refine⟨λh3=>?_,λh3=>?_⟩
   ·have e:za4 a=(Fe.sub ⟨0,0,0,0,0⟩ x,true):=by rw[za4,hr,zi7,e2,h3];rfl
    rw[e]
    refine za rfl rfl ?_
    refine ze (zup x) ?_
    refine za rfl rfl ?_
    refine za rfl rfl ?_
    exact⟨_,rfl,cr⟩
   ·have e:za4 a=(x,true):=by rw[za4,hr,zi7,e2,h3];rfl
    rw[e]
    refine za rfl rfl ?_
    refine za rfl rfl ?_
    exact⟨_,rfl,cr⟩
attribute [irreducible] za4
end
section
def zbn(y:Fe):Fe:=((y.mul y).sub one).mul ((dC.mul (y.mul y)).add one).inv
theorem z85(y:Fe):((y.mul y).sub one).mul ((dC.mul (y.mul y)).add one).inv=zbn y:=rfl
attribute [irreducible] zbn
theorem z5r(y:Fe):aG 214 [.ag y.v] (.r (.tu [.ag (za4 (zbn y)).1.v, .b (za4 (zbn y)).2])):=by
 refine aT Tryz.func214 rfl ?_
 refine za rfl rfl ?_
 refine ze (zdd y) ?_
 refine aV ?_
 refine za rfl rfl ?_
 refine ze zk3 ?_
 refine ze (zgn (y.mul y) one) ?_
 refine ze h_d ?_
 refine za rfl rfl ?_
 refine ze (zbf dC (y.mul y)) ?_
 refine ze zk3 ?_
 refine ze (ze9 (dC.mul (y.mul y)) one) ?_
 refine ze (znq ((dC.mul (y.mul y)).add one)) ?_
 refine ze (zbf ((y.mul y).sub one) ((dC.mul (y.mul y)).add one).inv) ?_
 rw[z85]
 refine ze (zg2b (zbn y)) ?_
 refine za rfl rfl ?_
 exact⟨_,rfl,cr⟩
def baseY:Fe:=(numF 4).mul (numF 5).inv
theorem z8v:(numF 4).mul (numF 5).inv=baseY:=rfl
attribute [irreducible] baseY
def baseP:Pt:=Pt.of (za4 (zbn baseY)).1 baseY
theorem zr0:aG 124 [] (.r (.ag baseP.v)):=by
 refine aT Tryz.func124 rfl ?_
 refine ze h_n4 ?_
 refine ze h_n5 ?_
 refine ze (znq (numF 5)) ?_
 refine ze (zbf (numF 4) (numF 5).inv) ?_
 rw[z8v]
 refine za rfl rfl ?_
 refine ze (z5r baseY) ?_
 refine za rfl rfl ?_
 refine za rfl rfl ?_
 refine ze (z2v (za4 (zbn baseY)).1 baseY) ?_
 refine za rfl rfl ?_
 exact cr
attribute [irreducible] baseP
end
section
theorem zkdb{l:List UInt64}{j:Nat}(h:j<l.length):(l.map W)[j*1]?=some (W (l.getD j 0)):=by
 rw[Nat.mul_one,List.getElem?_map,List.getElem?_eq_getElem h,List.getD_eq_getElem?_getD,List.getElem?_eq_getElem h]
 rfl
def mL(a b w:UInt64):UInt64:=a*b+w+0
def mIn(a:UInt64)(y:S4)(w:List UInt64)(i:Nat):Nat->List UInt64×UInt64
 |0=>(w,0)
 |k+1=>
  let s:=mIn a y w i k
  let b:=y.l.getD k 0
  let v:=s.1.getD (i+k) 0
  (s.1.set (i+k) (mL a b v+s.2+0),(mulH a b+carW (a*b) v 0)+carW (mL a b v) s.2 0)
theorem zpa(a:UInt64)(y:S4)(w:List UInt64)(i:Nat):mIn a y w i 0=(w,0):=rfl
theorem zlb(a:UInt64)(y:S4)(w:List UInt64)(i k:Nat):mIn a y w i (k+1)=((mIn a y w i k).1.set (i+k) (mL a (y.l.getD k 0) ((mIn a y w i k).1.getD (i+k) 0)+(mIn a y w i k).2+0),(mulH a (y.l.getD k 0)+carW (a*(y.l.getD k 0)) ((mIn a y w i k).1.getD (i+k) 0) 0)+carW (mL a (y.l.getD k 0) ((mIn a y w i k).1.getD (i+k) 0)) (mIn a y w i k).2 0):=rfl
theorem zj6(a:UInt64)(y:S4)(w:List UInt64)(i:Nat): ∀k,(mIn a y w i k).1.length=w.length
 |0=>rfl
 |k+1=>by rw[zlb,List.length_set,zj6 a y w i k]
attribute [irreducible] mIn
def mOut(x y:S4):Nat->List UInt64
 |0=>List.replicate 8 0
 |i+1=>(mIn (x.l.getD i 0) y (mOut x y i) i 4).1.set (i+4) (mIn (x.l.getD i 0) y (mOut x y i) i 4).2
theorem ztd(x y:S4):mOut x y 0=List.replicate 8 0:=rfl
theorem zmu(x y:S4)(i:Nat):mOut x y (i+1)=(mIn (x.l.getD i 0) y (mOut x y i) i 4).1.set (i+4) (mIn (x.l.getD i 0) y (mOut x y i) i 4).2:=rfl
theorem zid(x y:S4): ∀i,(mOut x y i).length=8
 |0=>by simp[mOut]
 |i+1=>by rw[zmu,List.length_set,zj6,zid x y i]
attribute [irreducible] mOut
def S4.mul(x y:S4):S4:=zhv (mOut x y 4)
def smO1(x y:S4)(i:Nat):St:={F:=[(3, .own 1),(4, .own 2),(5, .own 3),(16, .r (.ag x.v)),(17, .r (I i))],O:=[(1,some y.bx),(2,some (S4.bx ⟨0,0,0,0⟩)),(3,some (.ch 43 1 8 ((mOut x y i).map W) false))],nx:=4}
def smI1(x y:S4)(i k:Nat):St:={F:=[(3, .own 1),(4, .own 2),(5, .own 3),(16, .r (.ag x.v)),(17, .r (I i)),(6, .r (I i)),(7, .r (W (x.l.getD i 0))),(8, .r (W (mIn (x.l.getD i 0) y (mOut x y i) i k).2)),(22, .r (.ag y.v)),(23, .r (I k))],O:=[(1,some y.bx),(2,some (S4.bx ⟨0,0,0,0⟩)),(3,some (.ch 43 1 8 ((mIn (x.l.getD i 0) y (mOut x y i) i k).1.map W) false))],nx:=4}
theorem zs8:(List.replicate ((8:Int).toNat) ([Value.int .u64 0].map ofC)).flatten=(List.replicate 8 (0:UInt64)).map W:=by simp[ofC]
set_option maxHeartbeats 4000000 in
theorem zd4b(x y:S4):aG 230 [.ag x.v, .ag y.v] (.r (.ag (x.mul y).v)):=by
 refine aT Tryz.func230 rfl ?_
 refine⟨rfl,by decide,by decide,by decide,_,_,rfl,zs8,Vpub.own ?_⟩
 refine za rfl rfl ?_
 refine zy (smO1 x y) (λi=>i<=4) (λi=>4-i) 0 (by omega) (zad [(1,1),(2,2),(3,3)] rfl ⟨rfl,rfl,rfl,cr,cr,trivial⟩ ⟨(aC aZ),(aC aZ),⟨rfl,rfl,rfl,rfl,by rw[ztd];exact zn _⟩,trivial⟩) ?_
 intro i hi
 refine zh (λh=>zp ?_) (λh=>zq ?_)
 ·simp only[zb]at h
  have hi':i<4:=by omega
  refine zm (by omega) (by omega) (z3e (l:=x.l) rfl (by show i<4;omega)) ?_
  refine za rfl rfl ?_
  refine zy (smI1 x y i) (λk=>k<=4) (λk=>4-k) 0 (by omega) (zad [(1,1),(2,2),(3,3)] rfl ⟨rfl,rfl,rfl,cr,cr,cr,cr,by rw[zpa];exact cr,cr,cr,trivial⟩ ⟨(aC aZ),(aC aZ),⟨rfl,rfl,rfl,rfl,by rw[zpa];exact zn _⟩,trivial⟩) ?_
  intro k hk
  have hL:(mIn (x.l.getD i 0) y (mOut x y i) i k).1.length=8:=by rw[zj6,zid]
  refine zh (λh=>zp ?_) (λh=>zq ?_)
  ·simp only[zb]at h
   have hk':k<4:=by omega
   refine zm (by omega) (by omega) (z3e (l:=y.l) rfl (by show k<4;omega)) ?_
   refine ze (zrz (x.l.getD i 0) (y.l.getD k 0)) ?_
   refine zd (m:=((i+k:Nat):Int)) (by omega) (by omega) ?_
   refine Vadr.mk' (i+k) rfl (by omega) ?_
   refine zg (zkdb (by rw[hL];omega)) ?_
   refine Vcall.ext (zfj (x.l.getD i 0*y.l.getD k 0) _ 0 (by decide)) ?_
   refine Vint.wadd _ _ rfl rfl ?_
   refine Vcall.ext (zfj (mL (x.l.getD i 0) (y.l.getD k 0) ((mIn (x.l.getD i 0) y (mOut x y i) i k).1.getD (i+k) 0)) (mIn (x.l.getD i 0) y (mOut x y i) i k).2 0 (by decide)) ?_
   refine zd (m:=((i+k:Nat):Int)) (by omega) (by omega) ?_
   refine Vint.wadd _ _ rfl rfl ?_
   refine Vadr.mk' (i+k) rfl (by omega) ?_
   refine⟨by rw[List.length_map,hL];show(i+k)*1+1<=8;omega,(mIn (x.l.getD i 0) y (mOut x y i) i (k+1)).1.map W,?_,?_⟩
   ·rw[zlb,Nat.mul_one]
    exact zcq (by rw[hL];omega)
   refine zd (m:=((k+1:Nat):Int)) (by omega) (by omega) ?_
   exact⟨k+1,by omega,by omega,zad [(1,1),(2,2),(3,3)] rfl ⟨rfl,rfl,rfl,cr,cr,cr,cr,by rw[zlb];exact cr,cr,cr,trivial⟩ ⟨(aC aZ),(aC aZ),⟨rfl,rfl,rfl,rfl,zn _⟩,trivial⟩⟩
  ·simp only[zb]at h
   obtain rfl:k=4:=by omega
   refine zd (m:=((i+4:Nat):Int)) (by omega) (by omega) ?_
   refine Vadr.mk' (i+4) rfl (by omega) ?_
   refine⟨by rw[List.length_map,hL];show(i+4)*1+1<=8;omega,(mOut x y (i+1)).map W,?_,?_⟩
   ·rw[zmu,Nat.mul_one]
    exact zcq (by rw[hL];omega)
   refine zd (m:=((i+1:Nat):Int)) (by omega) (by omega) ?_
   exact⟨i+1,by omega,by omega,zad [(1,1),(2,2),(3,3)] rfl ⟨rfl,rfl,rfl,cr,cr,trivial⟩ ⟨(aC aZ),(aC aZ),⟨rfl,rfl,rfl,rfl,zn _⟩,trivial⟩⟩
 ·simp only[zb]at h
  obtain rfl:i=4:=by omega
  have hrd:=zwd (mOut x y 4) (by rw[zid];omega)
  rw[<-z8q _ _ (zid x y 4)]at hrd
  refine Vstep.sub (zbb (id:=3) rfl) (Vstep.val Tab_ok (ze hrd ?_))
  refine za rfl rfl ?_
  exact cr
end
section
variable {P:Program} {T:TT} {S:St}
theorem z4g{id t n:Nat}(vs:List RV)(hf:fget S.F t=some (.cut id 0 n))(ho:oget S.O id=some (.box (vs.map .r)))(hn:vs.length=n):Sub S ⟨(t, .r (.sl 1 n vs))::S.F,(id,none)::S.O,S.nx⟩:=by
 rintro B N a w k ⟨g,hs⟩
 obtain⟨b,k',hg,hle,hb,hc,h⟩:=hs.pub ho
 have hv:=(hs.facts t _ hf).2
 simp only[TF.at_]at hv
 obtain⟨b',c,e,hv,h1,h2⟩:=hv
 rw[hg]at e
 cases e
 refine⟨k',g,h.size,h.defers,h.keep,h.kk,λt' f hf'=>?_,h.owns,h.apart⟩
 rcases zax hf' with⟨rfl,rfl⟩ |⟨_,hf'⟩
 ·refine⟨trivial,?_⟩
  simp only[TF.at_,RV.at_]
  exact⟨_,c,hv,h1,h2,by rw[Nat.mul_one];exact hn,λ_=>⟨b,0,rfl,hb,hc⟩⟩
 ·exact h.facts t' f hf'
theorem Vcode.sub(hm:P.follows .mixedOrders=true)(hT:TOk P T){c:Code}{S':St}{Q:Exit->St->Prop}(hs:Sub S S')(h:vcg P T c S' Q):Vcode P c S Q:=
 ⟨λB N a w k Q' h0 hd hQ=>by
  obtain⟨k',h1⟩:=hs B N a w k h0
  exact zay hm hT c S' Q h B N a w k' Q' h1 hd hQ⟩
theorem Vstep.actsNew{o:Oper}{l:List RV}{f:FuncId}{args:List TF}{n:Nat}{K:St->Prop}(hA:Acts P f 0 [] args [] 1 [(0, .box (l.map .r))] (.cut 0 0 n))(hcall:Handed P S o [] f args)
  (hK:newK ⟨S.F,(S.nx,some (.box (l.map .r)))::S.O,S.nx+1⟩ o.dst (.cut S.nx 0 n) none K):Vstep P S o K:=by
 refine zj [] [] (λ_ _=>hA) hcall rfl trivial trivial ?_
 rw[zlw]
 rw[zav]at hK
 have e:(l.map TF.r).map (zdx (ren [] [] S.nx))=l.map TF.r:=by
  rw[List.map_map]
  exact List.map_congr_left λx _=>rfl
 have e2:zlx [] [] S 1 [(0, .box (l.map .r))] (.cut 0 0 n) o.dst=St.new ⟨S.F,(S.nx,some (.box (l.map .r)))::S.O,S.nx+1⟩ o.dst (.cut S.nx 0 n) none:=by
  show St.put ⟨S.F,(S.nx,some (.box ((l.map TF.r).map (zdx (ren [] [] S.nx)))))::S.O,S.nx+1⟩ o.dst (.cut S.nx 0 n)=_
  rw[e]
  rfl
 rw[e2]
 exact hK
end
set_option maxRecDepth 100000 in
theorem zdub(ls:List (List UInt8))(hl:(ls.flatMap id).length<=10000000000):Acts aP 228 0 [] [.r (bss ls)] [] 1 [(0,boxB (zck ls))] (.cut 0 0 64):=by
 refine zag (T:=Tab) mixed Tab_ok Tryz.func228 rfl (by kernel_rfl) rfl trivial ?_
 refine ze (zf8 ls (by omega)) ?_
 refine ze (z0j (ls.flatMap id) hl) ?_
 (conv=>whnf)
 generalize hq:(za7 _&&_)=q
 obtain rfl:=hq.symm.trans (zg9 (l:=(zck ls).map U8) 64 (by rw[List.length_map,zb7]) rfl)
 clear hq
 refine zdw (by rw[List.length_map,List.length_map];show(List.replicate 64 (Value.int .u8 0)).length=_;rw[List.length_replicate];exact(zb7 ls).symm) ?_
 refine Vstep.val Tab_ok (Vcutn.mk' 0 64 rfl rfl (by decide) (by decide) ?_)
 exact zal (.inl rfl) [(0,1)] [(2, .cut 0 0 64)] [] (by have h:=zdi ((zck ls).map U8) 1;simp only[stOk,lift,boxB,List.map_cons,List.map_nil,List.append_nil,List.all_cons,List.all_nil,zdb,h];rfl) ⟨⟨rfl,rfl,rfl⟩,trivial⟩ ⟨zae _,trivial⟩ trivial rfl
theorem z5k{l:List UInt8}{j:Nat}(h:j<l.length):lget ((l.map U8).map TF.r) (0+j*1)=some (TF.r (U8 (l.getD j 0))):=by
 rw[zas,Nat.zero_add,Nat.mul_one]
 exact z0d h
theorem zva{x:UInt8}{l:List UInt8}{j:Nat}(h:j<l.length):(za7 (U8 x)&&(Nat.beq (cellsOf (U8 x)).length 1&&Nat.ble (0+j*1+1) ((l.map U8).map TF.r).length))=true:=by
 rw[Nat.zero_add]
 exact zz0 h
theorem ztm{l:List UInt8}{j:Nat}{x:UInt8}{K:List TF->Prop}(h:j<l.length)(hK:K (((l.set j x).map U8).map TF.r)):putK ((l.map U8).map TF.r) (0+j*1) [TF.r (U8 x)] K:=by
 rw[Nat.zero_add]
 exact zxr h hK
theorem ziq(l:List UInt8)(n:Nat)(h:l.length=n):RV.sl 1 n (l.map U8)=bs l:=by rw[<-h];rfl
def zgo(h:List UInt8):List UInt8:=h.set 0 (h.getD 0 0&&& ~~~7)
def zes(h:List UInt8):List UInt8:=(zgo h).set 31 (((zgo h).getD 31 0&&&63)|||64)
theorem z6r(h:List UInt8):(zgo h).length=h.length:=by simp[zgo]
theorem zs5(h:List UInt8):(zes h).length=h.length:=by simp[zes,zgo]
def secS(seed:List UInt8):S4:=scOf ((zes (zck [seed])).take 32)
def secB(seed:List UInt8):List UInt8:=(zes (zck [seed])).drop 32
set_option maxHeartbeats 1000000 in
theorem zv6(seed:List UInt8)(hs:seed.length<=1000000000):aG 222 [bs seed] (.r (.tu [.ag (secS seed).v,bs (secB seed)])):=by
 refine aT Tryz.func222 rfl ?_
 refine Vpub.own ?_
 refine Vstep.sub (zbb (id:=1) rfl) (Vstep.actsNew (zdub [seed] (by simp;omega)) (zi rfl ⟨_,_,rfl,cr,rfl⟩) ?_)
 have hh:secS seed=scOf ((zes (zck [seed])).take 32):=rfl
 have hb:secB seed=(zes (zck [seed])).drop 32:=rfl
 have hl:=zb7 [seed]
 rw[hh,hb]
 generalize zck [seed]=h at*
 have hl0:(zgo h).length=64:=by rw[z6r,hl]
 have hlB:(zes h).length=64:=by rw[zs5,hl]
 refine Vadr.mk' 0 rfl (by decide) ?_
 (conv=>whnf)
 generalize hq:lget _ _=q
 obtain rfl:=hq.symm.trans (z5k (l:=h) (j:=0) (by omega))
 clear hq
 refine Vbits.andn8 _ 7 rfl rfl ?_
 refine Vadr.mk' 0 rfl (by decide) ?_
 (conv=>whnf)
 generalize hq:(za7 _&&_)=q
 obtain rfl:=hq.symm.trans (zva (x:=h.getD 0 0&&& ~~~7) (l:=h) (j:=0) (by omega))
 clear hq
 refine ztm (l:=h) (j:=0) (by omega) ?_
 refine Vadr.mk' 31 rfl (by decide) ?_
 (conv=>whnf)
 generalize hq:lget _ _=q
 obtain rfl:=hq.symm.trans (z5k (l:=zgo h) (j:=31) (by omega))
 clear hq
 refine Vbits.and8 _ 63 rfl rfl ?_
 refine Vbits.or8 _ 64 rfl rfl ?_
 refine Vadr.mk' 31 rfl (by decide) ?_
 (conv=>whnf)
 generalize hq:(za7 _&&_)=q
 obtain rfl:=hq.symm.trans (zva (x:=((zgo h).getD 31 0&&&63)|||64) (l:=zgo h) (j:=31) (by omega))
 clear hq
 refine ztm (l:=zgo h) (j:=31) (by omega) ?_
 refine Vdraw.code (Vcode.sub mixed Tab_ok (z4g (t:=4) (n:=64) ((zes h).map U8) rfl rfl (by rw[List.length_map,hlB])) ?_)
 refine aV ?_
 have ht:((zes h).take 32).length=32:=by rw[List.length_take,hlB];rfl
 have hd:((zes h).drop 32).length=32:=by rw[List.length_drop,hlB]
 have hsc:=zqi ((zes h).take 32) (by omega)
 rw[<-ziq _ _ ht]at hsc
 rw[<-ziq _ _ hd]
 refine⟨by decide,by decide,by decide,32,((zes h).take 32).map U8,rfl,by rw[List.map_take];rfl,?_⟩
 refine ze hsc ?_
 refine⟨by decide,by decide,by decide,32,((zes h).drop 32).map U8,rfl,by rw[List.map_drop];exact List.take_of_length_le (by rw[List.length_drop,List.length_map,hlB];decide),?_⟩
 refine za rfl rfl ?_
 exact⟨_,rfl,cr⟩
theorem z6k(seed:List UInt8)(hs:seed.length=32):aG 126 [bs seed] (.r (.ag (secS seed).v)):=by
 refine aT Tryz.func126 rfl ?_
 refine zh (λh=>?_) (λh=>zq ?_)
 ·simp only[zb]at h
  exact absurd hs (by omega)
 refine ze (zv6 seed (by omega)) ?_
 refine za rfl rfl ?_
 refine za rfl rfl ?_
 exact cr
def pubS(seed:List UInt8):List UInt8:=(mulP baseP (secS seed) 253).bytes
theorem zxp(seed:List UInt8):(pubS seed).length=32:=Pt.bytes_len _
theorem zs3(seed:List UInt8)(hs:seed.length=32):aG 50 [bs seed] (.r (.tu [bs (pubS seed), .i .u8 0])):=by
 refine aT Tryz.func50 rfl ?_
 refine zh (λh=>?_) (λh=>zq ?_)
 ·simp only[zb]at h
  exact absurd hs (by omega)
 refine ze zr0 ?_
 refine ze (z6k seed hs) ?_
 refine ze (zqg baseP (secS seed)) ?_
 refine ze (zwc (mulP baseP (secS seed) 253)) ?_
 exact⟨_,rfl,cr⟩
def sigR(seed text:List UInt8):S4:=scOf (zck [secB seed,text])
def sigP(seed text:List UInt8):List UInt8:=(mulP baseP (sigR seed text) 253).bytes
def sigK(seed text:List UInt8):S4:=scOf (zck [sigP seed text,pubS seed,text])
def sigB(seed text:List UInt8):List UInt8:=sigP seed text++((sigR seed text).sum ((sigK seed text).mul (secS seed))).once.bytes
theorem zx9(seed text:List UInt8):(sigP seed text).length=32:=Pt.bytes_len _
theorem za7b(seed text:List UInt8):(sigB seed text).length=64:=by rw[sigB,aL,zx9,S4.bytes_len]
theorem za5b(seed:List UInt8):(secB seed).length=32:=by rw[secB,List.length_drop,zs5,zb7]
theorem z10(a b:List UInt8):[a,b].flatMap id=a++b:=by simp
theorem zbsb(a b c:List UInt8):[a,b,c].flatMap id=a++b++c:=by simp
set_option maxHeartbeats 1000000 in
theorem z6i(seed text P B L1 Q L2 R1:List UInt8)(s r k m z:S4)(M:Pt)(hs:seed.length=32)(ht:text.length<=1000000000)(hP:P.length=32)(hB:B.length=32)(hQ:Q.length=32)(hR:R1.length=32)(hL1:L1.length=64)(hL2:L2.length=64)
  (c1:aG 50 [bs seed] (.r (.tu [bs P, .i .u8 0])))
  (c2:aG 222 [bs seed] (.r (.tu [.ag s.v,bs B])))
  (c3:aG 228 [bss [B,text]] (.r (bs L1)))
  (c4:aG 227 [bs L1] (.r (.ag r.v)))
  (c6: ∀b:Pt,b=baseP->aG 125 [.ag b.v, .ag r.v] (.r (.ag M.v)))
  (c7:aG 127 [.ag M.v] (bch Q))
  (c8:aG 228 [bss [Q,P,text]] (.r (bs L2)))
  (c9:aG 227 [bs L2] (.r (.ag k.v)))
  (c10:aG 230 [.ag k.v, .ag s.v] (.r (.ag m.v)))
  (c11:aG 229 [.ag r.v, .ag m.v] (.r (.ag z.v)))
  (c12:aG 231 [.ag z.v] (bch R1)):
  aG 135 [bs seed,bs text] (.r (.tu [bs (Q++R1), .i .u8 0])):=by
 refine aT Tryz.func135 rfl ?_
 refine ze c1 ?_
 refine zu rfl (zq ?_)
 refine ze c2 ?_
 refine zw ?_
 refine ze c3 ?_
 refine ze c4 ?_
 refine aV ?_
 obtain⟨b,hb⟩: ∃b,b=baseP:=⟨_,rfl⟩
 have c5:=zr0
 rw[<-hb]at c5
 refine ze c5 ?_
 refine za rfl rfl ?_
 refine ze (c6 b hb) ?_
 refine ze c7 ?_
 refine zw ?_
 refine ze c8 ?_
 refine ze c9 ?_
 refine aV ?_
 refine za rfl rfl ?_
 refine za rfl rfl ?_
 refine za rfl rfl ?_
 refine ze c10 ?_
 refine ze c11 ?_
 refine ze c12 ?_
 refine zw ?_
 refine ze (zf8 [Q,R1] (by rw[z10,aL];omega)) ?_
 exact⟨_,rfl,zf (by rw[z10];rfl)⟩
theorem zg4b(seed text:List UInt8)(hs:seed.length=32)(ht:text.length<=1000000000):aG 135 [bs seed,bs text] (.r (.tu [bs (sigB seed text), .i .u8 0])):=by
 have h1:=za5b seed
 have h2:=zx9 seed text
 have h3:=zxp seed
 exact z6i seed text (pubS seed) (secB seed) (zck [secB seed,text]) (sigP seed text) (zck [sigP seed text,pubS seed,text]) _ (secS seed) (sigR seed text) (sigK seed text) ((sigK seed text).mul (secS seed)) _ (mulP baseP (sigR seed text) 253) hs ht h3 h1 h2 (S4.bytes_len _) (zb7 _) (zb7 _)
  (zs3 seed hs) (zv6 seed (by omega)) (zv8 [secB seed,text] (by rw[z10,aL];omega)) (zqi _ (by rw[zb7];omega)) (λb hb=>by rw[hb];exact zqg baseP (sigR seed text)) (zwc _)
  (zv8 [sigP seed text,pubS seed,text] (by rw[zbsb,aL,aL];omega)) (zqi _ (by rw[zb7];omega)) (zd4b _ _) (zd2b _ _) (z6f _)
theorem zug(seed:List UInt8)(hs:seed.length≠32):aG 50 [bs seed] (.r (.tu [bs [], .i .u8 1])):=by
 refine aT Tryz.func50 rfl ?_
 refine zt (by simp only[zb];omega) (zp ?_)
 exact⟨_,rfl,Cv.tu (zk (Cv.nil 1) (zn _))⟩
theorem z2y(seed text:List UInt8)(hs:seed.length≠32):aG 135 [bs seed,bs text] (.r (.tu [bs [], .i .u8 1])):=by
 refine aT Tryz.func135 rfl ?_
 refine ze (zug seed hs) ?_
 refine zt rfl (zp ?_)
 exact⟨_,rfl,Cv.tu (zk (Cv.nil 1) (zn _))⟩
def exp1(s info:List UInt8)(n:Nat):List UInt8:=(macB s (info++[1])).take n
theorem zo0(s info:List UInt8){n:Nat}(hn:n<=32):(exp1 s info n).length=n:=by
 unfold exp1
 rw[List.length_take,zch]
 omega
def mlsB:List UInt8:=[77,76,83,32,49,46,48,32]
def labB(s label ctx:List UInt8)(n:Nat):List UInt8:=exp1 s (beB 2 n++vecB (mlsB++label)++vecB ctx) n
theorem Cv.sl{sz n:Nat}{cs ds:List RV}(h:Cvs cs ds):Cv (.sl sz n cs) (.sl sz n ds):=λw k v hv=>by
 simp only[RV.at_]at hv⊢
 obtain⟨a,c,e,h1,h2,h3,h4⟩:=hv
 exact⟨a,c,e,h1,h2,by rw[h.length];exact h3,λhn=>by obtain⟨b,o,ea,hb,hc⟩:=h4 hn;exact⟨b,o,ea,hb,h.cells hc⟩⟩
theorem zsr(s info:List UInt8)(n:Nat)(hn:1<=n/\n<=32)(hs:s.length<=1000000000)(hi:info.length<=1000000000):aG 206 [bs s,bs info,I n] (.r (.tu [bs (exp1 s info n),Er 0])):=by
 refine aT Tryz.func206 rfl ?_
 have hm:=zch s (info++[1])
 refine Vcode.scope mixed Tab_ok 0 (λ_:Unit=>{F:=[(0, .r (bs s)),(1, .r (bs info)),(2, .r (I n)),(8, .own 0)],O:=[(0,some (.ch 5 1 32 ((macB s (info++[1])).map U8) true))],nx:=1}) (λ_=>True) (λ_=>0) rfl ?_ ?_
 ·refine zu (decide_eq_false (by omega)) ?_
  refine zu (decide_eq_false (by omega)) (zq ?_)
  refine zt (decide_eq_true (by omega)) (zp ?_)
  refine Vint.u8 1 rfl ?_
  refine zw ?_
  refine zw ?_
  refine Vcall.mk' (zuo s [[],info,[1]] hs (by simp;omega)) (zk (cr) (zk (Cv.sl (zk (Cv.nil _) (zn _))) Cvs.nil)) ?_
  refine Vapp.mk' (j:=32) (zs:=(macB s (info++[1])).map U8) (by simp[maxLen,zch]) (by simp[zch]) (by simp[zch]) (by simp) ?_
  exact⟨(),trivial,zad [(0,3)] rfl ⟨cr,cr,cr,rfl,trivial⟩ ⟨⟨rfl,rfl,rfl,rfl,zn _⟩,trivial⟩⟩
 ·intro _ _
  refine zu (decide_eq_false (by omega)) (zq ?_)
  refine⟨by omega,by omega,by omega,n,(exp1 s info n).map U8,by omega,?_,?_⟩
  ·unfold exp1;rw[List.map_take];simp
  ·refine⟨_,rfl,zf ?_⟩
   simp only[bs,zo0 s info hn.2]
   rfl
theorem zw4(s:ByteArray):((⟨#[77,76,83,32,49,46,48,32]⟩:ByteArray)++s).data.toList=mlsB++s.data.toList:=by simp[mlsB]
theorem zzy(s t:ByteArray):(s++t).size=s.size+t.size:=by simp
theorem zvj(s:List UInt8)(label:ByteArray)(ctx:List UInt8)(n:Nat)(hn:1<=n/\n<=32)(hs:s.length<=1000000000)(hl:label.size<=1048576)(hc:ctx.length<=1048576):
  aG 119 [bs s,Str label,bs ctx,I n] (.r (.tu [bs (labB s (sB label) ctx n),Er 0])):=by
 refine aT Tryz.func119 rfl ?_
 refine zu (decide_eq_false (by omega)) ?_
 refine zu (decide_eq_false (by omega)) (zq ?_)
 refine zu (decide_eq_false (by omega)) ?_
 refine zu (decide_eq_false (by omega)) (zq ?_)
 refine Vint.u64 n rfl (by omega) ?_
 refine Vcall.mk' (zef [] 2 n (by simp) (.inr (.inl rfl))) (zk (Cv.nil _) (zn _)) ?_
 have hd:=zw4 label
 have hsz:label.data.toList.length=label.size:=rfl
 have hml:mlsB.length=8:=rfl
 refine⟨by show 8+label.size<=_;omega,?_⟩
 refine⟨by rw[zzy];show 8+label.size<=_;omega,?_⟩
 have hb:(beB 2 n).length=2:=zao 2 n
 refine ze (zbj ([]++beB 2 n) ((⟨#[77,76,83,32,49,46,48,32]⟩:ByteArray)++label).data.toList (by simp[hb]) (by rw[hd,aL];omega)) ?_
 rw[hd]
 have hv:=zai (mlsB++label.data.toList)
 have hv2:=zai ctx
 rw[aL]at hv
 refine ze (zbj ([]++beB 2 n++vecB (mlsB++label.data.toList)) ctx (by simp only[aL,List.length_nil,hb];omega) (by omega)) ?_
 refine ze (zsr s ([]++beB 2 n++vecB (mlsB++label.data.toList)++vecB ctx) n hn hs (by simp only[aL,List.length_nil,hb];omega)) ?_
 exact⟨_,rfl,cr⟩
theorem zc1(s:List UInt8)(label:ByteArray)(hs:s.length<=1000000000)(hl:label.size<=1048576):aG 45 [bs s,Str label] (.r (bs (labB s (sB label) [] 32))):=by
 refine aT Tryz.func45 rfl ?_
 refine Vcall.mk' (zvj s label [] 32 (by omega) hs hl (by simp)) (zk (cr) (zk (cr) (zk (Cv.nil _) (zn _)))) ?_
 exact cr
def zf5(label text:List UInt8):List UInt8:=vecB (mlsB++label)++vecB text
theorem zk2(label:ByteArray)(text:List UInt8)(hl:label.size<=1048576)(ht:text.length<=1000000000):aG 136 [Str label,bs text] (bch (zf5 (sB label) text)):=by
 refine aT Tryz.func136 rfl ?_
 have hd:=zw4 label
 have hsz:label.data.toList.length=label.size:=rfl
 have hml:mlsB.length=8:=rfl
 refine⟨by show 8+label.size<=_;omega,?_⟩
 refine⟨by rw[zzy];show 8+label.size<=_;omega,?_⟩
 refine Vcall.mk' (zbj [] ((⟨#[77,76,83,32,49,46,48,32]⟩:ByteArray)++label).data.toList (by simp) (by rw[hd,aL];omega)) (zk (Cv.nil _) (zn _)) ?_
 rw[hd]
 have hv:=zai (mlsB++label.data.toList)
 rw[aL]at hv
 refine ze (zbj ([]++vecB (mlsB++label.data.toList)) text (by simp only[aL,List.length_nil];omega) (by omega)) ?_
 exact zds (by simp[zf5,sB])
def zhg(seed label text:List UInt8):List UInt8:=sigB seed (zf5 label text)
theorem zrx(seed:List UInt8)(label:ByteArray)(text:List UInt8)(hs:seed.length=32)(hl:label.size<=1048576)(ht:text.length<=500000000):aG 53 [bs seed,Str label,bs text] (.r (.tu [bs (zhg seed (sB label) text),Er 0])):=by
 refine aT Tryz.func53 rfl ?_
 have hsz:(sB label).length=label.size:=rfl
 have hml:mlsB.length=8:=rfl
 have hv:=zai (mlsB++sB label)
 have hv2:=zai text
 rw[aL]at hv
 refine ze (zk2 label text hl (by omega)) ?_
 refine ze (zg4b seed (zf5 (sB label) text) hs (by rw[zf5,aL];omega)) ?_
 exact⟨_,rfl,cr⟩
theorem zzb(seed:List UInt8)(label:ByteArray)(text:List UInt8)(hs:seed.length≠32)(hl:label.size<=1048576)(ht:text.length<=500000000):aG 53 [bs seed,Str label,bs text] (.r (.tu [bs [],Er 1])):=by
 refine aT Tryz.func53 rfl ?_
 have hsz:(sB label).length=label.size:=rfl
 have hml:mlsB.length=8:=rfl
 have hv:=zai (mlsB++sB label)
 have hv2:=zai text
 rw[aL]at hv
 refine ze (zk2 label text hl (by omega)) ?_
 refine ze (z2y seed (zf5 (sB label) text) hs) ?_
 exact⟨_,rfl,cr⟩
def nums(l:List UInt8):List Int:=l.map λb=>(b.toNat:Int)
theorem zro{S:Nat->Prop}(p:AC)(l:List UInt8)(w:World)(hp:By w S p l):(convert 22 9 (.slice p.a l.length p.c)).run aP w= .ok (.string (strOfNums (nums l))) w:=by
 rcases Nat.eq_zero_or_pos l.length with hn |hn
 ·have hl:l=[]:=List.eq_nil_of_length_eq_zero hn
  subst hl
  rw[run_convert_bytes_string w _ _ _ _ _ _ Tryz.underlying22 Tryz.underlying5 Tryz.underlying9]
  simp only[List.length_nil]
  cases p.a<;>simp[Conv.bytesToString,loadCells]
  all_goals rfl
 ·obtain⟨b,o,e,hc⟩:=hp.form hn
  rw[e]
  exact run_convert_bytes_arg w _ _ Tryz.underlying22 Tryz.underlying5 b o l.length p.c (nums l) (by simp[nums]) (λi hi=>by
   rw[hc i hi]
   simp[nums,hi]) _ Tryz.underlying9
theorem zepb(l m:List UInt8):((strOfNums (nums l)).toList==(strOfNums (nums m)).toList)=decide (l=m):=by
 have h: ∀l:List UInt8,(strOfNums (nums l)).toList=l:=λl=>by
  rw[Lib.strOfNums_toList]
  simp[Lib.bytesOf,nums,Function.comp_def]
 rw[h,h]
 by_cases e:l=m
 ·subst e
  simp
 ·simp[e]
theorem z1p(p q:AC)(l m:List UInt8){S:Nat->Prop}(w:World)(hp:By w S p l)(hq:By w S q m):
  Calls aP 114 #[.slice p.a l.length p.c, .slice q.a m.length q.c] w λe w'=>e= .returned (.bool (decide (l=m)))/\w'=w:=by
 have g1:=zro p l w hp
 have g2:=zro q m w hq
 rw[<-zepb]
 generalize strOfNums (nums l)=s1 at*
 generalize strOfNums (nums m)=s2 at*
 obtain⟨a,c⟩:=p
 obtain⟨a',c'⟩:=q
 go_enter Tryz.func114,Tryz.ntmps114
 go_wp2_with fail
 go_ret
 exact⟨rfl,rfl⟩
theorem zky(l m:List UInt8):aG 114 [bs l,bs m] (.r (.b (decide (l=m)))):=
 zsx (zdu Tryz.func114 rfl (by kernel_rfl)) λw k vs hp=>by
  obtain⟨a,b,rfl,h1,h2⟩:=zmz hp
  obtain⟨p,rfl,hp1⟩:=z1r h1
  obtain⟨q,rfl,hq1⟩:=z1r h2
  exact(z1p p q l m w hp1 hq1).mono λ_ _ ⟨e,hw⟩=>⟨_,e,hw▸Ext.refl _,k,λ_ _=>rfl,by simp[Res.at_,RV.at_]⟩
end Go.Proofs.YtkegaaonpekkgaaGreat.Sx
