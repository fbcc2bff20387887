import Derived.Test.YtkegaaonpekkgaaGreatZFu
import Derived.Test.YtkegaaonpekkgaaGreatZEe
import Derived.Test.YtkegaaonpekkgaaGreatZTp
import Derived.Test.YtkegaaonpekkgaaGreatZSxU
import Derived.Test.YtkegaaonpekkgaaGreatZTc
import Derived.Test.YtkegaaonpekkgaaGreatZSxPt
import Derived.Test.YtkegaaonpekkgaaGreatZTn
import Derived.Test.YtkegaaonpekkgaaGreatZTj
import Derived.Test.YtkegaaonpekkgaaGreatZTd
import Derived.Test.YtkegaaonpekkgaaGreatZKb
import Derived.Test.YtkegaaonpekkgaaGreatZGeoB
import Derived.Test.YtkegaaonpekkgaaGreatZSxY
import Derived.Shelf.RegionOpenPlain
import Derived.Lib.Walk
import Derived.Lib.SliceRun
import Derived.Lib.Overlaps
import Derived.Laws.Externs
import Derived.Laws.IdiomCopy
import Derived.Lib.AppendZerosOnto
import Derived.Laws.NewBlocks
import Derived.Test.YtkegaaonpekkgaaGreatZSxSt
namespace Go.Proofs.YtkegaaonpekkgaaGreat.Sx
open Go.RowKit
section
abbrev z5:Fe:=⟨0,0,0,0,0⟩
structure Lad where
 px:Fe
 pz:Fe
 qx:Fe
 qz:Fe
def Lad.next(b:Bool)(u:Fe)(s:Lad):Lad:=
 match b with
 |true=>⟨(zc4 s.qx s.qz s.px s.pz u).2.1,(zc4 s.qx s.qz s.px s.pz u).2.2,(zc4 s.qx s.qz s.px s.pz u).1.1,(zc4 s.qx s.qz s.px s.pz u).1.2⟩
 |false=>⟨(zc4 s.px s.pz s.qx s.qz u).1.1,(zc4 s.px s.pz s.qx s.qz u).1.2,(zc4 s.px s.pz s.qx s.qz u).2.1,(zc4 s.px s.pz s.qx s.qz u).2.2⟩
def ladN(k:List UInt8)(u:Fe):Nat->Lad
 |0=>⟨one,z5,u,one⟩
 |j+1=>(ladN k u j).next (bitE k (254-j)==1) u
theorem z6v(k:List UInt8)(u:Fe):ladN k u 0=⟨one,z5,u,one⟩:=rfl
theorem zs9(k:List UInt8)(u:Fe)(j:Nat):ladN k u (j+1)=(ladN k u j).next (bitE k (254-j)==1) u:=rfl
attribute [irreducible] ladN
def zn0(k:List UInt8)(u:Fe):List UInt8:=((ladN k u 255).px.mul (ladN k u 255).pz.inv).bytes
abbrev pbx(x z:Fe):Ow:= .box [.r (W x.a), .r (W x.b), .r (W x.c), .r (W x.d), .r (W x.e), .r (W z.a), .r (W z.b), .r (W z.c), .r (W z.d), .r (W z.e)]
def ladI(k:List UInt8)(u:Fe)(j:Nat):St:={F:=[(0, .r (bs k)),(3, .own 0),(5, .own 1),(6, .own 2),(7, .r (I ((254-j:Nat):Int)))],O:=[(0,some u.bx),(1,some (pbx (ladN k u j).px (ladN k u j).pz)),(2,some (pbx (ladN k u j).qx (ladN k u j).qz))],nx:=3}
theorem zxn(k:List UInt8)(u:Fe){b:Bool}(h:ladN k u (254+1)=(ladN k u 254).next b u){e:TypeId}:some (Ow.ch e 1 (((((ladN k u 254).next b u).px).mul (((ladN k u 254).next b u).pz).inv).bytes).length ((((((ladN k u 254).next b u).px).mul (((ladN k u 254).next b u).pz).inv).bytes).map U8) true)=some (Ow.ch e 1 (zn0 k u).length ((zn0 k u).map U8) true):=by
 rw[<-h]
 rfl
set_option maxHeartbeats 4000000 in
theorem z6d(k:List UInt8)(u:Fe)(hk:k.length=32):aG 320 [bs k, .ag u.v] (bch (zn0 k u)):=by
 refine aT Tryz.func320 rfl ?_
 refine Vcode.scope mixed Tab_ok 0 (ladI k u) (λj=>j<=254) (λj=>254-j) rfl ?_ ?_
 ·refine aV ?_
  refine ze zk3 ?_
  refine za rfl rfl ?_
  refine ze zk3 ?_
  repeat' ((conv=>whnf);first|refine za rfl rfl ?_)
  refine Vquo.i64 254 8 rfl rfl (by omega) (by omega) ?_
  refine zm (by omega) (by omega) rfl (zg (f:=U8 (k.getD (254/8) 0)) (zno (by omega)) ?_)
  refine Vrem.nat 254 8 rfl rfl (by omega) ?_
  refine Vshr.b _ (254%8) rfl rfl (by omega) ?_
  refine Vbits.and8 _ 1 rfl rfl ?_
  have hs:=zs9 k u 0
  rw[z6v]at hs
  refine zh (λh=>zp ?_) (λh=>zq ?_)
  ·have hb:(bitE k (254-0)==1)=true:=by rw[beq_iff_eq];exact zni h
   rw[hb]at hs
   refine za rfl rfl ?_
   refine za rfl rfl ?_
   refine za rfl rfl ?_
   refine ze (zql u one one z5 u) ?_
   refine zd (m:=253) rfl (by decide) ?_
   refine zt rfl (zp ?_)
   exact⟨1,by decide,zad [(0,0),(1,1),(2,2)] rfl ⟨cr,rfl,rfl,rfl,cr,trivial⟩ ⟨(aC (aA aZ)),by rw[hs];exact⟨_,_,rfl,cr,_,_,rfl,cr,_,_,rfl,cr,_,_,rfl,cr,_,_,rfl,cr,_,_,rfl,cr,_,_,rfl,cr,_,_,rfl,cr,_,_,rfl,cr,_,_,rfl,cr,rfl⟩,by rw[hs];exact⟨_,_,rfl,cr,_,_,rfl,cr,_,_,rfl,cr,_,_,rfl,cr,_,_,rfl,cr,_,_,rfl,cr,_,_,rfl,cr,_,_,rfl,cr,_,_,rfl,cr,_,_,rfl,cr,rfl⟩,trivial⟩⟩
  ·have hb:(bitE k (254-0)==1)=false:=by rw[beq_eq_false_iff_ne];exact zkq h
   rw[hb]at hs
   refine za rfl rfl ?_
   refine za rfl rfl ?_
   refine za rfl rfl ?_
   refine ze (zql one z5 u one u) ?_
   refine zd (m:=253) rfl (by decide) ?_
   refine zt rfl (zp ?_)
   exact⟨1,by decide,zad [(0,0),(1,1),(2,2)] rfl ⟨cr,rfl,rfl,rfl,cr,trivial⟩ ⟨(aC (aA aZ)),by rw[hs];exact⟨_,_,rfl,cr,_,_,rfl,cr,_,_,rfl,cr,_,_,rfl,cr,_,_,rfl,cr,_,_,rfl,cr,_,_,rfl,cr,_,_,rfl,cr,_,_,rfl,cr,_,_,rfl,cr,rfl⟩,by rw[hs];exact⟨_,_,rfl,cr,_,_,rfl,cr,_,_,rfl,cr,_,_,rfl,cr,_,_,rfl,cr,_,_,rfl,cr,_,_,rfl,cr,_,_,rfl,cr,_,_,rfl,cr,_,_,rfl,cr,rfl⟩,trivial⟩⟩
 ·intro J hj
  refine Vquo.i64 (254-J) 8 rfl rfl (by omega) (by omega) ?_
  refine zm (by omega) (by omega) rfl (zg (f:=U8 (k.getD ((254-J)/8) 0)) (zno (by omega)) ?_)
  refine Vrem.nat (254-J) 8 rfl rfl (by omega) ?_
  refine Vshr.b _ ((254-J)%8) rfl rfl (by omega) ?_
  refine Vbits.and8 _ 1 rfl rfl ?_
  have hs:=zs9 k u J
  refine zh (λh=>zp ?_) (λh=>zq ?_)
  ·have hb:(bitE k (254-J)==1)=true:=by rw[beq_iff_eq];exact zni h
   rw[hb]at hs
   refine za rfl rfl ?_
   refine za rfl rfl ?_
   refine za rfl rfl ?_
   refine ze (zql (ladN k u J).qx (ladN k u J).qz (ladN k u J).px (ladN k u J).pz u) ?_
   refine zd (m:=((254-J:Nat):Int)-1) rfl (by omega) ?_
   refine zh (λh=>zp ?_) (λh=>zq ?_)
   ·simp only[zb]at h
    exact⟨J+1,by omega,by omega,zad [(0,0),(1,1),(2,2)] rfl ⟨cr,rfl,rfl,rfl,zf (by congr 1;omega),trivial⟩ ⟨(aC (aA aZ)),by rw[hs];exact⟨_,_,rfl,cr,_,_,rfl,cr,_,_,rfl,cr,_,_,rfl,cr,_,_,rfl,cr,_,_,rfl,cr,_,_,rfl,cr,_,_,rfl,cr,_,_,rfl,cr,_,_,rfl,cr,rfl⟩,by rw[hs];exact⟨_,_,rfl,cr,_,_,rfl,cr,_,_,rfl,cr,_,_,rfl,cr,_,_,rfl,cr,_,_,rfl,cr,_,_,rfl,cr,_,_,rfl,cr,_,_,rfl,cr,_,_,rfl,cr,rfl⟩,trivial⟩⟩
   ·simp only[zb]at h
    obtain rfl:J=254:=by omega
    refine aV ?_
    refine za rfl rfl ?_
    refine za rfl rfl ?_
    refine ze (znq (zc4 (ladN k u 254).qx (ladN k u 254).qz (ladN k u 254).px (ladN k u 254).pz u).2.2) ?_
    refine ze (zbf (zc4 (ladN k u 254).qx (ladN k u 254).qz (ladN k u 254).px (ladN k u 254).pz u).2.1 (zc4 (ladN k u 254).qx (ladN k u 254).qz (ladN k u 254).px (ladN k u 254).pz u).2.2.inv) ?_
    refine ze (znp _) ?_
    exact zxn k u hs
  ·have hb:(bitE k (254-J)==1)=false:=by rw[beq_eq_false_iff_ne];exact zkq h
   rw[hb]at hs
   refine za rfl rfl ?_
   refine za rfl rfl ?_
   refine za rfl rfl ?_
   refine ze (zql (ladN k u J).px (ladN k u J).pz (ladN k u J).qx (ladN k u J).qz u) ?_
   refine zd (m:=((254-J:Nat):Int)-1) rfl (by omega) ?_
   refine zh (λh=>zp ?_) (λh=>zq ?_)
   ·simp only[zb]at h
    exact⟨J+1,by omega,by omega,zad [(0,0),(1,1),(2,2)] rfl ⟨cr,rfl,rfl,rfl,zf (by congr 1;omega),trivial⟩ ⟨(aC (aA aZ)),by rw[hs];exact⟨_,_,rfl,cr,_,_,rfl,cr,_,_,rfl,cr,_,_,rfl,cr,_,_,rfl,cr,_,_,rfl,cr,_,_,rfl,cr,_,_,rfl,cr,_,_,rfl,cr,_,_,rfl,cr,rfl⟩,by rw[hs];exact⟨_,_,rfl,cr,_,_,rfl,cr,_,_,rfl,cr,_,_,rfl,cr,_,_,rfl,cr,_,_,rfl,cr,_,_,rfl,cr,_,_,rfl,cr,_,_,rfl,cr,_,_,rfl,cr,rfl⟩,trivial⟩⟩
   ·simp only[zb]at h
    obtain rfl:J=254:=by omega
    refine aV ?_
    refine za rfl rfl ?_
    refine za rfl rfl ?_
    refine ze (znq (zc4 (ladN k u 254).px (ladN k u 254).pz (ladN k u 254).qx (ladN k u 254).qz u).1.2) ?_
    refine ze (zbf (zc4 (ladN k u 254).px (ladN k u 254).pz (ladN k u 254).qx (ladN k u 254).qz u).1.1 (zc4 (ladN k u 254).px (ladN k u 254).pz (ladN k u 254).qx (ladN k u 254).qz u).1.2.inv) ?_
    refine ze (znp _) ?_
    exact zxn k u hs
attribute [irreducible] zn0
end
section
def z1v(k p:List UInt8):List UInt8:=zn0 (zhx k) (Fe.of p)
def nine:List UInt8:=Fe.bytes ⟨9&&&msk,shrW 9 51,0,0,0⟩
def zg2(k:List UInt8):List UInt8:=z1v k nine
theorem zaob:nine.length=32:=Fe.bytes_len _
attribute [irreducible] nine
theorem zdib(k p:List UInt8)(hk:k.length=32)(hp:p.length=32):aG 209 [bs k,bs p] (.r (.tu [bs (z1v k p),Er 0])):=by
 refine aT Tryz.func209 rfl ?_
 refine zu (by simp[hk]) (zq ?_)
 refine zu (by simp[hp]) (zq ?_)
 refine ze (zdhb k hk) ?_
 refine ze (h_of p hp) ?_
 refine ze (z6d (zhx k) (Fe.of p) ((zpz k).trans hk)) ?_
 exact⟨_,rfl,cr⟩
theorem zgrb(k:List UInt8)(hk:k.length=32):aG 123 [bs k] (.r (.tu [bs (zg2 k),Er 0])):=by
 refine aT Tryz.func123 rfl ?_
 refine ze (ziv 9) ?_
 refine ze (znp ⟨9&&&msk,shrW 9 51,0,0,0⟩) ?_
 refine Vcall.mk' (zdib k nine hk zaob) (zk (cr) (zk (zf (by unfold nine;rfl)) Cvs.nil)) ?_
 exact⟨_,rfl,cr⟩
def kemB:List UInt8:=[75,69,77,0,32]
def zhh(seed:List UInt8):List UInt8:=epdB kemB (extB kemB [] [100,107,112,95,112,114,107] seed) [115,107] [] 32
theorem z8z(n s l i:List UInt8){m:Nat}(h:m<=32):(epdB n s l i m).length=m:=zo0 _ _ h
theorem z82(n s l i:List UInt8):(extB n s l i).length=32:=zch _ _
theorem zi4(seed:List UInt8):(zhh seed).length=32:=z8z _ _ _ _ (by omega)
theorem zrv(seed:List UInt8)(hs:seed.length<=1000000000):aG 49 [bs seed] (.r (.tu [bs (zhh seed),bs (zg2 (zhh seed))])):=by
 refine aT Tryz.func49 rfl ?_
 have hx:(extB kemB [] [100,107,112,95,112,114,107] seed).length<=1000000000:=by rw[z82];omega
 refine Vcall.mk' (z18 ⟨#[75,69,77,0,32]⟩ ⟨#[100,107,112,95,112,114,107]⟩ [] seed (by simp) hs (by decide) (by decide)) (zk (cr) (zk (Cv.nil 1) (zn _))) ?_
 refine Vcall.mk' (z5a ⟨#[75,69,77,0,32]⟩ ⟨#[115,107]⟩ (extB kemB [] [100,107,112,95,112,114,107] seed) [] 32 (by omega) hx (by simp) (by decide) (by decide)) (zk (cr) (zk (cr) (zk (cr) (zk (Cv.nil 1) (zn _))))) ?_
 refine ze (zgrb (zhh seed) (zi4 seed)) ?_
 exact⟨_,rfl,cr⟩
theorem zbk(s l c:List UInt8){n:Nat}(h:n<=32):(labB s l c n).length=n:=zo0 _ _ h
def zux:List UInt8:=[112,97,116,104]
theorem z51(s:List UInt8)(hs:s.length<=1000000000):aG 380 [bs s] (.r (bs (labB s zux [] 32))):=by
 refine aT Tryz.func380 rfl ?_
 refine ze (zc1 s ⟨#[112,97,116,104]⟩ hs (by decide)) ?_
 exact cr
end
section
def wayS:List UInt8:=[119,97,121]
def secN(seed:List UInt8):Nat->List UInt8
 |0=>labB seed wayS [] 32
 |k+1=>labB (secN seed k) zux [] 32
theorem z74(seed:List UInt8)(k:Nat):secN seed (k+1)=labB (secN seed k) zux [] 32:=rfl
theorem zx8(seed:List UInt8): ∀k,(secN seed k).length=32
 |0=>zbk _ _ _ (by omega)
 |k+1=>zbk _ _ _ (by omega)
attribute [irreducible] secN
def zcl(seed:List UInt8)(m:Nat):List (List UInt8):=(List.range m).map (secN seed)
theorem zna(seed:List UInt8)(m:Nat):(zcl seed m).length=m:=by simp[zcl]
theorem z4a(seed:List UInt8)(m:Nat):zcl seed (m+1)=zcl seed m++[secN seed m]:=by simp[zcl,List.range_succ]
theorem ztu(seed:List UInt8):zcl seed 1=[secN seed 0]:=by simp[zcl,List.range_succ]
theorem z75(seed:List UInt8){m:Nat}:((((zcl seed (m+1)).map bs).drop ((m:Int).toNat*1)).take 1)[0]?=some (bs (secN seed m)):=by
 have h:m< ((zcl seed (m+1)).map bs).length:=by rw[List.length_map,zna];omega
 rw[Int.toNat_natCast,Nat.mul_one,List.getElem?_take,if_pos (by omega),List.getElem?_drop]
 show((zcl seed (m+1)).map bs)[m]?=_
 rw[List.getElem?_eq_getElem h]
 simp[zcl]
def secI(seed:List UInt8)(n:Int)(m:Nat):St:={F:=[(1, .r (I n)),(5, .own 0)],O:=[(0,some (.ch 22 1 (m+1) ((zcl seed (m+1)).map bs) true))],nx:=1}
theorem z09(seed:List UInt8)(m:Nat):(zcl seed (m+1)).map bs++[bs (labB (secN seed m) zux [] 32)]=(zcl seed (m+1+1)).map bs:=by
 rw[z4a seed (m+1),List.map_append,<-z74]
 rfl
theorem ze9b(seed:List UInt8){n:Int}{m:Nat}(h:n=(m:Int)):Cv (.sl 1 (m+1) ((zcl seed (m+1)).map bs)) (bss (zcl seed (n.toNat+1))):=zf (by subst h;rw[Int.toNat_natCast];unfold bss;rw[zna])
theorem z6g(seed:List UInt8)(n:Int)(hs:seed.length<=1000000000)(hn:0<=n/\n<=16):aG 277 [bs seed,I n] (.r (bss (zcl seed (n.toNat+1)))):=by
 refine aT Tryz.func277 rfl ?_
 refine Vcode.scope mixed Tab_ok 0 (secI seed n) (λm=>(m:Int)<=n) (λm=>n.toNat-m) rfl ?_ ?_
 ·refine zu (by simp;omega) ?_
  refine zu (by simp;omega) (zq ?_)
  refine ze (zc1 seed ⟨#[119,97,121]⟩ hs (by decide)) ?_
  refine zw ?_
  have e0:[bs (labB seed wayS [] 32)]=(zcl seed 1).map bs:=by rw[ztu];unfold secN;rfl
  refine zh (λh=>zp ?_) (λh=>zq ?_)
  ·simp only[zb]at h
   refine zd (m:=0) rfl (by decide) ?_
   refine zm (by decide) (by decide) rfl (zg rfl ?_)
   refine ze (z51 (labB seed wayS [] 32) (by rw[zbk _ _ _ (by omega)];omega)) ?_
   refine zw ?_
   refine Vapp.mk' (j:=2) (zs:=(zcl seed 2).map bs) (by decide) (by decide) rfl (by rw[<-z09 seed 0];unfold secN;rw[ztu];unfold secN;rfl) ?_
   exact⟨1,by omega,zad [(0,2)] rfl ⟨cr,rfl,trivial⟩ ⟨⟨rfl,rfl,rfl,rfl,zn _⟩,trivial⟩⟩
  ·simp only[zb]at h
   exact zf (by rw[show n.toNat=0 by omega];unfold bss;rw[zna,<-e0];rfl)
 ·intro m hm
  refine zh (λh=>zp ?_) (λh=>zq ?_)
  ·simp only[zb]at h
   refine zd (m:=(m:Int)) (by omega) (by omega) ?_
   refine zm (by omega) (by omega) rfl (zg (z75 seed) ?_)
   refine ze (z51 (secN seed m) (by rw[zx8];omega)) ?_
   refine zw ?_
   refine Vapp.mk' (j:=m+1+1) (zs:=(zcl seed (m+1+1)).map bs) (by simp only[maxLen];omega) (by show(m+1+1)*24<=_;omega) rfl (z09 seed m) ?_
   exact⟨m+1,by omega,by omega,zad [(0,2)] rfl ⟨cr,rfl,trivial⟩ ⟨⟨rfl,rfl,rfl,rfl,zn _⟩,trivial⟩⟩
  ·simp only[zb]at h
   exact ze9b seed (by omega)
end
structure KeyP where
 at_:Int
 key:List UInt8
 deriving DecidableEq
abbrev KeyP.c(k:KeyP):List RV:=[I k.at_,bs k.key]
def keyR(l:List KeyP):RV:= .sl 2 l.length (l.flatMap KeyP.c)
def zlm(n:Nat):List UInt8:=((List.replicate 32 (0:UInt8)).set 0 (UInt8.ofNat n)).set 1 (UInt8.ofNat (n/256))
theorem znb(n:Nat):(zlm n).length=32:=by simp[zlm]
theorem z6h(n:Nat)(hn:n<=1000000000):aG 41 [I n] (bch (zlm n)):=by
 refine za1 (T:=Tab) mixed Tab_ok Tryz.func41 rfl (by kernel_rfl) ?_
 refine⟨rfl,by decide,by decide,by decide,_,_,rfl,zs32,Vpub.own ?_⟩
 refine Vint.u8 n rfl ?_
 refine Vquo.i64 n 256 rfl rfl (by omega) (by omega) ?_
 refine Vint.u8 (n/256) rfl ?_
 refine Vadr.mk' 0 rfl (by decide) ?_
 refine⟨by decide,((List.replicate 32 (0:UInt8)).set 0 (UInt8.ofNat n)).map U8,zcq (by decide),?_⟩
 refine Vadr.mk' 1 rfl (by decide) ?_
 refine⟨by rw[List.length_map,List.length_set];decide,(zlm n).map U8,zcq (by rw[List.length_set];decide),?_⟩
 refine⟨_,zbb (id:=0) rfl,?_⟩
 exact congrArg (λm=>some (Ow.ch 5 1 m ((zlm n).map U8) true)) (znb n).symm
theorem zku(k:List UInt8):(zg2 k).length=32:=by unfold zg2 z1v zn0;exact Fe.bytes_len _
structure CtxP where
 group:List UInt8
 epoch:Nat
 tree:List UInt8
 trans:List UInt8
abbrev CtxP.c(x:CtxP):List RV:=[bs x.group, .i .u64 x.epoch,bs x.tree,bs x.trans]
structure CtxP.fit (x:CtxP):Prop where
 group:x.group.length<=1000000
 epoch:x.epoch<18446744073709551616
 tree:x.tree.length<=1000000
 trans:x.trans.length<=1000000
def ctxB(x:CtxP):List UInt8:=beB 2 1++beB 2 1++vecB x.group++beB 8 x.epoch++vecB x.tree++vecB x.trans++[0]
theorem zjo(x:CtxP):(ctxB x).length<=x.group.length+x.tree.length+x.trans.length+25:=by
 have v1:=zai x.group
 have v2:=zai x.tree
 have v3:=zai x.trans
 simp only[ctxB,aL,zao,List.length_cons,List.length_nil]
 omega
theorem zmf(x:CtxP)(hx:x.fit):aG 157 [.ag x.c] (.r (bs (ctxB x))):=by
 refine aT Tryz.func157 rfl ?_
 obtain⟨h1,h2,h3,h4⟩:=hx
 have v1:=zai x.group
 have v2:=zai x.tree
 have v3:=zai x.trans
 refine aV ?_
 refine Vcall.mk' (ze2 [] 2 1 (by simp) (.inr (.inl rfl))) (zk (Cv.nil _) (zn _)) ?_
 rw[List.nil_append]
 refine ze (ze2 (beB 2 1) 2 1 (by rw[zao];omega) (.inr (.inl rfl))) ?_
 refine ze (zeh (beB 2 1++beB 2 1) x.group (by rw[aL,zao];omega) (by omega)) ?_
 refine ze (ze2 (beB 2 1++beB 2 1++vecB x.group) 8 x.epoch (by simp only[aL,zao];omega) (.inr (.inr (.inr rfl)))) ?_
 refine aV ?_
 refine ze (zeh (beB 2 1++beB 2 1++vecB x.group++beB 8 x.epoch) x.tree (by simp only[aL,zao];omega) (by omega)) ?_
 refine ze (zeh (beB 2 1++beB 2 1++vecB x.group++beB 8 x.epoch++vecB x.tree) x.trans (by simp only[aL,zao];omega) (by omega)) ?_
 refine zw ?_
 refine Vapp.mk' (j:=(ctxB x).length) (zs:=(ctxB x).map U8) (by simp only[maxLen,aL,zao];omega) (by simp only[aL,zao];show(_+_)*1<=_;omega) (by simp only[ctxB,aL,List.length_cons,List.length_nil]) (by simp only[ctxB,List.map_append];rfl) ?_
 exact cr
theorem zoi(s:List UInt8)(label:ByteArray)(ctx:List UInt8)(n:Nat)(hn:1<=n/\n<=32)(hs:s.length<=1000000000)(hl:label.size<=1048576)(hc:ctx.length<=1048576):aG 203 [bs s,Str label,bs ctx,I n] (.r (bs (labB s (sB label) ctx n))):=by
 refine aT Tryz.func203 rfl ?_
 refine ze (zvj s label ctx n hn hs hl hc) ?_
 exact cr
abbrev jnrS:ByteArray:=⟨#[106,111,105,110,101,114]⟩
abbrev epoS:ByteArray:=⟨#[101,112,111,99,104]⟩
abbrev wlcS:ByteArray:=⟨#[119,101,108,99,111,109,101]⟩
abbrev grpS:ByteArray:=⟨#[103,114,111,117,112]⟩
abbrev sndS:ByteArray:=⟨#[115,101,110,100,101,114,32,100,97,116,97]⟩
abbrev encS:ByteArray:=⟨#[101,110,99,114,121,112,116,105,111,110]⟩
abbrev expS:ByteArray:=⟨#[101,120,112,111,114,116,101,114]⟩
abbrev autS:ByteArray:=⟨#[97,117,116,104,101,110,116,105,99,97,116,105,111,110]⟩
abbrev xtlS:ByteArray:=⟨#[101,120,116,101,114,110,97,108]⟩
abbrev cfmS:ByteArray:=⟨#[99,111,110,102,105,114,109]⟩
abbrev mbrS:ByteArray:=⟨#[109,101,109,98,101,114,115,104,105,112]⟩
abbrev rsmS:ByteArray:=⟨#[114,101,115,117,109,112,116,105,111,110]⟩
abbrev iniS:ByteArray:=⟨#[105,110,105,116]⟩
structure SecP where
 jn:List UInt8
 wl:List UInt8
 ep:List UInt8
 sd:List UInt8
 en:List UInt8
 ex:List UInt8
 au:List UInt8
 xt:List UInt8
 cf:List UInt8
 mb:List UInt8
 rs:List UInt8
 it:List UInt8
abbrev SecP.c(s:SecP):List RV:=[bs s.jn,bs s.wl,bs s.ep,bs s.sd,bs s.en,bs s.ex,bs s.au,bs s.xt,bs s.cf,bs s.mb,bs s.rs,bs s.it]
def ziz(init commit ctx:List UInt8):List UInt8:=labB (macB init commit) (sB jnrS) ctx 32
theorem z9r(init commit:List UInt8)(x:CtxP)(hx:x.fit)(hs:x.group.length+x.tree.length+x.trans.length<=1000000)(hi:init.length<=1000000000)(hc:commit.length<=1000000000):aG 118 [bs init,bs commit, .ag x.c] (.r (bs (ziz init commit (ctxB x)))):=by
 refine aT Tryz.func118 rfl ?_
 have hb:=zjo x
 have hm:=zch init commit
 refine aV ?_
 refine ze (zkz init commit (by omega) (by omega)) ?_
 refine za rfl rfl ?_
 refine ze (zmf x hx) ?_
 refine ze (zoi (macB init commit) jnrS (ctxB x) 32 (by omega) (by omega) (by decide) (by omega)) ?_
 exact cr
abbrev At(b off:Nat):RV:= .x (.pointer (some ⟨b,off,none⟩))
abbrev tabR(b:Nat):List RV:=[Str sndS,At b 3,Str encS,At b 4,Str expS,At b 5,Str autS,At b 6,Str xtlS,At b 7,Str cfmS,At b 8,Str mbrS,At b 9,Str rsmS,At b 10,Str iniS,At b 11]
set_option maxRecDepth 20000 in
set_option maxHeartbeats 4000000 in
theorem zeab(b:Nat):aG 204 [At b 0] (.r (.sl 2 9 (tabR b))):=by
 refine aT Tryz.func204 rfl ?_
 refine aV ?_
 refine zw ?_
 exact cr
def secE(jn wl ep:List UInt8):SecP:=⟨jn,wl,ep,labB ep (sB sndS) [] 32,labB ep (sB encS) [] 32,labB ep (sB expS) [] 32,labB ep (sB autS) [] 32,labB ep (sB xtlS) [] 32,labB ep (sB cfmS) [] 32,labB ep (sB mbrS) [] 32,labB ep (sB rsmS) [] 32,labB ep (sB iniS) [] 32⟩
def z32:List UInt8:=List.replicate 32 0
def schS(joiner ctx:List UInt8):SecP:=secE joiner (labB (macB joiner z32) (sB wlcS) [] 32) (labB (macB joiner z32) (sB epoS) ctx 32)
abbrev nl12:List TF:=[.r nl, .r nl, .r nl, .r nl, .r nl, .r nl, .r nl, .r nl, .r nl, .r nl, .r nl, .r nl]
def zf3b(jn wl ep:List UInt8)(j:Nat):List TF:=[.r (bs jn), .r (bs wl), .r (bs ep)]++((((secE jn wl ep).c.drop 3).take j).map TF.r++List.replicate (9-j) (.r nl))
set_option maxHeartbeats 4000000 in
theorem zdyb(joiner m wl ep z cx:List UInt8)(x:CtxP)(hj:joiner.length<=1000000000)(hz:32=z.length)(hzm:(List.replicate ((32:Int).toNat) ([Value.int .u8 0].map ofC)).flatten=z.map U8)(hep:ep.length=32)
  (c1:aG 202 [bs joiner,bs z] (bch m)) (c2:aG 45 [bs m,Str wlcS] (.r (bs wl)))
  (c3:aG 157 [.ag x.c] (.r (bs cx))) (c4:aG 203 [bs m,Str epoS,bs cx,I 32] (.r (bs ep))):
  aG 117 [bs joiner, .ag x.c] (.r (.ag (secE joiner wl ep).c)):=by
 refine aT Tryz.func117 rfl ?_
 refine⟨rfl,by decide,by decide,by decide,z.length,z.map U8,hz,hzm,zw ?_⟩
 refine ze c1 ?_
 refine ze (zbu joiner (by omega)) ?_
 refine ze c2 ?_
 refine za rfl rfl ?_
 refine ze c3 ?_
 refine ze c4 ?_
 refine Vstep.nmB 5 1000000 rfl λb=>Vstep.callX (tn:=1000000) rfl rfl rfl (zeab b) ?_
 refine zy (λj:Nat=>⟨[(4, .own 1),(6, .own 5),(22, .r (.sl 2 9 (tabR b))),(23, .r (I 9)),(24, .r (I j)),(1000000, .nm 5 (.pointer (some ⟨b,0,none⟩)))],[(1,some (.box nl12)),(5,some (.box (zf3b joiner wl ep j)))],6⟩) (λj=>j<=9) (λj=>9-j) 0 (by omega) (zad [(1,1),(5,5)] rfl (by repeat' (first|exact rfl|exact trivial|exact cr|exact Cv.nil _|exact⟨rfl,rfl⟩|refine⟨_,_,rfl,?_,?_⟩|refine⟨?_,?_⟩)) (by repeat' (first|exact rfl|exact trivial|exact cr|exact Cv.nil _|exact⟨rfl,rfl⟩|refine⟨_,_,rfl,?_,?_⟩|refine⟨?_,?_⟩))) ?_
 intro j hj
 rcases(by omega:j<9\/j=9)with hlt |rfl
 rotate_left
 ·refine zu rfl (zq ?_)
  refine za rfl rfl ?_
  refine za rfl rfl ?_
  exact cr
 obtain⟨k,hk⟩: ∃k,k=j+1:=⟨_,rfl⟩
 rcases(by omega:j=0\/j=1\/j=2\/j=3\/j=4\/j=5\/j=6\/j=7\/j=8)with rfl |rfl |rfl |rfl |rfl |rfl |rfl |rfl |rfl
 all_goals
  refine zt rfl (zp ?_)
  refine zm (by decide) (by decide) rfl ?_
  refine za rfl rfl ?_
  refine aV ?_
  refine ze (zc1 ep _ (by omega) (by decide)) ?_
  refine Vstep.sub (zpm (id:=5) (t:=35) (tn:=1000000) rfl rfl rfl) (Vstep.sto Tab_ok rfl ?_)
  refine zd (m:=(k:Int)) (by omega) (by omega) ?_
  exact⟨k,by omega,by omega,by subst hk;exact zad [(1,1),(5,5)] rfl (by repeat' (first|exact rfl|exact trivial|exact cr|exact Cv.nil _|exact⟨rfl,rfl⟩|refine⟨_,_,rfl,?_,?_⟩|refine⟨?_,?_⟩)) (by repeat' (first|exact rfl|exact trivial|exact cr|exact Cv.nil _|exact⟨rfl,rfl⟩|refine⟨_,_,rfl,?_,?_⟩|refine⟨?_,?_⟩))⟩
theorem zkib(joiner:List UInt8)(x:CtxP)(hx:x.fit)(hs:x.group.length+x.tree.length+x.trans.length<=1000000)(hj:joiner.length<=1000000000):aG 117 [bs joiner, .ag x.c] (.r (.ag (schS joiner (ctxB x)).c)):=by
 have hb:=zjo x
 have hm:=zch joiner z32
 have c1:=zkz joiner z32 hj (by decide)
 have c2:=zc1 (macB joiner z32) wlcS (by omega) (by decide)
 have c3:=zmf x hx
 have c4:=zoi (macB joiner z32) epoS (ctxB x) 32 (by omega) (by omega) (by decide) (by omega)
 have h1:=zbk (macB joiner z32) (sB epoS) (ctxB x) (n:=32) (by omega)
 exact zdyb joiner _ _ _ z32 _ x hj rfl zs32 h1 c1 c2 c3 c4
theorem z0h(init commit:List UInt8)(x:CtxP)(hx:x.fit)(hs:x.group.length+x.tree.length+x.trans.length<=1000000)(hi:init.length<=1000000000)(hc:commit.length<=1000000000):aG 44 [bs init,bs commit, .ag x.c] (.r (.ag (schS (ziz init commit (ctxB x)) (ctxB x)).c)):=by
 refine aT Tryz.func44 rfl ?_
 have hj:=zbk (macB init commit) (sB jnrS) (ctxB x) (n:=32) (by omega)
 have c2:=zkib (ziz init commit (ctxB x)) x hx hs (by unfold ziz;omega)
 refine aV ?_
 refine za rfl rfl ?_
 refine ze (z9r init commit x hx hs hi hc) ?_
 refine za rfl rfl ?_
 refine ze c2 ?_
 generalize schS (ziz init commit (ctxB x)) (ctxB x)=s
 refine za rfl rfl ?_
 exact cr
theorem z6m(s:SecP)(l:List UInt8)(h1:s.cf.length<=1000000)(h2:l.length<=1000000):aG 47 [.ag s.c,bs l] (.r (bs (macB s.cf l))):=by
 refine aT Tryz.func47 rfl ?_
 have h:=zuo s.cf [l] (by omega) (by simp;omega)
 have e:([l]:List (List UInt8)).flatMap id=l:=by simp
 rw[e]at h
 refine zw ?_
 refine ze h ?_
 exact cr
def intB(c t:List UInt8):List UInt8:=shaB (c++vecB t)
theorem zqk(c t:List UInt8)(h1:c.length<=1000000)(h2:t.length<=1000000):aG 48 [bs c,bs t] (.r (bs (intB c t))):=by
 refine aT Tryz.func48 rfl ?_
 have hv:=zai t
 have h:=znn [c,vecB t] (by simp;omega)
 have e:([c,vecB t]:List (List UInt8)).flatMap id=c++vecB t:=by simp
 rw[e]at h
 refine Vcall.mk' (zbj [] t (by simp) (by omega)) (zk (Cv.nil 1) (zn _)) ?_
 rw[List.nil_append]
 refine zw ?_
 refine ze h ?_
 exact cr
theorem zgw{S:St}{id i im gh:Nat}{m:Value}{ents:List (Int×RV)}{cells:List TF}(ho:oget S.O im=some (.gen (mapO ents)))(hgh:fget S.F gh=some (.nm im m))(hb:oget S.O id=some (.box cells))(hc:cells[i]?=some (.r (.x m)))(hne:id≠im):
  Sub S ⟨S.F,(id,some (.box (cells.set i (.r (.s (mapS ents))))))::(im,none)::S.O,S.nx⟩:=by
 intro B N a w k h0
 obtain⟨k',⟨g,hs⟩,hat,_⟩:=zor ho hgh h0
 have hid:oget ((im,none)::S.O) id=some (.box cells):=by
  simp only[oget]
  split
  ·rename_i hb;exact absurd (Nat.eq_of_beq_eq_true hb).symm hne
  ·exact hb
 have old: ∀x ox,oget ((id,some (Ow.box (cells.set i (.r (.s (mapS ents))))))::(im,none)::S.O) x=some ox->∃ox',oget ((im,none)::S.O) x=some ox':=λx ox hx=>by
  rcases zar hx with⟨rfl,_⟩ |⟨_,h'⟩
  ·exact⟨_,hid⟩
  ·exact⟨_,h'⟩
 refine⟨k',g,hs.size,hs.defers,hs.keep,hs.kk,hs.facts,λj o' ho'=>?_,λx y ox oy b hx hy hne hb=>?_⟩
 ·rcases zar ho' with⟨rfl,e'⟩ |⟨_,h'⟩
  ·cases e'
   obtain⟨q1,q2,q3,q4⟩:=hs.owns _ _ hid
   refine⟨q1,λf hf=>?_,?_,q4⟩
   ·rcases List.mem_or_eq_of_mem_set hf with hf |rfl
    ·exact q2 f hf
    ·exact True.intro
   ·obtain⟨b,cur,t,e1,e2,e3,e4,e5⟩:=q3
    refine⟨b,cur,t,e1,e2,e3,by simpa using e4,λj f u hf hu=>?_⟩
    rw[List.getElem?_set]at hf
    split at hf
    ·rename_i hij
     subst hij
     split at hf
     ·cases hf
      obtain⟨u1,u2⟩:=e5 i _ u hc hu
      simp only[TF.at_,RV.at_]at u2
      refine⟨u1,?_⟩
      simp only[TF.at_]
      rw[u2]
      exact hat
     ·cases hf
    ·exact e5 j f u hf hu
  ·exact hs.owns j o' h'
 ·obtain⟨ox',hx'⟩:=old x ox hx
  obtain⟨oy',hy'⟩:=old y oy hy
  exact hs.apart x y ox' oy' b hx' hy' hne hb
abbrev z7p:RV:= .ag [I 0,I 0, .x (.map none), .x (.map none)]
def zc3(a:Int):List Int->Int
 |[]=>a
 |x::r=>zc3 x r
def ascL(a:Int):List Int->Bool
 |[]=>true
 |x::r=>decide (a<x)&&ascL x r
theorem zk8(x:Int): ∀(l:List Int) (a:Int),zc3 a (l++[x])=x
 |[],a=>rfl
 |y::r,a=>by simp only[List.cons_append,zc3];exact zk8 x r y
theorem zgz(x:Int): ∀(l:List Int) (a:Int),ascL a (l++[x])=(ascL a l&&decide (zc3 a l<x))
 |[],a=>by show(decide (a<x)&&true)=(true&&decide (a<x));rw[Bool.and_true,Bool.true_and]
 |y::r,a=>by show(decide (a<y)&&ascL y (r++[x]))=((decide (a<y)&&ascL y r)&&decide (zc3 y r<x));rw[zgz x r y,Bool.and_assoc]
theorem zox: ∀(l m:List Int) (a:Int),ascL a (l++m)=(ascL a l&&ascL (zc3 a l) m)
 |[],m,a=>by show ascL a m=(true&&ascL a m);rw[Bool.true_and]
 |y::r,m,a=>by show(decide (a<y)&&ascL y (r++m))=((decide (a<y)&&ascL y r)&&ascL (zc3 y r) m);rw[zox r m y,Bool.and_assoc]
theorem zzx: ∀(l:List Int) (a:Int),ascL a l=true->a<=zc3 a l/\∀y∈l,a<y/\y<=zc3 a l
 |[],a,_=>⟨Int.le_refl _,λy h=>by cases h⟩
 |x::r,a,h=>by
  simp only[ascL,Bool.and_eq_true,decide_eq_true_eq]at h
  obtain⟨h1,h2⟩:=zzx r x h.2
  refine⟨by simp only[zc3];omega,λy hy=>?_⟩
  simp only[zc3]
  rcases List.mem_cons.1 hy with rfl |hy
  ·exact⟨h.1,h1⟩
  ·have:=h2 y hy
   exact⟨by omega,this.2⟩
theorem zu6{l:List Int}{a x:Int}(h:ascL a l=true)(hx:zc3 a l<x):x∉l:=λhm=>by
 have:=((zzx l a h).2 x hm).2
 omega
theorem zpb: ∀{ents:List (Int×RV)} {n:Int},n∉ents.map (·.1)->zb8 ents n=none
 |[],n,_=>rfl
 |(m,r)::l,n,h=>by
  simp only[List.map_cons,List.mem_cons,not_or]at h
  simp only[zb8]
  rw[if_neg (λe=>h.1 e.symm)]
  exact zpb h.2
theorem zfc{α β:Type}(f:α->β){l:List α}{j:Nat}(h:j<l.length):(l.take (j+1)).map f=(l.take j).map f++[f l[j]]:=by
 rw[List.take_succ_eq_append_getElem h,List.map_append];rfl
def atsO(s:Lean_):List Int:=s.opn.map (·.at_)
def atsH(s:Lean_):List Int:=s.shut.map (·.at_)
def ascS(s:Lean_):Bool:=ascL (-1) (atsO s)&&ascL (-1) (atsH s)
def lean0:Lean_:=⟨0,0,[],[]⟩
def pieS(s:Lean_):Lean_:=if ascS s=true then s else lean0
abbrev Lean_.pr(s:Lean_):RV:=zxi s.leaves s.own s.opn s.shut
theorem z7q:Cv z7p lean0.pr:=Cv.ag (zk (cr) (zk (cr) (zk (λw k v h=>by simp only[RV.at_]at h⊢;exact .inl ⟨h,rfl⟩) (zk (λw k v h=>by simp only[RV.at_]at h⊢;exact .inl ⟨h,rfl⟩) Cvs.nil))))
structure Lean_.bd (s:Lean_):Prop where
 nl:i64 s.leaves
 no:i64 s.own
 lo:s.opn.length<=1000000
 lh:s.shut.length<=1000000
 ao: ∀x∈s.opn,i64 x.at_
 ah: ∀x∈s.shut,i64 x.at_
 fo: ∀x∈s.opn,x.node.fit
 fh: ∀x∈s.shut,x.hash.length<=1000000000
abbrev pmO(b1 b2:Nat)(s:Lean_)(j i:Nat):List (Nat×Option Ow):=[(0,some (.box (s.c.map .r))),(1,some (.box [.r (I 0), .r (I 0), .r (.x (.map none)), .r (.x (.map none))])),(2,some (.gen (mapO (zbt (s.opn.take j))))),(3,some (.gen (mapO (zby (s.shut.take i))))),(4,some (.box [.r (I s.leaves), .r (I s.own), .r (.x (.map (some b1))), .r (.x (.map (some b2)))]))]
set_option maxHeartbeats 4000000 in
theorem z5e(s:Lean_)(hb:s.bd):aG 456 [.ag s.c] (.r (.tu [(pieS s).pr, .b (ascS s)])):=by
 refine za1 (T:=Tab) mixed Tab_ok Tryz.func456 rfl (by kernel_rfl) ?_
 have hlo:=hb.lo
 have hlh:=hb.lh
 have bad:ascS s=false->Cv (.tu [z7p, .b false]) (.tu [(pieS s).pr, .b (ascS s)]):=λh=>by
  have:pieS s=lean0:=by unfold pieS;rw[h];simp
  rw[this,h]
  exact Cv.tu (zk z7q (zn _))
 refine Vcode.run Tab_ok ?_
 refine Vstep.mapMk 2000001 rfl λb1=>?_
 refine Vstep.mapMk 2000002 rfl λb2=>?_
 refine Vloop.mkx (λj:Nat=>⟨[(1, .own 0),(2, .own 1),(4, .own 4),(5, .r (I (zc3 (-1) ((s.opn.take j).map (·.at_))))),(18, .r (zq6 s.opn)),(19, .r (I s.opn.length)),(20, .r (I j)),(2000001, .nm 2 (.map (some b1))),(2000002, .nm 3 (.map (some b2)))],pmO b1 b2 s j 0,5⟩) (λj=>j<=s.opn.length/\ascL (-1) ((s.opn.take j).map (·.at_))=true) (λj=>s.opn.length-j) 0 ⟨by omega,rfl⟩ (zad [(0,0),(1,1),(2,2),(3,3),(4,4)] rfl ⟨rfl,rfl,rfl,cr,cr,cr,cr,⟨rfl,rfl⟩,⟨rfl,rfl⟩,trivial⟩ ⟨(aC aZ),(aC aZ),λ_ _ _ hh=>hh,λ_ _ _ hh=>hh,(aC aZ),trivial⟩) ?_
 rintro j ⟨hj,hasc⟩
 refine zh (λh=>zp ?_) (λh=>zq ?_)
 ·simp only[zb]at h
  have hj':j<s.opn.length:=by omega
  have hai:=hb.ao s.opn[j] (List.getElem_mem hj')
  have hsn:=zfc Spot.at_ hj'
  refine zm (by omega) (by omega) (zk6 (f:=Spot.c) (λ_=>rfl) rfl hj') ?_
  refine za rfl rfl ?_
  refine zh (λh2=>zp ?_) (λh2=>zq ?_)
  ·simp only[zb]at h2
   refine⟨_,zo _,?_⟩
   refine⟨_,zo _,?_⟩
   refine za rfl rfl ?_
   have hf:ascS s=false:=by
    have e:atsO s=((s.opn.take (j+1)).map (·.at_))++(s.opn.drop (j+1)).map (·.at_):=by unfold atsO;rw[<-List.map_append,List.take_append_drop]
    have h3:decide (zc3 (-1) ((s.opn.take j).map (·.at_))<s.opn[j].at_)=false:=decide_eq_false (by omega)
    unfold ascS
    rw[e,zox,hsn,zgz,h3]
    simp
   exact⟨_,rfl,bad hf⟩
  ·simp only[zb]at h2
   have hlt:zc3 (-1) ((s.opn.take j).map (·.at_))<s.opn[j].at_:=by omega
   refine za rfl rfl ?_
   have hk:(zbt (s.opn.take j)).map (·.1)=(s.opn.take j).map (·.at_):=zlf _
   refine Vstep.mapPut 2 2000001 rfl rfl rfl rfl rfl rfl rfl zki zho (zpb (by rw[hk];exact zu6 hasc hlt)) ?_
   refine zd (m:=((j+1:Nat):Int)) (by omega) (by omega) ?_
   have hsN:zbt (s.opn.take (j+1))=zbt (s.opn.take j)++[(s.opn[j].at_, .ag s.opn[j].node.c)]:=zfc _ hj'
   refine⟨j+1,⟨by omega,by rw[hsn,zgz,hasc,decide_eq_true hlt];rfl⟩,by omega,zad [(0,0),(1,1),(2,2),(3,3),(4,4)] rfl ⟨rfl,rfl,rfl,zf (by rw[hsn,zk8]),cr,cr,cr,⟨rfl,rfl⟩,⟨rfl,rfl⟩,trivial⟩ ⟨(aC aZ),(aC aZ),λ_ _ _ hh=>by rw[hsN];exact hh,λ_ _ _ hh=>hh,(aC aZ),trivial⟩⟩
 simp only[zb]at h
 rw[List.take_of_length_le (by omega)]at hasc
 refine⟨_,zo _,?_⟩
 refine Vloop.mkx (λi:Nat=>⟨[(1, .own 0),(2, .own 1),(4, .own 4),(5, .r (I (zc3 (-1) ((s.shut.take i).map (·.at_))))),(39, .r (z4f s.shut)),(40, .r (I s.shut.length)),(41, .r (I i)),(2000001, .nm 2 (.map (some b1))),(2000002, .nm 3 (.map (some b2)))],pmO b1 b2 s s.opn.length i,5⟩) (λi=>i<=s.shut.length/\ascL (-1) ((s.shut.take i).map (·.at_))=true) (λi=>s.shut.length-i) 0 ⟨by omega,rfl⟩ (zad [(0,0),(1,1),(2,2),(3,3),(4,4)] rfl ⟨rfl,rfl,rfl,cr,cr,cr,cr,⟨rfl,rfl⟩,⟨rfl,rfl⟩,trivial⟩ ⟨(aC aZ),(aC aZ),λ_ _ _ hh=>by rw[List.take_of_length_le (Nat.le_refl _)];rw[List.take_of_length_le (by omega)]at hh;exact hh,λ_ _ _ hh=>hh,(aC aZ),trivial⟩) ?_
 clear h hj
 rintro i ⟨hi,hasc2⟩
 refine zh (λh=>zp ?_) (λh=>zq ?_)
 ·simp only[zb]at h
  have hi':i<s.shut.length:=by omega
  have hsn:=zfc Stub.at_ hi'
  refine zm (by omega) (by omega) (zk6 (f:=Stub.c) (λ_=>rfl) rfl hi') ?_
  refine za rfl rfl ?_
  refine zh (λh2=>zp ?_) (λh2=>zq ?_)
  ·simp only[zb]at h2
   refine⟨_,zo _,?_⟩
   refine⟨_,zo _,?_⟩
   refine za rfl rfl ?_
   have hf:ascS s=false:=by
    have e:atsH s=((s.shut.take (i+1)).map (·.at_))++(s.shut.drop (i+1)).map (·.at_):=by unfold atsH;rw[<-List.map_append,List.take_append_drop]
    have h3:decide (zc3 (-1) ((s.shut.take i).map (·.at_))<s.shut[i].at_)=false:=decide_eq_false (by omega)
    unfold ascS
    rw[e,zox,hsn,zgz,h3]
    simp
   exact⟨_,rfl,bad hf⟩
  ·simp only[zb]at h2
   have hlt:zc3 (-1) ((s.shut.take i).map (·.at_))<s.shut[i].at_:=by omega
   have hk:(zby (s.shut.take i)).map (·.1)=(s.shut.take i).map (·.at_):=zk4 _
   refine Vstep.mapPut 3 2000002 rfl rfl rfl rfl rfl rfl rfl zpo zho (zpb (by rw[hk];exact zu6 hasc2 hlt)) ?_
   refine zd (m:=((i+1:Nat):Int)) (by omega) (by omega) ?_
   have hsN:zby (s.shut.take (i+1))=zby (s.shut.take i)++[(s.shut[i].at_,bs s.shut[i].hash)]:=zfc _ hi'
   refine⟨i+1,⟨by omega,by rw[hsn,zgz,hasc2,decide_eq_true hlt];rfl⟩,by omega,zad [(0,0),(1,1),(2,2),(3,3),(4,4)] rfl ⟨rfl,rfl,rfl,zf (by rw[hsn,zk8]),cr,cr,cr,⟨rfl,rfl⟩,⟨rfl,rfl⟩,trivial⟩ ⟨(aC aZ),(aC aZ),λ_ _ _ hh=>hh,λ_ _ _ hh=>by rw[hsN];exact hh,(aC aZ),trivial⟩⟩
 simp only[zb]at h
 rw[List.take_of_length_le (by omega)]at hasc2
 refine⟨_,zo _,?_⟩
 refine za rfl rfl ?_
 have hT:ascS s=true:=by unfold ascS atsO atsH;rw[hasc,hasc2];rfl
 have hP:pieS s=s:=if_pos hT
 rw[hT,hP]
 refine⟨_,Sub.trans (zgw (id:=1) (i:=2) (im:=2) (gh:=2000001) rfl rfl rfl rfl (by decide)) (zgw (id:=1) (i:=3) (im:=3) (gh:=2000002) rfl rfl rfl rfl (by decide)),?_⟩
 refine za rfl rfl ?_
 exact⟨_,rfl,zf (by rw[List.take_of_length_le (Nat.le_refl _),List.take_of_length_le (by omega)];rfl)⟩
def sR(s:Lean_):Bool:=ascS s&&zdm s.leaves s.own s.opn s.shut false
theorem zjpb{s:Lean_}(h:sR s=true):pieS s=s:=by
 unfold sR at h
 simp only[Bool.and_eq_true]at h
 exact if_pos h.1
structure Rung where
 at_:Int
 to:List Int
 side:List UInt8
abbrev Rung.c(r:Rung):List RV:=[I r.at_,is r.to,bs r.side]
def zkd(l:List Rung):RV:= .sl 3 l.length (l.flatMap Rung.c)
def z3v(l:List Par):RV:= .sl 3 l.length (l.flatMap Par.c)
def zpr:Par:=⟨[],[],[]⟩
theorem zn9:zpr.fit:=⟨by decide,by decide,by decide,λy hy=>by cases hy⟩
def idxR{α:Type}(q:α->Bool):Nat->List α->Int
 |_,[]=> -1
 |j,x::r=>if q x then(j:Int)else idxR q (j+1) r
abbrev zu1(r:Rung):RV:= .ag r.c
theorem z5d(l:List Rung)(q:Rung->Bool)(hl:l.length<=1000000000):aG 384 [zkd l, .s (cloS aP zu1 (λ_=>True) q)] (.r (I (idxR q 0 l))):=by
 refine aT Tryz.func384 rfl ?_
 refine zy (λj:Nat=>{F:=[(0, .r (zkd l)),(1, .r (.s (cloS aP zu1 (λ_=>True) q))),(7, .r (I l.length)),(8, .r (I j))],O:=[],nx:=0}) (λj=>j<=l.length/\idxR q 0 l=idxR q j (l.drop j)) (λj=>l.length-j) 0 ⟨by omega,by simp⟩ (zad [] rfl ⟨cr,cr,cr,cr,trivial⟩ trivial) ?_
 rintro j ⟨hj,he⟩
 refine zh (λh=>zp ?_) (λh=>zq ?_)
 ·simp only[zb]at h
  have hj':j<l.length:=by omega
  rw[List.drop_eq_getElem_cons hj']at he
  simp only[idxR]at he
  refine zm (by omega) (by omega) (zk6 (f:=Rung.c) (λ_=>rfl) rfl hj') ?_
  refine za rfl rfl ?_
  refine Vstep.cloB l[j] rfl rfl rfl rfl (cr) trivial (λhq=>zp ?_) (λhq=>zq ?_)
  ·rw[hq]at he
   exact zf (by rw[he];simp)
  ·rw[hq]at he
   refine zd (m:=((j+1:Nat):Int)) (by omega) (by omega) ?_
   exact⟨j+1,⟨hj',by rw[he];simp⟩,by omega,zad [] rfl ⟨cr,cr,cr,cr,trivial⟩ trivial⟩
 ·simp only[zb]at h
  rw[List.drop_eq_nil_of_le (by omega)]at he
  exact zf (by rw[he];rfl)
theorem z2b(r:Rung)(x:Spot):aG 385 [zu1 r, .ptr x.c] (.r (.b (decide (r.at_=x.at_)))):=by
 refine aT Tryz.func385 rfl ?_
 refine zg rfl ?_
 exact Vcmp.mk' (m:=decide (r.at_=x.at_)) (by rw[Bool.eq_iff_iff];simp only[zb]) (cr)
abbrev rnO(s:Lean_)(own:Leaf)(A:List Spot)(B:List Stub):List (Nat×Option Ow):=[(0,some (.box (s.c.map .r))),(1,some (.box (own.c.map .r))),(2,some (.box (zero4.map .r))),(3,some (.box [.r (I s.leaves), .r (I s.own), .own 4, .own 5])),(4,some (zcm A)),(5,some (zcn B))]
end Go.Proofs.YtkegaaonpekkgaaGreat.Sx
