import Derived.Test.YtkegaaonpekkgaaGreatZFo
import Derived.Test.YtkegaaonpekkgaaGreatZTj
namespace Go.Proofs.YtkegaaonpekkgaaGreat.Sx
open Go.RowKit
section
set_option maxHeartbeats 1000000 in
theorem zd2b(x y:S4):aG 229 [.ag x.v, .ag y.v] (.r (.ag (x.sum y).once.v)):=by
 refine aT Tryz.func229 rfl ?_
 refine za rfl rfl ?_
 refine za rfl rfl ?_
 refine ze (z6e x y) ?_
 refine za rfl rfl ?_
 refine ze (z55 (x.sum y)) ?_
 refine za rfl rfl ?_
 exact cr
theorem zbub(x:S4){j:Nat}(h:j<4):lget (x.v.map TF.r) (0+j*1)=some (TF.r (W (x.l.getD j 0))):=by
 rw[Nat.zero_add]
 exact zhe (l:=x.l) h
def S4.bit(x:S4)(i:Nat):UInt64:=shrW (x.l.getD (i/64) 0) (i%64)&&&1
theorem zd3b(x:S4)(i:Nat)(hi:i<256):aG 221 [.ag x.v,I i] (.r (I (x.bit i).toNat)):=by
 refine aT Tryz.func221 rfl ?_
 refine zu (by simp only[decide_eq_false_iff_not];omega) ?_
 refine zu (by simp only[decide_eq_false_iff_not];omega) ?_
 refine zq ?_
 refine Vquo.i64 i 64 rfl rfl (by omega) (by omega) ?_
 refine Vadr.mk' (i/64) rfl (by omega) ?_
 (conv=>whnf)
 generalize hq:lget _ _=q
 obtain rfl:=hq.symm.trans (zbub x (by omega:i/64<4))
 clear hq
 refine Vrem.nat i 64 rfl rfl (by omega) ?_
 refine Vshr.w _ (i%64) rfl rfl ?_
 refine Vbits.wand _ 1 rfl rfl ?_
 refine zd (m:=((x.bit i).toNat:Int)) rfl ?_ ?_
 ·have:(x.bit i).toNat<=1:=by
   unfold S4.bit
   rw[UInt64.toNat_and]
   exact Nat.and_le_right
  show _<=((x.bit i).toNat:Int)/\((x.bit i).toNat:Int)<=_
  omega
 exact cr
def scC(x:S4)(i:Nat):UInt8:=UInt8.ofNat (shrW (x.l.getD (i/8) 0) (i%8*8)).toNat
def scB(x:S4)(j:Nat):List UInt8:=(List.range 32).map λi=>if i<j then scC x i else 0
def S4.bytes(x:S4):List UInt8:=scB x 32
theorem zn4(x:S4)(j:Nat):(scB x j).length=32:=by simp[scB]
theorem S4.bytes_len(x:S4):x.bytes.length=32:=zn4 _ _
theorem za4b(x:S4):scB x 0=List.replicate 32 0:=by
 apply List.ext_getElem
 ·simp[zn4]
 ·intro i h1 h2
  unfold scB
  simp only[List.getElem_map,List.getElem_replicate,Nat.not_lt_zero,if_false]
theorem za3b(x:S4)(j:Nat):scB x (j+1)=(scB x j).set j (scC x j):=by
 apply List.ext_getElem
 ·simp[scB]
 ·intro i h1 h2
  simp only[scB,List.getElem_set,List.getElem_map,List.getElem_range]
  by_cases h:j=i
  ·subst h;simp
  ·rw[if_neg h]
   by_cases h3:i<j
   ·rw[if_pos h3,if_pos (by omega)]
   ·rw[if_neg h3,if_neg (by omega)]
attribute [irreducible] scB scC
def sbI(x:S4)(j:Nat):St:={F:=[(1, .own 0),(3, .own 1),(7, .r (I 32)),(8, .r (I j))],O:=[(0,some x.bx),(1,some (.ch 5 1 32 ((scB x j).map U8) false))],nx:=2}
set_option maxHeartbeats 1000000 in
theorem z6f(x:S4):aG 231 [.ag x.v] (bch x.bytes):=by
 refine za1 (T:=Tab) mixed Tab_ok Tryz.func231 rfl (by kernel_rfl) ?_
 refine⟨rfl,by decide,by decide,by decide,_,_,rfl,zs32,Vpub.own ?_⟩
 refine Vloop.mkx (sbI x) (λi=>i<=32) (λi=>32-i) 0 (by omega) (zad [(0,0),(1,1)] rfl ⟨rfl,rfl,cr,cr,trivial⟩ ⟨(aC aZ),⟨rfl,rfl,rfl,rfl,by rw[za4b];exact zn _⟩,trivial⟩) ?_
 intro i hi
 refine zh (λh=>zp ?_) (λh=>zq ?_)
 ·simp only[zb]at h
  have hi':i<32:=by omega
  refine Vquo.i64 i 8 rfl rfl (by omega) (by omega) ?_
  refine Vadr.mk' (i/8) rfl (by omega) ?_
  (conv=>whnf)
  generalize hq:lget _ _=q
  obtain rfl:=hq.symm.trans (zbub x (by omega:i/8<4))
  clear hq
  refine Vrem.nat i 8 rfl rfl (by omega) ?_
  refine zd (m:=((i%8*8:Nat):Int)) (by omega) (by omega) ?_
  refine Vshr.w _ (i%8*8) rfl rfl ?_
  refine Vint.u8 _ rfl ?_
  refine Vadr.mk' i rfl (by omega) ?_
  refine⟨by rw[List.length_map,zn4];show i*1+1<=32;omega,(scB x (i+1)).map U8,?_,?_⟩
  ·rw[za3b,Nat.mul_one]
   unfold scC
   exact zcq (by rw[zn4];omega)
  refine zd (m:=((i+1:Nat):Int)) (by omega) (by omega) ?_
  exact⟨i+1,by omega,by omega,zad [(0,0),(1,1)] rfl ⟨rfl,rfl,cr,cr,trivial⟩ ⟨(aC aZ),⟨rfl,rfl,rfl,rfl,zn _⟩,trivial⟩⟩
 ·simp only[zb]at h
  obtain rfl:i=32:=by omega
  refine⟨_,zo _,?_⟩
  refine⟨_,zbb (id:=1) rfl,?_⟩
  exact congrArg (λn=>some (Ow.ch 5 1 n (x.bytes.map U8) true)) x.bytes_len.symm
end
def repC(c:UInt8)(bp:Nat):List RV:=List.replicate bp (U8 c)++List.replicate (32-bp) .any
theorem zx0(c:UInt8){bp:Nat}(h:bp<=32):(repC c bp).length=32:=by simp[repC];omega
theorem z70(c:UInt8):(([c].map U8).take (Nat.min [c].length 32*1))++(List.replicate 32 RV.any).drop (Nat.min [c].length 32*1)=repC c 1:=rfl
theorem z7z(c:UInt8){bp:Nat}(h:2*bp<=32)(h0:0<bp):(repC c bp).take (bp*1)++(((repC c bp).drop (0*1)).take (bp*1)).take (Nat.min bp (32-bp)*1)++(repC c bp).drop (bp*1+Nat.min bp (32-bp)*1)=repC c (2*bp):=by
 have e:Nat.min bp (32-bp)=bp:=Nat.min_eq_left (by omega)
 rw[e]
 simp only[repC,Nat.mul_one,Nat.zero_mul,List.drop_zero]
 have h1:(List.replicate bp (U8 c)).length=bp:=List.length_replicate
 have t1:(List.replicate bp (U8 c)++List.replicate (32-bp) RV.any).take bp=List.replicate bp (U8 c):=by rw[List.take_append_of_le_length (by rw[h1];exact Nat.le_refl _),List.take_of_length_le (by rw[h1];exact Nat.le_refl _)]
 rw[t1,List.take_of_length_le (by rw[h1];exact Nat.le_refl _),List.replicate_append_replicate,List.drop_append,h1,List.drop_eq_nil_of_le (by rw[h1];omega),List.nil_append,List.drop_replicate]
 congr 2<;>omega
theorem ze4b{S:St}{j off m s0:Nat}{e:TypeId}{sz n:Nat}{ys:List RV}{pub:Bool}(ho:oget S.O j=some (.ch e sz n ys pub))(h:off+m*sz<=ys.length):rhsv S s0 (.cut j off m)=some (sz,m,(ys.drop off).take (m*sz)):=by
 have hb:Nat.ble (off+m*sz) ys.length=true:=Nat.ble_eq_true_of_le h
 unfold rhsv
 simp only[ho,hb]
def repI(c:UInt8)(bp:Nat):St:={F:=[(7, .r (I 32)),(8, .r (I 32)),(9, .own 0),(10, .r (I bp))],O:=[(0,some (.ch 5 1 32 (repC c bp) false))],nx:=1}
set_option maxHeartbeats 1000000 in
theorem z91(c:UInt8):aG 425 [bs [c],I 32] (.own 5 1 32 (List.replicate 32 (U8 c))):=by
 refine aT Tryz.func425 rfl ?_
 refine zu rfl (zq ?_)
 refine zu rfl (zq ?_)
 refine Vint.n 1 rfl ?_
 refine Vint.n 32 rfl ?_
 refine ze (zgsb 1 32) ?_
 refine zu rfl ?_
 refine zu rfl (zq ?_)
 refine Vint.n 32 rfl ?_
 refine zu rfl (zq ?_)
 refine zu rfl (zq ?_)
 refine Vcall.ext (zkhb 32 (by decide)) ?_
 refine Vstep.clip Tab_ok rfl rfl rfl rfl rfl rfl rfl rfl rfl (by decide) ?_
 refine Vstep.copy Tab_ok rfl rfl rfl rfl rfl rfl rfl rfl (z70 c) ?_
 refine zy (repI c) (λbp=>bp∈[1,2,4,8,16,32]) (λbp=>32-bp) 1 (by decide) (zad [(0,1)] rfl ⟨cr,cr,rfl,cr,trivial⟩ ⟨⟨rfl,rfl,rfl,rfl,zn _⟩,trivial⟩) ?_
 intro bp hbp
 refine zh (λh=>zp ?_) (λh=>zq ?_)
 ·simp only[zb]at h
  have h2:2*bp<=32:=by simp at hbp;omega
  have h0:0<bp:=by simp at hbp;omega
  refine Vstep.min rfl rfl rfl ?_
  refine Vdraw.code (Vcode.float mixed Tab_ok 8 [⟨0,67, .r (I bp),[]⟩,⟨1,68, .own 0,[]⟩,⟨2,69, .r (I bp),[]⟩,⟨3,70, .cut 0 (bp*1) (32-bp),[1,2]⟩,⟨4,71, .own 0,[]⟩,⟨5,72, .r (I bp),[]⟩,⟨6,73, .cut 0 (0*1) bp,[4,5]⟩] [(7,[3,6])] (by kernel_rfl)
   (F:=[(7, .r (I 32)),(8, .r (I 32)),(9, .own 0),(10, .r (I bp)),(11, .r (I bp))]) (O:=[(0,some (.ch 5 1 32 (repC c bp) false))]) (nx:=1) (zad [(0,0)] rfl ⟨cr,cr,rfl,cr,zf (by rw[if_neg (by omega)]),trivial⟩ ⟨⟨rfl,rfl,rfl,rfl,zn _⟩,trivial⟩) ?_)
  refine⟨rfl,⟨λY=>zo _,λY=>zo _,λY=>zo _,λY=>Vstep.val Tab_ok (Vcutn.mk' bp (32-bp) rfl (by omega) (by omega) (by omega) (zo _)),λY=>zo _,λY=>zo _,λY=>Vstep.val Tab_ok (Vcutn.mk' 0 bp rfl (by omega) (by omega) (by omega) (zo _)),trivial⟩,
   [(74, .r (I ((Nat.min bp (32-bp):Nat):Int))),(7, .r (I 32)),(8, .r (I 32)),(9, .own 0),(10, .r (I bp)),(11, .r (I bp))],(0,some (.ch 5 1 32 (repC c (2*bp)) false))::[(0,some (.ch 5 1 32 (repC c bp) false))],1,λY=>?_,?_⟩
  ·exact Vstep.copyCut Tab_ok rfl rfl rfl rfl rfl rfl (by rw[zx0 c (by omega)];show bp*1+(32-bp)*1<=32;omega) rfl (ze4b rfl (by rw[zx0 c (by omega)];show 0*1+bp*1<=32;omega)) (z7z c h2 h0) (zo _)
  refine⟨rfl,⟨λY=>zo _,λY=>zo _,λY=>zo _,λY=>Vstep.val Tab_ok (Vcutn.mk' bp (32-bp) rfl (by omega) (by omega) (by omega) (zo _)),λY=>zo _,λY=>zo _,λY=>Vstep.val Tab_ok (Vcutn.mk' 0 bp rfl (by omega) (by omega) (by omega) (zo _)),trivial⟩,?_⟩
  refine zd (m:=((2*bp:Nat):Int)) (by rw[show Nat.min bp (32-bp)=bp from Nat.min_eq_left (by omega)];omega) (by rw[show Nat.min bp (32-bp)=bp from Nat.min_eq_left (by omega)];omega) ?_
  exact⟨2*bp,by simp at hbp⊢;omega,by omega,zad [(0,0)] rfl ⟨cr,cr,rfl,cr,trivial⟩ ⟨⟨rfl,rfl,rfl,rfl,zn _⟩,trivial⟩⟩
 ·simp only[zb]at h
  obtain rfl:bp=32:=by simp at hbp;omega
  exact rfl
section
def powE(a b:UInt8):List UInt8:=((List.replicate 32 (255:UInt8)).set 0 a).set 31 b
theorem zpg(a b:UInt8):(powE a b).length=32:=by simp[powE]
theorem zr1(a b:UInt8):aG 328 [U8 a,U8 b] (bch (powE a b)):=by
 refine za1 (T:=Tab) mixed Tab_ok Tryz.func328 rfl (by kernel_rfl) ?_
 refine zw ?_
 refine ze (z91 255) ?_
 refine Vadr.mk' 0 rfl (by decide) ?_
 refine⟨by decide,_,rfl,?_⟩
 refine Vadr.mk' 31 rfl (by decide) ?_
 refine⟨Nat.le_refl _,(powE a b).map U8,rfl,?_⟩
 refine⟨_,zbb (id:=1) rfl,?_⟩
 exact rfl
def shr8(x:UInt8)(n:Nat):UInt8:=UInt8.ofNat (x.toNat/2^n)
theorem Vshr.b{a b:Int}{K:Int->Prop}(x:UInt8)(n:Nat)(ha:a=(x.toNat:Int))(hb:b=(n:Int))(hn:n<=8)(hK:K ((shr8 x n).toNat:Int)):Vshr .u8 a b K:=by
 subst ha;subst hb
 refine⟨by omega,_,?_,hK⟩
 have hx:=x.toNat_lt
 have h1:(shr8 x n).toNat=x.toNat/2^n:=by
  unfold shr8
  rw[UInt8.toNat_ofNat']
  exact Nat.mod_eq_of_lt (Nat.lt_of_le_of_lt (Nat.div_le_self _ _) hx)
 have hb:IntKind.u8.bits=8:=rfl
 rw[h1,Int.toNat_natCast,hb,Nat.min_eq_left hn,Int.fdiv_eq_ediv_of_nonneg _ (Int.pow_nonneg (by omega))]
 norm_cast
def bitE(e:List UInt8)(k:Nat):UInt8:=shr8 (e.getD (k/8) 0) (k%8)&&&1
def one:Fe:=⟨1&&&msk,shrW 1 51,0,0,0⟩
def powN(x:Fe)(e:List UInt8)(n:Nat):Nat->Fe
 |0=>one
 |j+1=>if bitE e (n-1-j)=1 then((powN x e n j).mul (powN x e n j)).mul x else(powN x e n j).mul (powN x e n j)
theorem ztl(x:Fe)(e:List UInt8)(n:Nat):powN x e n 0=one:=rfl
theorem zm3(x:Fe)(e:List UInt8)(n j:Nat):powN x e n (j+1)=if bitE e (n-1-j)=1 then((powN x e n j).mul (powN x e n j)).mul x else(powN x e n j).mul (powN x e n j):=rfl
attribute [irreducible] powN one
def Fe.pow(x:Fe)(e:List UInt8):Fe:=powN x e (8*e.length) (8*e.length)
abbrev Fe.bx(x:Fe):Ow:= .box [.r (W x.a), .r (W x.b), .r (W x.c), .r (W x.d), .r (W x.e)]
def zFe:Ow:= .box [.r (.i .u64 0), .r (.i .u64 0), .r (.i .u64 0), .r (.i .u64 0), .r (.i .u64 0)]
def powI(x:Fe)(e:List UInt8)(j:Nat):St:={F:=[(1, .r (bs e)),(2, .own 0),(4, .own 1),(5, .own 2),(6, .r (I ((8*e.length-j:Nat):Int)))],O:=[(0,some x.bx),(1,some zFe),(2,some (powN x e (8*e.length) j).bx)],nx:=3}
theorem zno{e:List UInt8}{k:Nat}(h:k/8<e.length):(((e.map U8).drop (((k/8:Nat):Int).toNat*1)).take 1)[0]?=some (U8 (e.getD (k/8) 0)):=by
 rw[Int.toNat_natCast,Nat.mul_one,List.getElem?_take,if_pos (by omega),List.getElem?_drop,Nat.add_zero]
 exact zeg h
theorem zni{e:List UInt8}{k:Nat}(h:(((bitE e k).toNat:Int)==1)=true):bitE e k=1:=by
 rw[beq_iff_eq]at h
 have:(bitE e k).toNat=1:=by omega
 exact UInt8.toNat_inj.1 this
theorem zkq{e:List UInt8}{k:Nat}(h:(((bitE e k).toNat:Int)==1)=false): ¬bitE e k=1:=by
 intro h1
 rw[h1]at h
 exact absurd h (by decide)
theorem zk3:aG 210 [.i .u64 1] (.r (.ag one.v)):=by
 have h:=ziv 1
 unfold one
 exact h
set_option maxHeartbeats 2000000 in
theorem z2w(x:Fe)(e:List UInt8)(he:e.length<=1000000):aG 327 [.ag x.v,bs e] (.r (.ag (x.pow e).v)):=by
 refine aT Tryz.func327 rfl ?_
 refine Vcode.scope mixed Tab_ok 0 (powI x e) (λj=>j<=8*e.length) (λj=>8*e.length-j) rfl ?_ ?_
 ·refine ze zk3 ?_
  obtain⟨J,hJ⟩: ∃J,J=0:=⟨0,rfl⟩
  have hj:J<=8*e.length:=by omega
  have e0:=ztl x e (8*e.length)
  rw[<-hJ]at e0
  refine zd (m:=((8*e.length-J:Nat):Int)) (by omega) (by omega) ?_
  rw[<-e0]
  refine zd (m:=((8*e.length-J:Nat):Int)-1) rfl (by omega) ?_
  refine zh (λh=>zp ?_) (λh=>zq ?_)
  ·simp only[zb]at h
   obtain⟨k,hk⟩: ∃k,k=8*e.length-1-J:=⟨_,rfl⟩
   have ek:((8*e.length-J:Nat):Int)-1=(k:Int):=by omega
   have hd:k/8<e.length:=by omega
   have hs:=zm3 x e (8*e.length) J
   rw[<-hk]at hs
   rw[ek]
   refine za rfl rfl ?_
   refine ze (zdd (powN x e (8*e.length) J)) ?_
   refine Vquo.i64 k 8 rfl rfl (by omega) (by omega) ?_
   refine zm (by omega) (by omega) rfl (zg (f:=U8 (e.getD (k/8) 0)) (zno hd) ?_)
   refine Vrem.nat k 8 rfl rfl (by omega) ?_
   refine Vshr.b _ (k%8) rfl rfl (by omega) ?_
   refine Vbits.and8 _ 1 rfl rfl ?_
   refine zh (λh=>zp ?_) (λh=>zq ?_)
   ·have hb:bitE e k=1:=zni h
    rw[if_pos hb]at hs
    refine za rfl rfl ?_
    refine za rfl rfl ?_
    refine ze (zbf ((powN x e (8*e.length) J).mul (powN x e (8*e.length) J)) x) ?_
    exact⟨J+1,by omega,zad [(0,0),(1,1),(2,2)] rfl ⟨cr,rfl,rfl,rfl,zf (by rw[hk];congr 2;omega),trivial⟩ ⟨(aC (aA aZ)),(aC (aA aZ)),by rw[hs];exact⟨_,_,rfl,cr,_,_,rfl,cr,_,_,rfl,cr,_,_,rfl,cr,_,_,rfl,cr,rfl⟩,trivial⟩⟩
   ·have hb: ¬bitE e k=1:=zkq h
    rw[if_neg hb]at hs
    exact⟨J+1,by omega,zad [(0,0),(1,1),(2,2)] rfl ⟨cr,rfl,rfl,rfl,zf (by rw[hk];congr 2;omega),trivial⟩ ⟨(aC (aA aZ)),(aC (aA aZ)),by rw[hs];exact⟨_,_,rfl,cr,_,_,rfl,cr,_,_,rfl,cr,_,_,rfl,cr,_,_,rfl,cr,rfl⟩,trivial⟩⟩
  ·simp only[zb]at h
   have hj':J=8*e.length:=by omega
   refine za rfl rfl ?_
   refine za rfl rfl ?_
   exact zf (by unfold Fe.pow;rw[<-hj'])
 ·intro J hj
  refine zd (m:=((8*e.length-J:Nat):Int)-1) rfl (by omega) ?_
  refine zh (λh=>zp ?_) (λh=>zq ?_)
  ·simp only[zb]at h
   obtain⟨k,hk⟩: ∃k,k=8*e.length-1-J:=⟨_,rfl⟩
   have ek:((8*e.length-J:Nat):Int)-1=(k:Int):=by omega
   have hd:k/8<e.length:=by omega
   have hs:=zm3 x e (8*e.length) J
   rw[<-hk]at hs
   rw[ek]
   refine za rfl rfl ?_
   refine ze (zdd (powN x e (8*e.length) J)) ?_
   refine Vquo.i64 k 8 rfl rfl (by omega) (by omega) ?_
   refine zm (by omega) (by omega) rfl (zg (f:=U8 (e.getD (k/8) 0)) (zno hd) ?_)
   refine Vrem.nat k 8 rfl rfl (by omega) ?_
   refine Vshr.b _ (k%8) rfl rfl (by omega) ?_
   refine Vbits.and8 _ 1 rfl rfl ?_
   refine zh (λh=>zp ?_) (λh=>zq ?_)
   ·have hb:bitE e k=1:=zni h
    rw[if_pos hb]at hs
    refine za rfl rfl ?_
    refine za rfl rfl ?_
    refine ze (zbf ((powN x e (8*e.length) J).mul (powN x e (8*e.length) J)) x) ?_
    exact⟨J+1,by omega,by omega,zad [(0,0),(1,1),(2,2)] rfl ⟨cr,rfl,rfl,rfl,zf (by rw[hk];congr 2;omega),trivial⟩ ⟨(aC (aA aZ)),(aC (aA aZ)),by rw[hs];exact⟨_,_,rfl,cr,_,_,rfl,cr,_,_,rfl,cr,_,_,rfl,cr,_,_,rfl,cr,rfl⟩,trivial⟩⟩
   ·have hb: ¬bitE e k=1:=zkq h
    rw[if_neg hb]at hs
    exact⟨J+1,by omega,by omega,zad [(0,0),(1,1),(2,2)] rfl ⟨cr,rfl,rfl,rfl,zf (by rw[hk];congr 2;omega),trivial⟩ ⟨(aC (aA aZ)),(aC (aA aZ)),by rw[hs];exact⟨_,_,rfl,cr,_,_,rfl,cr,_,_,rfl,cr,_,_,rfl,cr,_,_,rfl,cr,rfl⟩,trivial⟩⟩
  ·simp only[zb]at h
   have hj':J=8*e.length:=by omega
   refine za rfl rfl ?_
   refine za rfl rfl ?_
   exact zf (by unfold Fe.pow;rw[<-hj'])
end
def Fe.inv(x:Fe):Fe:=x.pow (powE 235 127)
theorem znq(x:Fe):aG 213 [.ag x.v] (.r (.ag x.inv.v)):=by
 refine aT Tryz.func213 rfl ?_
 refine aV ?_
 refine za rfl rfl ?_
 refine ze (zr1 235 127) ?_
 refine ze (z2w x (powE 235 127) (by rw[zpg];omega)) ?_
 refine za rfl rfl ?_
 exact cr
def zhx(k:List UInt8):List UInt8:=(k.set 0 (k.getD 0 0&&& ~~~7)).set 31 ((k.getD 31 0&&&63)|||64)
theorem zpz(k:List UInt8):(zhx k).length=k.length:=by simp[zhx]
theorem zdhb(k:List UInt8)(hk:k.length=32):aG 321 [bs k] (bch (zhx k)):=by
 refine za1 (T:=Tab) mixed Tab_ok Tryz.func321 rfl (by kernel_rfl) ?_
 refine⟨rfl,by decide,by decide,by decide,_,_,rfl,zs32,Vpub.own ?_⟩
 have e1:((k.map U8).take (Nat.min k.length 32*1)++((List.replicate 32 (0:UInt8)).map U8).drop (Nat.min k.length 32*1))=k.map U8:=by
  have e:Nat.min k.length 32=32:=by rw[hk];rfl
  rw[e,List.take_of_length_le (by rw[List.length_map,hk];omega),List.drop_eq_nil_of_le (by simp),List.append_nil]
 refine Vstep.copy Tab_ok rfl rfl rfl rfl rfl rfl rfl rfl e1 ?_
 refine Vadr.mk' 0 rfl (by decide) ?_
 refine zg (f:=U8 (k.getD 0 0)) (zeg (by omega)) ?_
 refine Vbits.andn8 _ 7 rfl rfl ?_
 refine Vadr.mk' 0 rfl (by decide) ?_
 refine⟨by rw[List.length_map,hk];decide,(k.set 0 (k.getD 0 0&&& ~~~7)).map U8,zcq (by omega),?_⟩
 refine Vadr.mk' 31 rfl (by decide) ?_
 refine zg (f:=U8 (k.getD 31 0)) ((zeg (j:=31) (by rw[List.length_set];omega)).trans (by rw[List.getD_eq_getElem?_getD,List.getElem?_set_ne (by decide),<-List.getD_eq_getElem?_getD])) ?_
 refine Vbits.and8 _ 63 rfl rfl ?_
 refine Vbits.or8 _ 64 rfl rfl ?_
 refine Vadr.mk' 31 rfl (by decide) ?_
 refine⟨by rw[List.length_map,List.length_set,hk];decide,(zhx k).map U8,zcq (i:=31) (by rw[List.length_set];omega),?_⟩
 refine⟨_,zbb (id:=0) rfl,?_⟩
 exact congrArg (λn=>some (Ow.ch 5 1 n ((zhx k).map U8) true)) ((zpz k).trans hk).symm
structure Pt where
 x:Fe
 y:Fe
 z:Fe
 t:Fe
abbrev Pt.v(p:Pt):List RV:=[W p.x.a,W p.x.b,W p.x.c,W p.x.d,W p.x.e,W p.y.a,W p.y.b,W p.y.c,W p.y.d,W p.y.e,W p.z.a,W p.z.b,W p.z.c,W p.z.d,W p.z.e,W p.t.a,W p.t.b,W p.t.c,W p.t.d,W p.t.e, .b true]
abbrev Pt.bx(p:Pt):Ow:= .box [.r (W p.x.a), .r (W p.x.b), .r (W p.x.c), .r (W p.x.d), .r (W p.x.e), .r (W p.y.a), .r (W p.y.b), .r (W p.y.c), .r (W p.y.d), .r (W p.y.e), .r (W p.z.a), .r (W p.z.b), .r (W p.z.c), .r (W p.z.d), .r (W p.z.e), .r (W p.t.a), .r (W p.t.b), .r (W p.t.c), .r (W p.t.d), .r (W p.t.e), .r (.b true)]
def Pt.sum(p q:Pt)(dd:Fe):Pt:=
 let a:=(p.y.sub p.x).mul (q.y.sub q.x)
 let b:=(p.y.add p.x).mul (q.y.add q.x)
 let c:=(p.t.mul dd).mul q.t
 let e:=(p.z.add p.z).mul q.z
 let f:=b.sub a
 let g:=e.sub c
 let h:=e.add c
 let i:=b.add a
 ⟨f.mul g,h.mul i,g.mul h,f.mul i⟩
set_option maxHeartbeats 4000000 in
theorem zwb(p q:Pt)(dd:Fe):aG 220 [.ag p.v, .ag q.v, .ag dd.v] (.r (.ag (p.sum q dd).v)):=by
 refine aT Tryz.func220 rfl ?_
 repeat' ((conv=>whnf);first|refine za rfl rfl ?_|refine aV ?_)
 refine ze (zgn (p.y) (p.x)) ?_
 repeat' ((conv=>whnf);first|refine za rfl rfl ?_|refine aV ?_)
 refine ze (zgn (q.y) (q.x)) ?_
 repeat' ((conv=>whnf);first|refine za rfl rfl ?_|refine aV ?_)
 refine ze (zbf (p.y.sub p.x) (q.y.sub q.x)) ?_
 generalize hA:(p.y.sub p.x).mul (q.y.sub q.x)=A
 repeat' ((conv=>whnf);first|refine za rfl rfl ?_|refine aV ?_)
 refine ze (ze9 (p.y) (p.x)) ?_
 repeat' ((conv=>whnf);first|refine za rfl rfl ?_|refine aV ?_)
 refine ze (ze9 (q.y) (q.x)) ?_
 repeat' ((conv=>whnf);first|refine za rfl rfl ?_|refine aV ?_)
 refine ze (zbf (p.y.add p.x) (q.y.add q.x)) ?_
 generalize hB:(p.y.add p.x).mul (q.y.add q.x)=B
 repeat' ((conv=>whnf);first|refine za rfl rfl ?_|refine aV ?_)
 refine ze (zbf (p.t) (dd)) ?_
 repeat' ((conv=>whnf);first|refine za rfl rfl ?_|refine aV ?_)
 refine ze (zbf (p.t.mul dd) (q.t)) ?_
 generalize hC:(p.t.mul dd).mul q.t=C
 repeat' ((conv=>whnf);first|refine za rfl rfl ?_|refine aV ?_)
 refine ze (ze9 (p.z) (p.z)) ?_
 repeat' ((conv=>whnf);first|refine za rfl rfl ?_|refine aV ?_)
 refine ze (zbf (p.z.add p.z) (q.z)) ?_
 generalize hE:(p.z.add p.z).mul q.z=E
 repeat' ((conv=>whnf);first|refine za rfl rfl ?_|refine aV ?_)
 refine ze (zgn (B) (A)) ?_
 generalize hF:B.sub A=F
 repeat' ((conv=>whnf);first|refine za rfl rfl ?_|refine aV ?_)
 refine ze (zgn (E) (C)) ?_
 generalize hG:E.sub C=G
 repeat' ((conv=>whnf);first|refine za rfl rfl ?_|refine aV ?_)
 refine ze (ze9 (E) (C)) ?_
 generalize hH:E.add C=H
 repeat' ((conv=>whnf);first|refine za rfl rfl ?_|refine aV ?_)
 refine ze (ze9 (B) (A)) ?_
 generalize hK:B.add A=K
 repeat' ((conv=>whnf);first|refine za rfl rfl ?_|refine aV ?_)
 refine ze (zbf (F) (G)) ?_
 repeat' ((conv=>whnf);first|refine za rfl rfl ?_|refine aV ?_)
 refine ze (zbf (H) (K)) ?_
 repeat' ((conv=>whnf);first|refine za rfl rfl ?_|refine aV ?_)
 refine ze (zbf (G) (H)) ?_
 repeat' ((conv=>whnf);first|refine za rfl rfl ?_|refine aV ?_)
 refine ze (zbf (F) (K)) ?_
 repeat' ((conv=>whnf);first|refine za rfl rfl ?_|refine aV ?_)
 have e:p.sum q dd=⟨F.mul G,H.mul K,G.mul H,F.mul K⟩:=by
  subst hK hH hG hF hE hC hB hA
  rfl
 rw[e]
 exact cr
section
def numF(n:UInt64):Fe:=⟨n&&&msk,shrW n 51,0,0,0⟩
theorem h_n2:aG 210 [.i .u64 2] (.r (.ag (numF 2).v)):=ziv 2
theorem h_n4:aG 210 [.i .u64 4] (.r (.ag (numF 4).v)):=ziv 4
theorem h_n5:aG 210 [.i .u64 5] (.r (.ag (numF 5).v)):=ziv 5
theorem h_nA:aG 210 [.i .u64 121665] (.r (.ag (numF 121665).v)):=ziv 121665
theorem h_nB:aG 210 [.i .u64 121666] (.r (.ag (numF 121666).v)):=ziv 121666
attribute [irreducible] numF
def fz:Fe:=⟨0,0,0,0,0⟩
def dC:Fe:=(Fe.sub ⟨0,0,0,0,0⟩ (numF 121665)).mul (numF 121666).inv
theorem h_d:aG 218 [] (.r (.ag dC.v)):=by
 refine aT Tryz.func218 rfl ?_
 refine ze h_nA ?_
 refine ze (zup (numF 121665)) ?_
 refine ze h_nB ?_
 refine ze (znq (numF 121666)) ?_
 refine ze (zbf (Fe.sub ⟨0,0,0,0,0⟩ (numF 121665)) (numF 121666).inv) ?_
 refine za rfl rfl ?_
 exact cr
attribute [irreducible] dC
def Pt.of(x y:Fe):Pt:=⟨x,y,one,x.mul y⟩
theorem z2v(x y:Fe):aG 215 [.ag x.v, .ag y.v] (.r (.ag (Pt.of x y).v)):=by
 refine aT Tryz.func215 rfl ?_
 repeat' ((conv=>whnf);first|refine za rfl rfl ?_|refine aV ?_)
 refine ze zk3 ?_
 repeat' ((conv=>whnf);first|refine za rfl rfl ?_|refine aV ?_)
 refine ze (zbf x y) ?_
 repeat' ((conv=>whnf);first|refine za rfl rfl ?_|refine aV ?_)
 exact cr
def Pt.nil:Pt:=Pt.of ⟨0,0,0,0,0⟩ one
theorem z52:aG 217 [] (.r (.ag Pt.nil.v)):=by
 refine aT Tryz.func217 rfl ?_
 refine ze zk3 ?_
 refine ze (z2v ⟨0,0,0,0,0⟩ one) ?_
 refine za rfl rfl ?_
 exact cr
attribute [irreducible] Pt.nil
theorem zhs(p:Pt):aG 216 [.ag p.v] (.r (.ag p.v)):=by
 refine aT Tryz.func216 rfl ?_
 refine zu rfl (zq ?_)
 refine za rfl rfl ?_
 refine za rfl rfl ?_
 exact cr
def dD:Fe:=dC.add dC
def mulP(p:Pt)(s:S4):Nat->Pt
 |0=>Pt.nil
 |j+1=>if s.bit (252-j)=1 then((mulP p s j).sum (mulP p s j) dD).sum p dD else(mulP p s j).sum (mulP p s j) dD
theorem ztf(p:Pt)(s:S4):mulP p s 0=Pt.nil:=rfl
theorem zw7(p:Pt)(s:S4)(j:Nat)(h:s.bit (252-j)=1):mulP p s (j+1)=((mulP p s j).sum (mulP p s j) dD).sum p dD:=by rw[mulP,if_pos h]
theorem zqu(p:Pt)(s:S4)(j:Nat)(h: ¬s.bit (252-j)=1):mulP p s (j+1)=(mulP p s j).sum (mulP p s j) dD:=by rw[mulP,if_neg h]
attribute [irreducible] mulP dD
abbrev z21:Ow:= .box [.r (W 0), .r (W 0), .r (W 0), .r (W 0), .r (W 0), .r (W 0), .r (W 0), .r (W 0), .r (W 0), .r (W 0), .r (W 0), .r (W 0), .r (W 0), .r (W 0), .r (W 0), .r (W 0), .r (W 0), .r (W 0), .r (W 0), .r (W 0), .r (.b false)]
def pmI(p:Pt)(s:S4)(j:Nat):St:={F:=[(2, .own 0),(3, .own 1),(4, .own 2),(5, .own 3),(6, .own 4),(7, .r (I (252-(j:Int))))],O:=[(0,some p.bx),(1,some s.bx),(2,some z21),(3,some (mulP p s j).bx),(4,some dD.bx)],nx:=5}
set_option maxHeartbeats 4000000 in
theorem zqg(p:Pt)(s:S4):aG 125 [.ag p.v, .ag s.v] (.r (.ag (mulP p s 253).v)):=by
 refine aT Tryz.func125 rfl ?_
 refine Vcode.scope3 mixed Tab_ok 0 (pmI p s) (λj=>j<=252) (λj=>252-j) rfl ?_ ?_
 ·refine za rfl rfl ?_
  refine ze (zhs p) ?_
  (conv=>whnf)
  refine⟨rfl,?_⟩
  refine ze z52 ?_
  refine ze h_d ?_
  refine ze h_d ?_
  refine ze (ze9 dC dC) ?_
  (conv=>whnf)
  refine⟨rfl,?_⟩
  (conv=>whnf)
  have hD:dC.add dC=dD:=by unfold dD;rfl
  rw[hD]
  refine⟨rfl,0,by omega,zad [(0,0),(1,1),(2,2),(3,3),(4,4)] rfl ⟨rfl,rfl,rfl,rfl,rfl,cr,trivial⟩ ⟨(aE (aC (aA aZ))),(aC aZ),(aE (aC (aA aZ))),by rw[ztf];exact⟨_,_,rfl,cr,_,_,rfl,cr,_,_,rfl,cr,_,_,rfl,cr,_,_,rfl,cr,_,_,rfl,cr,_,_,rfl,cr,_,_,rfl,cr,_,_,rfl,cr,_,_,rfl,cr,_,_,rfl,cr,_,_,rfl,cr,_,_,rfl,cr,_,_,rfl,cr,_,_,rfl,cr,_,_,rfl,cr,_,_,rfl,cr,_,_,rfl,cr,_,_,rfl,cr,_,_,rfl,cr,_,_,rfl,cr,rfl⟩,(aC (aA aZ)),trivial⟩⟩
 ·intro j hj
  refine za rfl rfl ?_
  refine za rfl rfl ?_
  refine za rfl rfl ?_
  refine ze (zwb (mulP p s j) (mulP p s j) dD) ?_
  generalize hY:(mulP p s j).sum (mulP p s j) dD=y
  refine za rfl rfl ?_
  have hbit:=zd3b s (252-j) (by omega)
  have e1:((252-j:Nat):Int)=252-(j:Int):=by omega
  rw[e1]at hbit
  refine ze hbit ?_
  refine zh (λh=>zp ?_) (λh=>zq ?_)
  ·have hb:s.bit (252-j)=1:=by
    rw[beq_iff_eq]at h
    have:(s.bit (252-j)).toNat=1:=by omega
    exact UInt64.toNat_inj.1 this
   have hs:=zw7 p s j hb
   rw[hY]at hs
   refine za rfl rfl ?_
   refine za rfl rfl ?_
   refine za rfl rfl ?_
   refine ze (zwb y p dD) ?_
   refine zd (m:=252-((j+1:Nat):Int)) (by omega) (by omega) ?_
   refine zh (λh=>zp ?_) (λh=>zq ?_)
   ·simp only[zb]at h
    exact⟨j+1,by omega,by omega,zad [(0,0),(1,1),(2,2),(3,3),(4,4)] rfl ⟨rfl,rfl,rfl,rfl,rfl,cr,trivial⟩ ⟨(aE (aC (aA aZ))),(aC aZ),(aE (aC (aA aZ))),by rw[hs];exact⟨_,_,rfl,cr,_,_,rfl,cr,_,_,rfl,cr,_,_,rfl,cr,_,_,rfl,cr,_,_,rfl,cr,_,_,rfl,cr,_,_,rfl,cr,_,_,rfl,cr,_,_,rfl,cr,_,_,rfl,cr,_,_,rfl,cr,_,_,rfl,cr,_,_,rfl,cr,_,_,rfl,cr,_,_,rfl,cr,_,_,rfl,cr,_,_,rfl,cr,_,_,rfl,cr,_,_,rfl,cr,_,_,rfl,cr,rfl⟩,(aC (aA aZ)),trivial⟩⟩
   ·simp only[zb]at h
    obtain rfl:j=252:=by omega
    refine za rfl rfl ?_
    refine za rfl rfl ?_
    rw[hs]
    exact cr
  ·have hb: ¬s.bit (252-j)=1:=by
    rw[beq_eq_false_iff_ne]at h
    intro e
    rw[e]at h
    exact h rfl
   have hs:=zqu p s j hb
   rw[hY]at hs
   refine zd (m:=252-((j+1:Nat):Int)) (by omega) (by omega) ?_
   refine zh (λh=>zp ?_) (λh=>zq ?_)
   ·simp only[zb]at h
    exact⟨j+1,by omega,by omega,zad [(0,0),(1,1),(2,2),(3,3),(4,4)] rfl ⟨rfl,rfl,rfl,rfl,rfl,cr,trivial⟩ ⟨(aE (aC (aA aZ))),(aC aZ),(aE (aC (aA aZ))),by rw[hs];exact⟨_,_,rfl,cr,_,_,rfl,cr,_,_,rfl,cr,_,_,rfl,cr,_,_,rfl,cr,_,_,rfl,cr,_,_,rfl,cr,_,_,rfl,cr,_,_,rfl,cr,_,_,rfl,cr,_,_,rfl,cr,_,_,rfl,cr,_,_,rfl,cr,_,_,rfl,cr,_,_,rfl,cr,_,_,rfl,cr,_,_,rfl,cr,_,_,rfl,cr,_,_,rfl,cr,_,_,rfl,cr,_,_,rfl,cr,rfl⟩,(aC (aA aZ)),trivial⟩⟩
   ·simp only[zb]at h
    obtain rfl:j=252:=by omega
    refine za rfl rfl ?_
    refine za rfl rfl ?_
    rw[hs]
    exact cr
end
theorem Vsem.fieldAll{P:Program}{T:TT}{S:St}{o:Oper}(hT:TOk P T){t:TypeId}{x:Operand}{i:Nat}{ft:TypeId}{ti tf:TI}{fs:List (Nat×TypeId)}{cells:List RV}{K:TF->Option Ow->Prop}(hop:o.op= .field t x i)(hti:tget T t=some ti)(hk:ti.k= .struct fs)(hfs:lget fs i=some (0,ft))(htf:tget T ft=some tf)(hag:tf.agg=true)
  (hx:opr S x=some (.r (.ag cells))) (hc:cells.length=tf.sz) (hK:K (.r (.ag cells)) none):Vsem P S o K:=by
 refine⟨_,_,λB N a w k Q ⟨g,hs⟩ hd=>?_,hK⟩
 have hv:=(zaf hs hx).2
 simp only[TF.at_,RV.at_]at hv
 obtain⟨us,e,hl⟩:=hv
 rw[zas]at hfs
 have hul:=(RV.listAt_iff _ _).1 hl
 have hus:us.size=tf.sz:=by rw[<-Array.length_toList,hul.1,hc]
 obtain⟨q,hq⟩:=hT.get hti
 obtain⟨d,hdd,hko,_⟩:=q.desc
 rw[hq]at hdd
 rw[hk]at hko
 obtain⟨fields,rfl,hfl⟩:=hko
 obtain⟨qf,hqf⟩:=hT.get htf
 have hsize:=za9 (w:=w) qf hqf
 obtain⟨df,hdf,_,hrow⟩:=qf.desc
 rw[hqf]at hdf
 rw[hag]at hrow
 have hagg:(isAgg ft).run P w= .ok true w:=by
  unfold isAgg
  rw[Sem.run_bind,run_underlying hdf w]
  cases df<;>simp_all [TypeDesc.isRow]
 rw[<-hfl,List.getElem?_map]at hfs
 cases hfi:fields.toList[i]? with
 |none=>simp[hfi]at hfs
 |some fd=>
  simp only[hfi,Option.map_some,Option.some.injEq,Prod.mk.injEq]at hfs
  obtain⟨h0,rfl⟩:=hfs
  have hfa:fields[i]?=some fd:=by simpa using hfi
  refine zat (v:= .agg us) (w':=w) ?_ ⟨k,g,hs.put hd trivial ?_⟩
  ·simp[execOp,hop,Instr.field,run_underlying hdd w,hfa,e,part,hagg,asAgg,hsize,h0,<-hus]
  ·simp only[TF.at_,RV.at_]
   exact⟨us,rfl,hl⟩
def Fe.odd(x:Fe):Bool:=((x.least.a&&&1).toNat:Int)==1
theorem z2s(x:Fe):aG 223 [.ag x.v] (.r (.b x.odd)):=by
 refine aT Tryz.func223 rfl ?_
 refine za rfl rfl ?_
 refine ze (zjx x) ?_
 refine Vsem.fieldAll (ft:=178) Tab_ok rfl rfl rfl rfl rfl rfl rfl rfl ?_
 refine zm (by decide) (by decide) rfl ?_
 refine Vbits.wand _ 1 rfl rfl ?_
 refine⟨_,rfl,?_⟩
 exact cr
set_option maxHeartbeats 1000000 in
theorem z9l(x:Fe):aG 211 [.ag x.v] (.own 5 1 32 (x.bytes.map U8)):=by
 refine za1 (T:=Tab) mixed Tab_ok Tryz.func211 rfl (by kernel_rfl) ?_
 refine za rfl rfl ?_
 refine ze (zjx x) ?_
 refine⟨rfl,by decide,by decide,by decide,_,_,rfl,zs32,Vpub.own ?_⟩
 refine za rfl rfl ?_
 refine Vloop.mkx (outI x.least) (λi=>i<=5) (λi=>5-i) 0 (by omega) (zad [(0,1)] rfl ⟨rfl,cr,cr,trivial⟩ ⟨⟨rfl,rfl,rfl,rfl,by rw[zl0];exact zn _⟩,trivial⟩) ?_
 intro i hi
 refine zh (λh=>zp ?_) (λh=>zq ?_)
 ·simp only[zb]at h
  have hi':i<5:=by omega
  refine zm (by omega) (by simp;omega) (z0p x.least hi') ?_
  refine zd (m:=((i*51:Nat):Int)) (by omega) (by omega) ?_
  refine Vloop.mkx (inI x.least i) (λk=>k<=51) (λk=>51-k) 0 (by omega) (zad [(0,0)] rfl ⟨rfl,cr,cr,cr,cr,cr,trivial⟩ ⟨⟨rfl,rfl,rfl,rfl,by rw[zm4];exact zn _⟩,trivial⟩) ?_
  intro k hk
  refine zh (λh=>zp ?_) (λh=>zq ?_)
  ·simp only[zb]at h
   have hk':k<51:=by omega
   have hL:(rowB (allF x.least i) ((zc9 x.least).getD i 0) (i*51) k).length=32:=by rw[zii,zhw]
   refine aV ?_
   refine zd (m:=((i*51+k:Nat):Int)) (by omega) (by omega) ?_
   refine Vquo.i64 (i*51+k) 8 rfl rfl (by omega) (by omega) ?_
   refine Vadr.mk' ((i*51+k)/8) rfl (by omega) ?_
   refine zg (f:=U8 ((rowB (allF x.least i) ((zc9 x.least).getD i 0) (i*51) k).getD ((i*51+k)/8) 0)) (by rw[Nat.mul_one];exact zeg (by rw[hL];omega)) ?_
   refine Vshr.w _ k rfl rfl ?_
   refine Vbits.wand _ 1 rfl rfl ?_
   refine Vint.u8 _ rfl ?_
   refine zd (m:=((i*51+k:Nat):Int)) (by omega) (by omega) ?_
   refine Vrem.nat (i*51+k) 8 rfl rfl (by omega) ?_
   refine Vshl.b _ ((i*51+k)%8) rfl rfl (by omega) ?_
   refine Vbits.or8 _ _ rfl rfl ?_
   refine Vadr.mk' ((i*51+k)/8) rfl (by omega) ?_
   refine⟨by rw[List.length_map,hL];show(i*51+k)/8*1+1<=32;omega,(rowB (allF x.least i) ((zc9 x.least).getD i 0) (i*51) (k+1)).map U8,?_,?_⟩
   ·rw[rowB,bitB,Nat.mul_one]
    exact zcq (by rw[hL];omega)
   refine zd (m:=((k+1:Nat):Int)) (by omega) (by omega) ?_
   exact⟨k+1,by omega,by omega,zad [(0,0)] rfl ⟨rfl,cr,cr,cr,cr,cr,trivial⟩ ⟨⟨rfl,rfl,rfl,rfl,zn _⟩,trivial⟩⟩
  ·simp only[zb]at h
   obtain rfl:k=51:=by omega
   refine⟨_,zo _,?_⟩
   refine zd (m:=((i+1:Nat):Int)) (by omega) (by omega) ?_
   exact⟨i+1,by omega,by omega,zad [(0,0)] rfl ⟨rfl,cr,cr,trivial⟩ ⟨⟨rfl,rfl,rfl,rfl,by rw[zlz];exact zn _⟩,trivial⟩⟩
 ·simp only[zb]at h
  obtain rfl:i=5:=by omega
  refine⟨_,zo _,?_⟩
  refine⟨_,zo _,?_⟩
  exact rfl
def Pt.bytes(p:Pt):List UInt8:=if(p.x.mul p.z.inv).odd then(p.y.mul p.z.inv).bytes.set 31 ((p.y.mul p.z.inv).bytes.getD 31 0|||128)else(p.y.mul p.z.inv).bytes
theorem Pt.bytes_len(p:Pt):p.bytes.length=32:=by
 unfold Pt.bytes
 split
 ·rw[List.length_set,Fe.bytes_len]
 ·exact Fe.bytes_len _
set_option maxHeartbeats 1000000 in
theorem zwc(p:Pt):aG 127 [.ag p.v] (bch p.bytes):=by
 refine za1 (T:=Tab) mixed Tab_ok Tryz.func127 rfl (by kernel_rfl) ?_
 have hpl:=Pt.bytes_len p
 refine za rfl rfl ?_
 refine ze (zhs p) ?_
 refine za rfl rfl ?_
 refine ze (znq p.z) ?_
 refine za rfl rfl ?_
 refine za rfl rfl ?_
 refine ze (zbf p.y p.z.inv) ?_
 refine ze (z9l (p.y.mul p.z.inv)) ?_
 refine za rfl rfl ?_
 refine za rfl rfl ?_
 refine ze (zbf p.x p.z.inv) ?_
 refine ze (z2s (p.x.mul p.z.inv)) ?_
 have hl:=Fe.bytes_len (p.y.mul p.z.inv)
 refine⟨λh=>?_,λh=>?_⟩
 ·have hb:p.bytes=(p.y.mul p.z.inv).bytes.set 31 ((p.y.mul p.z.inv).bytes.getD 31 0|||128):=by rw[Pt.bytes,if_pos h]
  refine Vadr.any (by decide) ?_
  refine zg (f:=U8 ((p.y.mul p.z.inv).bytes.getD 31 0)) (zeg (by rw[hl];decide)) ?_
  refine Vbits.or8 _ 128 rfl rfl ?_
  refine Vadr.any (by decide) ?_
  refine⟨by rw[List.length_map,hl];decide,p.bytes.map U8,?_,?_⟩
  ·rw[hb]
   exact zcq (by rw[hl];decide)
  refine⟨_,zbb (id:=2) rfl,?_⟩
  exact congrArg (λn=>some (Ow.ch 5 1 n (p.bytes.map U8) true)) hpl.symm
 ·have hb:p.bytes=(p.y.mul p.z.inv).bytes:=by rw[Pt.bytes,if_neg (by rw[h];decide)]
  refine⟨_,zbb (id:=2) rfl,?_⟩
  rw[hb]at hpl⊢
  exact congrArg (λn=>some (Ow.ch 5 1 n ((p.y.mul p.z.inv).bytes.map U8) true)) hpl.symm
end Go.Proofs.YtkegaaonpekkgaaGreat.Sx
