import Derived.Test.YtkegaaonpekkgaaGreatXqSxFl
import Derived.ChangeKeysEq
namespace Go.Proofs.YtkegaaonpekkgaaGreat.Sx
open Go.RowKit
set_option maxHeartbeats 4000000
def nf(c:UInt8)(bp:Nat):List RV:=List.replicate bp (U8 c)++List.replicate (32-bp) .any
theorem Tj(c:UInt8){bp:Nat}(h:bp<=32):(nf c bp).length=32:=by simp[nf];omega
theorem MI(c:UInt8):(([c].map U8).take (Nat.min [c].length 32*1))++(List.replicate 32 RV.any).drop (Nat.min [c].length 32*1)=nf c 1:=rfl
theorem MH(c:UInt8){bp:Nat}(h:2*bp<=32)(h0:0<bp):(nf c bp).take (bp*1)++(((nf c bp).drop (0*1)).take (bp*1)).take (Nat.min bp (32-bp)*1)++(nf c bp).drop (bp*1+Nat.min bp (32-bp)*1)=nf c (2*bp):=by
 have e:Nat.min bp (32-bp)=bp:=Nat.min_eq_left (by omega)
 rw[e]
 simp only[nf,cL,Nat.zero_mul,List.drop_zero]
 have h1:(List.replicate bp (U8 c)).length=bp:=List.length_replicate
 have t1:(List.replicate bp (U8 c)++List.replicate (32-bp) RV.any).take bp=List.replicate bp (U8 c):=by rw[List.take_append_of_le_length (by rw[h1];exact bQ _),bF (by rw[h1];exact bQ _)]
 rw[t1,bF (by rw[h1];exact bQ _),List.replicate_append_replicate,List.drop_append,h1,List.drop_eq_nil_of_le (by rw[h1];omega),cG,List.drop_replicate]
 congr 2<;>omega
theorem Fn{S:St}{j off m s0:Nat}{e:TypeId}{sz n:Nat}{ys:List RV}{pub:Bool}(ho:ye S.O j=some (.ch e sz n ys pub))(h:off+m*sz<=ys.length):gT S s0 (.cut j off m)=some (sz,m,(ys.drop off).take (m*sz)):=by
 have hb:Nat.ble (off+m*sz) ys.length=true:=Nat.ble_eq_true_of_le h
 unfold gT
 simp only[ho,hb]
def Aw(c:UInt8)(bp:Nat):St:={F:=[(7,.r (I 32)),(8,.r (I 32)),(9,.own 0),(10,.r (I bp))],O:=[(0,some (.ch 5 1 32 (nf c bp) false))],nx:=1}
theorem Kq(c:UInt8):aG 425 [bs [c],I 32] (.own 5 1 32 (List.replicate 32 (U8 c))):=by
 refine aT Tryz.func425 rfl ?_
 refine cX ?_
 refine cX ?_
 refine Vint.n 1 rfl ?_
 refine Vint.n 32 rfl ?_
 refine ze (EA 1 32) ?_
 refine zu rfl ?_
 refine cX ?_
 refine Vint.n 32 rfl ?_
 refine cX ?_
 refine cX ?_
 refine Vcall.ext (Bx 32 (by decide)) ?_
 refine Vstep.clip Tab_ok rfl rfl rfl rfl rfl rfl rfl rfl rfl (by decide) ?_
 refine Vstep.copy Tab_ok rfl rfl rfl rfl rfl rfl rfl rfl (MI c) ?_
 refine zy (Aw c) (λbp=>bp∈[1,2,4,8,16,32]) (λbp=>32-bp) 1 (by decide) (zN [(0,1)] ⟨⟨rfl,rfl,rfl,rfl,zn _⟩,trivial⟩) ?_
 intro bp hbp
 refine cZ (λh=>?_) λh=>?_
 ·simp only[zb]at h
  have h2:2*bp<=32:=by simp at hbp;omega
  have h0:0<bp:=by simp at hbp;omega
  refine Vstep.min rfl rfl rfl ?_
  refine Vdraw.code (Vcode.float mixed Tab_ok 8 [⟨0,67,.r (I bp),[]⟩,⟨1,68,.own 0,[]⟩,⟨2,69,.r (I bp),[]⟩,⟨3,70,.cut 0 (bp*1) (32-bp),[1,2]⟩,⟨4,71,.own 0,[]⟩,⟨5,72,.r (I bp),[]⟩,⟨6,73,.cut 0 (0*1) bp,[4,5]⟩] [(7,[3,6])] (by kernel_rfl)
   (F:=[(7,.r (I 32)),(8,.r (I 32)),(9,.own 0),(10,.r (I bp)),(11,.r (I bp))]) (O:=[(0,some (.ch 5 1 32 (nf c bp) false))]) (nx:=1) (zX [(0,0)] rfl ⟨cr,cr,rfl,cr,zf (by rw[cQ (by omega)]),trivial⟩ ⟨⟨rfl,rfl,rfl,rfl,zn _⟩,trivial⟩) ?_)
  refine⟨rfl,⟨λY=>zo _,λY=>zo _,λY=>zo _,λY=>Vstep.val Tab_ok (Vcutn.mk' bp (32-bp) rfl (by omega) (by omega) (by omega) (zo _)),λY=>zo _,λY=>zo _,λY=>Vstep.val Tab_ok (Vcutn.mk' 0 bp rfl (by omega) (by omega) (by omega) (zo _)),trivial⟩,
   [(74,.r (I ((Nat.min bp (32-bp):Nat):Int))),(7,.r (I 32)),(8,.r (I 32)),(9,.own 0),(10,.r (I bp)),(11,.r (I bp))],(0,some (.ch 5 1 32 (nf c (2*bp)) false))::[(0,some (.ch 5 1 32 (nf c bp) false))],1,λY=>?_,?_⟩
  ·exact Vstep.copyCut Tab_ok rfl rfl rfl rfl rfl rfl (by rw[Tj c (by omega)];show bp*1+(32-bp)*1<=32;omega) rfl (Fn rfl (by rw[Tj c (by omega)];show 0*1+bp*1<=32;omega)) (MH c h2 h0) (zo _)
  refine⟨rfl,⟨λY=>zo _,λY=>zo _,λY=>zo _,λY=>Vstep.val Tab_ok (Vcutn.mk' bp (32-bp) rfl (by omega) (by omega) (by omega) (zo _)),λY=>zo _,λY=>zo _,λY=>Vstep.val Tab_ok (Vcutn.mk' 0 bp rfl (by omega) (by omega) (by omega) (zo _)),trivial⟩,?_⟩
  refine zd (m:=((2*bp:Nat):Int)) (by rw[show Nat.min bp (32-bp)=bp from Nat.min_eq_left (by omega)];omega) (by rw[show Nat.min bp (32-bp)=bp from Nat.min_eq_left (by omega)];omega) ?_
  exact⟨2*bp,by simp at hbp⊢;omega,by omega,zN [(0,0)] ⟨⟨rfl,rfl,rfl,rfl,zn _⟩,trivial⟩⟩
 ·simp only[zb]at h
  obtain rfl:bp=32:=by simp at hbp;omega
  exact rfl
section
def v7(a b:UInt8):cT:=((List.replicate 32 (255:UInt8)).set 0 a).set 31 b
theorem dZ(a b:UInt8):(v7 a b).length=32:=by simp[v7]
theorem YL(a b:UInt8):aG 328 [U8 a,U8 b] (xJ (v7 a b)):=by
 refine yT (T:=Tab) mixed Tab_ok Tryz.func328 rfl (by kernel_rfl) ?_
 refine zw ?_
 refine ze (Kq 255) ?_
 refine zD 0 rfl (by decide) ?_
 refine⟨by decide,_,rfl,?_⟩
 refine zD 31 rfl (by decide) ?_
 refine⟨bQ _,(v7 a b).map U8,rfl,?_⟩
 refine⟨_,xE (id:=1) rfl,?_⟩
 exact rfl
def PZ(x:UInt8)(n:Nat):UInt8:=UInt8.ofNat (x.toNat/2^n)
theorem Vshr.b{a b:Int}{K:Int->Prop}(x:UInt8)(n:Nat)(ha:a=(x.toNat:Int))(hb:b=(n:Int))(hn:n<=8)(hK:K ((PZ x n).toNat:Int)):Vshr .u8 a b K:=by
 subst ha;subst hb
 refine⟨by omega,_,?_,hK⟩
 have hx:=x.toNat_lt
 have h1:(PZ x n).toNat=x.toNat/2^n:=by
  unfold PZ
  rw[UInt8.toNat_ofNat']
  exact bS (Nat.lt_of_le_of_lt (Nat.div_le_self _ _) hx)
 have hb:IntKind.u8.bits=8:=rfl
 rw[h1,cF,hb,Nat.min_eq_left hn,Int.fdiv_eq_ediv_of_nonneg _ (Int.pow_nonneg (by omega))]
 norm_cast
def tO(e:cT)(k:Nat):UInt8:=PZ (e.getD (k/8) 0) (k%8)&&&1
def one:Fe:=⟨1&&&wb,yA 1 51,0,0,0⟩
def vK(x:Fe)(e:cT)(n:Nat):Nat->Fe
 |0=>one
 |j+1=>if tO e (n-1-j)=1 then((vK x e n j).mul (vK x e n j)).mul x else(vK x e n j).mul (vK x e n j)
theorem Wd(x:Fe)(e:cT)(n:Nat):vK x e n 0=one:=rfl
theorem gR(x:Fe)(e:cT)(n j:Nat):vK x e n (j+1)=if tO e (n-1-j)=1 then((vK x e n j).mul (vK x e n j)).mul x else(vK x e n j).mul (vK x e n j):=rfl
attribute [irreducible] vK one
def Fe.pow(x:Fe)(e:cT):Fe:=vK x e (8*e.length) (8*e.length)
abbrev Fe.bx(x:Fe):Ow:= .box [.r (W x.a),.r (W x.b),.r (W x.c),.r (W x.d),.r (W x.e)]
def AS:Ow:= .box [.r (.i .u64 0),.r (.i .u64 0),.r (.i .u64 0),.r (.i .u64 0),.r (.i .u64 0)]
def Au(x:Fe)(e:cT)(j:Nat):St:={F:=[(1,.r (bs e)),(2,.own 0),(4,.own 1),(5,.own 2),(6,.r (I ((8*e.length-j:Nat):Int)))],O:=[(0,some x.bx),(1,some AS),(2,some (vK x e (8*e.length) j).bx)],nx:=3}
theorem fJ{e:cT}{k:Nat}(h:k/8<e.length):(((e.map U8).drop (((k/8:Nat):Int).toNat*1)).take 1)[0]?=some (U8 (e.getD (k/8) 0)):=by
 rw[cF,cL,bZ,cO (by omega),List.getElem?_drop,Nat.add_zero]
 exact sr h
theorem fE{e:cT}{k:Nat}(h:(((tO e k).toNat:Int)==1)=true):tO e k=1:=by
 rw[beq_iff_eq]at h
 have:(tO e k).toNat=1:=by omega
 exact UInt8.toNat_inj.1 this
theorem js{e:cT}{k:Nat}(h:(((tO e k).toNat:Int)==1)=false): ¬tO e k=1:=by
 intro h1
 rw[h1]at h
 exact absurd h (by decide)
theorem jK:aG 210 [.i .u64 1] (.r (.ag one.v)):=by
 have h:=mT 1
 unfold one
 exact h
theorem Pa(x:Fe)(e:cT)(he:e.length<=1000000):aG 327 [.ag x.v,bs e] (.r (.ag (x.pow e).v)):=by
 refine aT Tryz.func327 rfl ?_
 refine Vcode.scope mixed Tab_ok 0 (Au x e) (λj=>j<=8*e.length) (λj=>8*e.length-j) rfl ?_ ?_
 ·refine ze jK ?_
  obtain⟨J,hJ⟩: ∃J,J=0:=⟨0,rfl⟩
  have hj:J<=8*e.length:=by omega
  have e0:=Wd x e (8*e.length)
  rw[<-hJ]at e0
  refine zd (m:=((8*e.length-J:Nat):Int)) (by omega) (by omega) ?_
  rw[<-e0]
  refine zd (m:=((8*e.length-J:Nat):Int)-1) rfl (by omega) ?_
  refine cZ (λh=>?_) λh=>?_
  ·simp only[zb]at h
   obtain⟨k,hk⟩: ∃k,k=8*e.length-1-J:=⟨_,rfl⟩
   have ek:((8*e.length-J:Nat):Int)-1=(k:Int):=by omega
   have hd:k/8<e.length:=by omega
   have hs:=gR x e (8*e.length) J
   rw[<-hk]at hs
   rw[ek]
   refine cU ?_
   refine ze (uJ (vK x e (8*e.length) J)) ?_
   refine Vquo.i64 k 8 rfl rfl (by omega) (by omega) ?_
   refine cV rfl (zg (f:=U8 (e.getD (k/8) 0)) (fJ hd) ?_)
   refine Vrem.nat k 8 rfl rfl (by omega) ?_
   refine Vshr.b _ (k%8) rfl rfl (by omega) ?_
   refine Vbits.and8 _ 1 rfl rfl ?_
   refine cZ (λh=>?_) λh=>?_
   ·have hb:tO e k=1:=fE h
    rw[cO hb]at hs
    refine cU ?_
    refine cU ?_
    refine ze (xI ((vK x e (8*e.length) J).mul (vK x e (8*e.length) J)) x) ?_
    exact⟨J+1,by omega,zX [(0,0),(1,1),(2,2)] rfl ⟨cr,rfl,rfl,rfl,zf (by rw[hk];congr 2;omega),trivial⟩ ⟨(aC (aA aZ)),(aC (aA aZ)),by rw[hs];exact⟨_,_,rfl,cr,_,_,rfl,cr,_,_,rfl,cr,_,_,rfl,cr,_,_,rfl,cr,rfl⟩,trivial⟩⟩
   ·have hb: ¬tO e k=1:=js h
    rw[cQ hb]at hs
    exact⟨J+1,by omega,zX [(0,0),(1,1),(2,2)] rfl ⟨cr,rfl,rfl,rfl,zf (by rw[hk];congr 2;omega),trivial⟩ ⟨(aC (aA aZ)),(aC (aA aZ)),by rw[hs];exact⟨_,_,rfl,cr,_,_,rfl,cr,_,_,rfl,cr,_,_,rfl,cr,_,_,rfl,cr,rfl⟩,trivial⟩⟩
  ·simp only[zb]at h
   have hj':J=8*e.length:=by omega
   refine cU ?_
   refine cU ?_
   exact zf (by unfold Fe.pow;rw[<-hj'])
 ·intro J hj
  refine zd (m:=((8*e.length-J:Nat):Int)-1) rfl (by omega) ?_
  refine cZ (λh=>?_) λh=>?_
  ·simp only[zb]at h
   obtain⟨k,hk⟩: ∃k,k=8*e.length-1-J:=⟨_,rfl⟩
   have ek:((8*e.length-J:Nat):Int)-1=(k:Int):=by omega
   have hd:k/8<e.length:=by omega
   have hs:=gR x e (8*e.length) J
   rw[<-hk]at hs
   rw[ek]
   refine cU ?_
   refine ze (uJ (vK x e (8*e.length) J)) ?_
   refine Vquo.i64 k 8 rfl rfl (by omega) (by omega) ?_
   refine cV rfl (zg (f:=U8 (e.getD (k/8) 0)) (fJ hd) ?_)
   refine Vrem.nat k 8 rfl rfl (by omega) ?_
   refine Vshr.b _ (k%8) rfl rfl (by omega) ?_
   refine Vbits.and8 _ 1 rfl rfl ?_
   refine cZ (λh=>?_) λh=>?_
   ·have hb:tO e k=1:=fE h
    rw[cO hb]at hs
    refine cU ?_
    refine cU ?_
    refine ze (xI ((vK x e (8*e.length) J).mul (vK x e (8*e.length) J)) x) ?_
    exact⟨J+1,by omega,by omega,zX [(0,0),(1,1),(2,2)] rfl ⟨cr,rfl,rfl,rfl,zf (by rw[hk];congr 2;omega),trivial⟩ ⟨(aC (aA aZ)),(aC (aA aZ)),by rw[hs];exact⟨_,_,rfl,cr,_,_,rfl,cr,_,_,rfl,cr,_,_,rfl,cr,_,_,rfl,cr,rfl⟩,trivial⟩⟩
   ·have hb: ¬tO e k=1:=js h
    rw[cQ hb]at hs
    exact⟨J+1,by omega,by omega,zX [(0,0),(1,1),(2,2)] rfl ⟨cr,rfl,rfl,rfl,zf (by rw[hk];congr 2;omega),trivial⟩ ⟨(aC (aA aZ)),(aC (aA aZ)),by rw[hs];exact⟨_,_,rfl,cr,_,_,rfl,cr,_,_,rfl,cr,_,_,rfl,cr,_,_,rfl,cr,rfl⟩,trivial⟩⟩
  ·simp only[zb]at h
   have hj':J=8*e.length:=by omega
   refine cU ?_
   refine cU ?_
   exact zf (by unfold Fe.pow;rw[<-hj'])
end
def Fe.inv(x:Fe):Fe:=x.pow (v7 235 127)
theorem fL(x:Fe):aG 213 [.ag x.v] (.r (.ag x.inv.v)):=by
 refine aT Tryz.func213 rfl ?_
 refine aV ?_
 refine cU ?_
 refine ze (YL 235 127) ?_
 refine ze (Pa x (v7 235 127) (by rw[dZ];omega)) ?_
 refine cU ?_
 exact cr
def nW(k:cT):cT:=(k.set 0 (k.getD 0 0&&& ~~~7)).set 31 ((k.getD 31 0&&&63)|||64)
theorem an(k:cT):(nW k).length=k.length:=by simp[nW]
theorem Gb(k:cT)(hk:k.length=32):aG 321 [bs k] (xJ (nW k)):=by
 refine yT (T:=Tab) mixed Tab_ok Tryz.func321 rfl (by kernel_rfl) ?_
 refine⟨rfl,by decide,by decide,by decide,_,_,rfl,bt,Vpub.own ?_⟩
 have e1:((k.map U8).take (Nat.min k.length 32*1)++((List.replicate 32 (0:UInt8)).map U8).drop (Nat.min k.length 32*1))=k.map U8:=by
  have e:Nat.min k.length 32=32:=by rw[hk];rfl
  rw[e,bF (by rw[bC,hk];omega),List.drop_eq_nil_of_le (by simp),List.append_nil]
 refine Vstep.copy Tab_ok rfl rfl rfl rfl rfl rfl rfl rfl e1 ?_
 refine zD 0 rfl (by decide) ?_
 refine zg (f:=U8 (k.getD 0 0)) (sr (by omega)) ?_
 refine Vbits.andn8 _ 7 rfl rfl ?_
 refine zD 0 rfl (by decide) ?_
 refine⟨by rw[bC,hk];decide,(k.set 0 (k.getD 0 0&&& ~~~7)).map U8,vI (by omega),?_⟩
 refine zD 31 rfl (by decide) ?_
 refine zg (f:=U8 (k.getD 31 0)) ((sr (j:=31) (by rw[List.length_set];omega)).trans (by rw[bK,List.getElem?_set_ne (by decide),<-bK])) ?_
 refine Vbits.and8 _ 63 rfl rfl ?_
 refine Vbits.or8 _ 64 rfl rfl ?_
 refine zD 31 rfl (by decide) ?_
 refine⟨by rw[bC,List.length_set,hk];decide,(nW k).map U8,vI (i:=31) (by rw[List.length_set];omega),?_⟩
 refine⟨_,xE (id:=0) rfl,?_⟩
 exact cR (λn=>some (Ow.ch 5 1 n ((nW k).map U8) true)) ((an k).trans hk).symm
structure Pt where
 x:Fe
 y:Fe
 z:Fe
 t:Fe
abbrev Pt.v(p:Pt):List RV:=[W p.x.a,W p.x.b,W p.x.c,W p.x.d,W p.x.e,W p.y.a,W p.y.b,W p.y.c,W p.y.d,W p.y.e,W p.z.a,W p.z.b,W p.z.c,W p.z.d,W p.z.e,W p.t.a,W p.t.b,W p.t.c,W p.t.d,W p.t.e,.b true]
abbrev Pt.bx(p:Pt):Ow:= .box [.r (W p.x.a),.r (W p.x.b),.r (W p.x.c),.r (W p.x.d),.r (W p.x.e),.r (W p.y.a),.r (W p.y.b),.r (W p.y.c),.r (W p.y.d),.r (W p.y.e),.r (W p.z.a),.r (W p.z.b),.r (W p.z.c),.r (W p.z.d),.r (W p.z.e),.r (W p.t.a),.r (W p.t.b),.r (W p.t.c),.r (W p.t.d),.r (W p.t.e),.r (.b true)]
def Pt.sum(p q:Pt)(dd:Fe):Pt:=
 let a:=(p.y.sub p.x).mul (q.y.sub q.x)
 let b:=(p.y.add p.x).mul (q.y.add q.x)
 let c:=(p.t.mul dd).mul q.t
 let e:=(p.z.add p.z).mul q.z
 let f:=b.sub a
 let g:=e.sub c
 let h:=e.add c
 let i:=b.add a
 ⟨f.mul g,h.mul i,g.mul h,f.mul i⟩
theorem VV(p q:Pt)(dd:Fe):aG 220 [.ag p.v,.ag q.v,.ag dd.v] (.r (.ag (p.sum q dd).v)):=by
 refine aT Tryz.func220 rfl ?_
 repeat' ((conv=>whnf);first|refine za rfl rfl ?_|refine aV ?_)
 refine ze (pY (p.y) (p.x)) ?_
 repeat' ((conv=>whnf);first|refine za rfl rfl ?_|refine aV ?_)
 refine ze (pY (q.y) (q.x)) ?_
 repeat' ((conv=>whnf);first|refine za rfl rfl ?_|refine aV ?_)
 refine ze (xI (p.y.sub p.x) (q.y.sub q.x)) ?_
 generalize hA:(p.y.sub p.x).mul (q.y.sub q.x)=A
 repeat' ((conv=>whnf);first|refine za rfl rfl ?_|refine aV ?_)
 refine ze (rD (p.y) (p.x)) ?_
 repeat' ((conv=>whnf);first|refine za rfl rfl ?_|refine aV ?_)
 refine ze (rD (q.y) (q.x)) ?_
 repeat' ((conv=>whnf);first|refine za rfl rfl ?_|refine aV ?_)
 refine ze (xI (p.y.add p.x) (q.y.add q.x)) ?_
 generalize hB:(p.y.add p.x).mul (q.y.add q.x)=B
 repeat' ((conv=>whnf);first|refine za rfl rfl ?_|refine aV ?_)
 refine ze (xI (p.t) (dd)) ?_
 repeat' ((conv=>whnf);first|refine za rfl rfl ?_|refine aV ?_)
 refine ze (xI (p.t.mul dd) (q.t)) ?_
 generalize hC:(p.t.mul dd).mul q.t=C
 repeat' ((conv=>whnf);first|refine za rfl rfl ?_|refine aV ?_)
 refine ze (rD (p.z) (p.z)) ?_
 repeat' ((conv=>whnf);first|refine za rfl rfl ?_|refine aV ?_)
 refine ze (xI (p.z.add p.z) (q.z)) ?_
 generalize hE:(p.z.add p.z).mul q.z=E
 repeat' ((conv=>whnf);first|refine za rfl rfl ?_|refine aV ?_)
 refine ze (pY (B) (A)) ?_
 generalize hF:B.sub A=F
 repeat' ((conv=>whnf);first|refine za rfl rfl ?_|refine aV ?_)
 refine ze (pY (E) (C)) ?_
 generalize hG:E.sub C=G
 repeat' ((conv=>whnf);first|refine za rfl rfl ?_|refine aV ?_)
 refine ze (rD (E) (C)) ?_
 generalize hH:E.add C=H
 repeat' ((conv=>whnf);first|refine za rfl rfl ?_|refine aV ?_)
 refine ze (rD (B) (A)) ?_
 generalize hK:B.add A=K
 repeat' ((conv=>whnf);first|refine za rfl rfl ?_|refine aV ?_)
 refine ze (xI (F) (G)) ?_
 repeat' ((conv=>whnf);first|refine za rfl rfl ?_|refine aV ?_)
 refine ze (xI (H) (K)) ?_
 repeat' ((conv=>whnf);first|refine za rfl rfl ?_|refine aV ?_)
 refine ze (xI (G) (H)) ?_
 repeat' ((conv=>whnf);first|refine za rfl rfl ?_|refine aV ?_)
 refine ze (xI (F) (K)) ?_
 repeat' ((conv=>whnf);first|refine za rfl rfl ?_|refine aV ?_)
 have e:p.sum q dd=⟨F.mul G,H.mul K,G.mul H,F.mul K⟩:=by
  subst hK hH hG hF hE hC hB hA
  rfl
 rw[e]
 exact cr
section
def xj(n:UInt64):Fe:=⟨n&&&wb,yA n 51,0,0,0⟩
theorem Ag:aG 210 [.i .u64 2] (.r (.ag (xj 2).v)):=mT 2
theorem Ah:aG 210 [.i .u64 4] (.r (.ag (xj 4).v)):=mT 4
theorem Ai:aG 210 [.i .u64 5] (.r (.ag (xj 5).v)):=mT 5
theorem Aj:aG 210 [.i .u64 121665] (.r (.ag (xj 121665).v)):=mT 121665
theorem Ak:aG 210 [.i .u64 121666] (.r (.ag (xj 121666).v)):=mT 121666
attribute [irreducible] xj
def fz:Fe:=⟨0,0,0,0,0⟩
def dC:Fe:=(Fe.sub ⟨0,0,0,0,0⟩ (xj 121665)).mul (xj 121666).inv
theorem JQ:aG 218 [] (.r (.ag dC.v)):=by
 refine aT Tryz.func218 rfl ?_
 refine ze Aj ?_
 refine ze (WO (xj 121665)) ?_
 refine ze Ak ?_
 refine ze (fL (xj 121666)) ?_
 refine ze (xI (Fe.sub ⟨0,0,0,0,0⟩ (xj 121665)) (xj 121666).inv) ?_
 refine cU ?_
 exact cr
attribute [irreducible] dC
def Pt.of(x y:Fe):Pt:=⟨x,y,one,x.mul y⟩
theorem QZ(x y:Fe):aG 215 [.ag x.v,.ag y.v] (.r (.ag (Pt.of x y).v)):=by
 refine aT Tryz.func215 rfl ?_
 repeat' ((conv=>whnf);first|refine za rfl rfl ?_|refine aV ?_)
 refine ze jK ?_
 repeat' ((conv=>whnf);first|refine za rfl rfl ?_|refine aV ?_)
 refine ze (xI x y) ?_
 repeat' ((conv=>whnf);first|refine za rfl rfl ?_|refine aV ?_)
 exact cr
def Pt.nil:Pt:=Pt.of ⟨0,0,0,0,0⟩ one
theorem N4:aG 217 [] (.r (.ag Pt.nil.v)):=by
 refine aT Tryz.func217 rfl ?_
 refine ze jK ?_
 refine ze (QZ ⟨0,0,0,0,0⟩ one) ?_
 refine cU ?_
 exact cr
attribute [irreducible] Pt.nil
theorem nN(p:Pt):aG 216 [.ag p.v] (.r (.ag p.v)):=by
 refine aT Tryz.func216 rfl ?_
 refine cX ?_
 refine cU ?_
 refine cU ?_
 exact cr
def dD:Fe:=dC.add dC
def wE(p:Pt)(s:S4):Nat->Pt
 |0=>Pt.nil
 |j+1=>if s.bit (252-j)=1 then((wE p s j).sum (wE p s j) dD).sum p dD else(wE p s j).sum (wE p s j) dD
theorem XX(p:Pt)(s:S4):wE p s 0=Pt.nil:=rfl
theorem UD(p:Pt)(s:S4)(j:Nat)(h:s.bit (252-j)=1):wE p s (j+1)=((wE p s j).sum (wE p s j) dD).sum p dD:=by rw[wE,cO h]
theorem ZG(p:Pt)(s:S4)(j:Nat)(h: ¬s.bit (252-j)=1):wE p s (j+1)=(wE p s j).sum (wE p s j) dD:=by rw[wE,cQ h]
attribute [irreducible] wE dD
abbrev AR:Ow:= .box [.r (W 0),.r (W 0),.r (W 0),.r (W 0),.r (W 0),.r (W 0),.r (W 0),.r (W 0),.r (W 0),.r (W 0),.r (W 0),.r (W 0),.r (W 0),.r (W 0),.r (W 0),.r (W 0),.r (W 0),.r (W 0),.r (W 0),.r (W 0),.r (.b false)]
def AJ(p:Pt)(s:S4)(j:Nat):St:={F:=[(2,.own 0),(3,.own 1),(4,.own 2),(5,.own 3),(6,.own 4),(7,.r (I (252-(j:Int))))],O:=[(0,some p.bx),(1,some s.bx),(2,some AR),(3,some (wE p s j).bx),(4,some dD.bx)],nx:=5}
theorem Z2(p:Pt)(s:S4):aG 125 [.ag p.v,.ag s.v] (.r (.ag (wE p s 253).v)):=by
 refine aT Tryz.func125 rfl ?_
 refine Vcode.scope3 mixed Tab_ok 0 (AJ p s) (λj=>j<=252) (λj=>252-j) rfl ?_ ?_
 ·refine cU ?_
  refine ze (nN p) ?_
  (conv=>whnf)
  refine⟨rfl,?_⟩
  refine ze N4 ?_
  refine ze JQ ?_
  refine ze JQ ?_
  refine ze (rD dC dC) ?_
  (conv=>whnf)
  refine⟨rfl,?_⟩
  (conv=>whnf)
  have hD:dC.add dC=dD:=by unfold dD;rfl
  rw[hD]
  refine⟨rfl,0,by omega,zN [(0,0),(1,1),(2,2),(3,3),(4,4)] ⟨(aE (aC (aA aZ))),(aC aZ),(aE (aC (aA aZ))),by rw[XX];exact⟨_,_,rfl,cr,_,_,rfl,cr,_,_,rfl,cr,_,_,rfl,cr,_,_,rfl,cr,_,_,rfl,cr,_,_,rfl,cr,_,_,rfl,cr,_,_,rfl,cr,_,_,rfl,cr,_,_,rfl,cr,_,_,rfl,cr,_,_,rfl,cr,_,_,rfl,cr,_,_,rfl,cr,_,_,rfl,cr,_,_,rfl,cr,_,_,rfl,cr,_,_,rfl,cr,_,_,rfl,cr,_,_,rfl,cr,rfl⟩,(aC (aA aZ)),trivial⟩⟩
 ·intro j hj
  refine cU ?_
  refine cU ?_
  refine cU ?_
  refine ze (VV (wE p s j) (wE p s j) dD) ?_
  generalize hY:(wE p s j).sum (wE p s j) dD=y
  refine cU ?_
  have hbit:=G6 s (252-j) (by omega)
  have e1:((252-j:Nat):Int)=252-(j:Int):=by omega
  rw[e1]at hbit
  refine ze hbit ?_
  refine cZ (λh=>?_) λh=>?_
  ·have hb:s.bit (252-j)=1:=by
    rw[beq_iff_eq]at h
    have:(s.bit (252-j)).toNat=1:=by omega
    exact UInt64.toNat_inj.1 this
   have hs:=UD p s j hb
   rw[hY]at hs
   refine cU ?_
   refine cU ?_
   refine cU ?_
   refine ze (VV y p dD) ?_
   refine zd (m:=252-((j+1:Nat):Int)) (by omega) (by omega) ?_
   refine cZ (λh=>?_) λh=>?_
   ·simp only[zb]at h
    exact⟨j+1,by omega,by omega,zN [(0,0),(1,1),(2,2),(3,3),(4,4)] ⟨(aE (aC (aA aZ))),(aC aZ),(aE (aC (aA aZ))),by rw[hs];exact⟨_,_,rfl,cr,_,_,rfl,cr,_,_,rfl,cr,_,_,rfl,cr,_,_,rfl,cr,_,_,rfl,cr,_,_,rfl,cr,_,_,rfl,cr,_,_,rfl,cr,_,_,rfl,cr,_,_,rfl,cr,_,_,rfl,cr,_,_,rfl,cr,_,_,rfl,cr,_,_,rfl,cr,_,_,rfl,cr,_,_,rfl,cr,_,_,rfl,cr,_,_,rfl,cr,_,_,rfl,cr,_,_,rfl,cr,rfl⟩,(aC (aA aZ)),trivial⟩⟩
   ·simp only[zb]at h
    obtain rfl:j=252:=by omega
    refine cU ?_
    refine cU ?_
    rw[hs]
    exact cr
  ·have hb: ¬s.bit (252-j)=1:=by
    rw[beq_eq_false_iff_ne]at h
    intro e
    rw[e]at h
    exact h rfl
   have hs:=ZG p s j hb
   rw[hY]at hs
   refine zd (m:=252-((j+1:Nat):Int)) (by omega) (by omega) ?_
   refine cZ (λh=>?_) λh=>?_
   ·simp only[zb]at h
    exact⟨j+1,by omega,by omega,zN [(0,0),(1,1),(2,2),(3,3),(4,4)] ⟨(aE (aC (aA aZ))),(aC aZ),(aE (aC (aA aZ))),by rw[hs];exact⟨_,_,rfl,cr,_,_,rfl,cr,_,_,rfl,cr,_,_,rfl,cr,_,_,rfl,cr,_,_,rfl,cr,_,_,rfl,cr,_,_,rfl,cr,_,_,rfl,cr,_,_,rfl,cr,_,_,rfl,cr,_,_,rfl,cr,_,_,rfl,cr,_,_,rfl,cr,_,_,rfl,cr,_,_,rfl,cr,_,_,rfl,cr,_,_,rfl,cr,_,_,rfl,cr,_,_,rfl,cr,_,_,rfl,cr,rfl⟩,(aC (aA aZ)),trivial⟩⟩
   ·simp only[zb]at h
    obtain rfl:j=252:=by omega
    refine cU ?_
    refine cU ?_
    rw[hs]
    exact cr
end
theorem Vsem.fieldAll{P:Program}{T:TT}{S:St}{o:Oper}(hT:TOk P T){t:TypeId}{x:Operand}{i:Nat}{ft:TypeId}{ti tf:TI}{fs:List (Nat×TypeId)}{cells:List RV}{K:TF->Option Ow->Prop}(hop:o.op= .field t x i)(hti:yL T t=some ti)(hk:ti.k= .struct fs)(hfs:yp fs i=some (0,ft))(htf:yL T ft=some tf)(hag:tf.agg=true)
  (hx:yv S x=some (.r (.ag cells))) (hc:cells.length=tf.sz) (hK:K (.r (.ag cells)) none):Vsem P S o K:=by
 refine⟨_,_,λB N a w k Q ⟨g,hs⟩ hd=>?_,hK⟩
 have hv:=(yi hs hx).2
 simp only[TF.at_,RV.at_]at hv
 obtain⟨us,e,hl⟩:=hv
 rw[yE]at hfs
 have hul:=(RV.listAt_iff _ _).1 hl
 have hus:us.size=tf.sz:=by rw[<-bG,hul.1,hc]
 obtain⟨q,hq⟩:=hT.get hti
 obtain⟨d,hdd,hko,_⟩:=q.desc
 rw[hq]at hdd
 rw[hk]at hko
 obtain⟨fields,rfl,hfl⟩:=hko
 obtain⟨qf,hqf⟩:=hT.get htf
 have hsize:=xq (w:=w) qf hqf
 obtain⟨df,hdf,_,hrow⟩:=qf.desc
 rw[hqf]at hdf
 rw[hag]at hrow
 have hagg:(isAgg ft).run P w= .ok true w:=by
  unfold isAgg
  rw[Sem.run_bind,run_underlying hdf w]
  cases df<;>simp_all [TypeDesc.isRow]
 rw[<-hfl,bR]at hfs
 cases hfi:fields.toList[i]? with
 |none=>simp[hfi]at hfs
 |some fd=>
  simp only[hfi,Option.map_some,bT,Prod.mk.injEq]at hfs
  obtain⟨h0,rfl⟩:=hfs
  have hfa:fields[i]?=some fd:=by simpa using hfi
  refine yG (v:= .agg us) (w':=w) ?_ ⟨k,g,hs.put hd trivial ?_⟩
  ·simp[execOp,hop,Instr.field,run_underlying hdd w,hfa,e,part,hagg,asAgg,hsize,h0,<-hus]
  ·simp only[TF.at_,RV.at_]
   exact⟨us,rfl,hl⟩
def Fe.odd(x:Fe):Bool:=((x.least.a&&&1).toNat:Int)==1
theorem QW(x:Fe):aG 223 [.ag x.v] (.r (.b x.odd)):=by
 refine aT Tryz.func223 rfl ?_
 refine cU ?_
 refine ze (kB x) ?_
 refine Vsem.fieldAll (ft:=178) Tab_ok rfl rfl rfl rfl rfl rfl rfl rfl ?_
 refine zm (by decide) (by decide) rfl ?_
 refine Vbits.wand _ 1 rfl rfl ?_
 refine⟨_,rfl,?_⟩
 exact cr
theorem LR(x:Fe):aG 211 [.ag x.v] (.own 5 1 32 (x.bytes.map U8)):=by
 refine yT (T:=Tab) mixed Tab_ok Tryz.func211 rfl (by kernel_rfl) ?_
 refine cU ?_
 refine ze (kB x) ?_
 refine⟨rfl,by decide,by decide,by decide,_,_,rfl,bt,Vpub.own ?_⟩
 refine cU ?_
 refine Vloop.mkx (DD x.least) (λi=>i<=5) (λi=>5-i) 0 (by omega) (zN [(0,1)] ⟨⟨rfl,rfl,rfl,rfl,by rw[iR];exact zn _⟩,trivial⟩) ?_
 intro i hi
 refine cZ (λh=>?_) λh=>?_
 ·simp only[zb]at h
  have hi':i<5:=by omega
  refine zm (by omega) (by simp;omega) (Rr x.least hi') ?_
  refine zd (m:=((i*51:Nat):Int)) (by omega) (by omega) ?_
  refine Vloop.mkx (BQ x.least i) (λk=>k<=51) (λk=>51-k) 0 (by omega) (zN [(0,0)] ⟨⟨rfl,rfl,rfl,rfl,by rw[gU];exact zn _⟩,trivial⟩) ?_
  intro k hk
  refine cZ (λh=>?_) λh=>?_
  ·simp only[zb]at h
   have hk':k<51:=by omega
   have hL:(tc (tN x.least i) ((uA x.least).getD i 0) (i*51) k).length=32:=by rw[mB,nU]
   refine aV ?_
   refine zd (m:=((i*51+k:Nat):Int)) (by omega) (by omega) ?_
   refine Vquo.i64 (i*51+k) 8 rfl rfl (by omega) (by omega) ?_
   refine zD ((i*51+k)/8) rfl (by omega) ?_
   refine zg (f:=U8 ((tc (tN x.least i) ((uA x.least).getD i 0) (i*51) k).getD ((i*51+k)/8) 0)) (by rw[cL];exact sr (by rw[hL];omega)) ?_
   refine Vshr.w _ k rfl rfl ?_
   refine Vbits.wand _ 1 rfl rfl ?_
   refine Vint.u8 _ rfl ?_
   refine zd (m:=((i*51+k:Nat):Int)) (by omega) (by omega) ?_
   refine Vrem.nat (i*51+k) 8 rfl rfl (by omega) ?_
   refine Vshl.b _ ((i*51+k)%8) rfl rfl (by omega) ?_
   refine Vbits.or8 _ _ rfl rfl ?_
   refine zD ((i*51+k)/8) rfl (by omega) ?_
   refine⟨by rw[bC,hL];show(i*51+k)/8*1+1<=32;omega,(tc (tN x.least i) ((uA x.least).getD i 0) (i*51) (k+1)).map U8,?_,?_⟩
   ·rw[tc,dq,cL]
    exact vI (by rw[hL];omega)
   refine zd (m:=((k+1:Nat):Int)) (by omega) (by omega) ?_
   exact⟨k+1,by omega,by omega,zN [(0,0)] ⟨⟨rfl,rfl,rfl,rfl,zn _⟩,trivial⟩⟩
  ·simp only[zb]at h
   obtain rfl:k=51:=by omega
   refine⟨_,zo _,?_⟩
   refine zd (m:=((i+1:Nat):Int)) (by omega) (by omega) ?_
   exact⟨i+1,by omega,by omega,zN [(0,0)] ⟨⟨rfl,rfl,rfl,rfl,by rw[iQ];exact zn _⟩,trivial⟩⟩
 ·simp only[zb]at h
  obtain rfl:i=5:=by omega
  refine⟨_,zo _,?_⟩
  refine⟨_,zo _,?_⟩
  exact rfl
def Pt.bytes(p:Pt):cT:=if(p.x.mul p.z.inv).odd then(p.y.mul p.z.inv).bytes.set 31 ((p.y.mul p.z.inv).bytes.getD 31 0|||128)else(p.y.mul p.z.inv).bytes
theorem Pt.bytes_len(p:Pt):p.bytes.length=32:=by
 unfold Pt.bytes
 split
 ·rw[List.length_set,Fe.bytes_len]
 ·exact Fe.bytes_len _
theorem VW(p:Pt):aG 127 [.ag p.v] (xJ p.bytes):=by
 refine yT (T:=Tab) mixed Tab_ok Tryz.func127 rfl (by kernel_rfl) ?_
 have hpl:=Pt.bytes_len p
 refine cU ?_
 refine ze (nN p) ?_
 refine cU ?_
 refine ze (fL p.z) ?_
 refine cU ?_
 refine cU ?_
 refine ze (xI p.y p.z.inv) ?_
 refine ze (LR (p.y.mul p.z.inv)) ?_
 refine cU ?_
 refine cU ?_
 refine ze (xI p.x p.z.inv) ?_
 refine ze (QW (p.x.mul p.z.inv)) ?_
 have hl:=Fe.bytes_len (p.y.mul p.z.inv)
 refine⟨λh=>?_,λh=>?_⟩
 ·have hb:p.bytes=(p.y.mul p.z.inv).bytes.set 31 ((p.y.mul p.z.inv).bytes.getD 31 0|||128):=by rw[Pt.bytes,cO h]
  refine zH (by decide) ?_
  refine zg (f:=U8 ((p.y.mul p.z.inv).bytes.getD 31 0)) (sr (by rw[hl];decide)) ?_
  refine Vbits.or8 _ 128 rfl rfl ?_
  refine zH (by decide) ?_
  refine⟨by rw[bC,hl];decide,p.bytes.map U8,?_,?_⟩
  ·rw[hb]
   exact vI (by rw[hl];decide)
  refine⟨_,xE (id:=2) rfl,?_⟩
  exact cR (λn=>some (Ow.ch 5 1 n (p.bytes.map U8) true)) hpl.symm
 ·have hb:p.bytes=(p.y.mul p.z.inv).bytes:=by rw[Pt.bytes,cQ (by rw[h];decide)]
  refine⟨_,xE (id:=2) rfl,?_⟩
  rw[hb]at hpl⊢
  exact cR (λn=>some (Ow.ch 5 1 n ((p.y.mul p.z.inv).bytes.map U8) true)) hpl.symm
abbrev nh(x:UInt64):Value:= .int .u64 (x.toNat:Int)
def tX(x:Fe):Array Value:= #[nh x.a,nh x.b,nh x.c,nh x.d,nh x.e]
def j7(x y:Fe):Bool:=decide (x.a=y.a/\x.b=y.b/\x.c=y.c/\x.d=y.d/\x.e=y.e)
theorem OE{x:Fe}{w:World}{k:Kp}{v:Value}(h:(RV.ag x.v).at_ w k v):v= .agg (tX x):=by
 simp only[RV.at_]at h
 obtain⟨us,rfl,hl⟩:=h
 simp only[RV.listAt,RV.at_]at hl
 congr 1
 apply Array.ext'
 obtain⟨u0,r0,e0,_,rfl,u1,r1,e1,_,rfl,u2,r2,e2,_,rfl,u3,r3,e3,_,rfl,u4,r4,e4,_,rfl,e5⟩:=hl
 subst e5 e4 e3 e2 e1
 exact e0
theorem az:Tryz.prog.underlying 180=some (.struct (Tryz.prog.fieldsOf 180)):=by kernel_rfl
theorem R7(x:Fe)(w:World):(part 178 (tX x) 0).run aP w= .ok (.agg (tX x)) w:=by
 have hagg:(isAgg 178).run aP w= .ok true w:=by
  unfold isAgg
  rw[Sem.run_bind,run_underlying (show Tryz.prog.underlying 178=some (.array 5 43)by kernel_rfl) w]
  rfl
 obtain⟨q,hq⟩:=Tab_ok.get (show yL Tab 178=some _ from rfl)
 have hsize:=xq (w:=w) q hq
 simp only[part,Sem.run_bind,hagg,Result.andThen_ok,if_true,hsize,Sem.run_pure]
 rfl
theorem Mz(x:Fe)(i:Nat)(v:Value)(w:World)(h:(tX x)[i]?=some v):(part 43 (tX x) i).run aP w= .ok v w:=by
 have hagg:(isAgg 43).run aP w= .ok false w:=by
  unfold isAgg
  rw[Sem.run_bind,run_underlying (show Tryz.prog.underlying 43=some (.int .u64)by kernel_rfl) w]
  rfl
 simp only[part,Sem.run_bind,hagg,Result.andThen_ok,h]
 simp
theorem Vq(x y:Fe)(w:World)(d:Nat): ∀is:List Nat,(∀i∈is,i<5)->∃r:Bool,(Op.eqItems (d+1) 43 1 (tX x) (tX y) is).run aP w= .ok r w/\(r=true↔∀i∈is,(tX x)[i]?=(tX y)[i]?)
 |[],_=>⟨true,by simp[Op.eqItems],by simp⟩
 |i::is,h=>by
  obtain⟨r,ih,hr⟩:=Vq x y w d is λj hj=>h j (cK _ hj)
  have hi:=h i (List.mem_cons_self ..)
  have hx: ∃a:UInt64,(tX x)[i]?=some (nh a):=by
   have:i=0\/i=1\/i=2\/i=3\/i=4:=by omega
   rcases this with rfl |rfl |rfl |rfl |rfl<;>exact⟨_,rfl⟩
  have hy: ∃a:UInt64,(tX y)[i]?=some (nh a):=by
   have:i=0\/i=1\/i=2\/i=3\/i=4:=by omega
   rcases this with rfl |rfl |rfl |rfl |rfl<;>exact⟨_,rfl⟩
  obtain⟨a,ha⟩:=hx
  obtain⟨b,hb⟩:=hy
  simp only[Op.eqItems,Sem.run_bind,cL,Mz x i _ w ha,Mz y i _ w hb,Result.andThen_ok,run_equalIn_int w d 43 .u64 .u64 _ _ (show Tryz.prog.underlying 43=some (.int .u64)by kernel_rfl)]
  by_cases hab:(a.toNat:Int)=(b.toNat:Int)
  ·have e:(tX x)[i]?=(tX y)[i]?:=by rw[ha,hb,nh,nh,hab]
   exact⟨r,by simp[hab,ih],by rw[hr];simp[e]⟩
  ·have e: ¬(tX x)[i]?=(tX y)[i]?:=by
    rw[ha,hb]
    intro e
    injection e with e
    injection e with _ e
    exact hab e
   exact⟨false,by simp[hab],by simp[e]⟩
theorem Ef(x y:Fe)(w:World)(dd:Nat):(Op.equalIn (dd+2) 178 (.agg (tX x)) (.agg (tX y))).run aP w= .ok (j7 x y) w:=by
 obtain⟨r,hr,hiff⟩:=Vq x y w dd (List.range 5) (λi hi=>List.mem_range.1 hi)
 have hi: ∃i,Tryz.prog.info? 43=some i:=by
  obtain⟨q,hq⟩:=Tab_ok.get (show yL Tab 43=some _ from rfl)
  obtain⟨i,hi,_⟩:=q.info
  rw[hq]at hi
  exact⟨i,hi⟩
 obtain⟨i,hi⟩:=hi
 have harr:=run_equalIn_array (P:=Tryz.prog) w (dd+1) (tX x) (tX y) (show Tryz.prog.underlying 178=some (.array 5 43)by kernel_rfl) hi
 have hcells:Tryz.prog.cellsOf 43=1:=by kernel_rfl
 rw[hcells,hr]at harr
 have hre:r=j7 x y:=by
  have h5:(∀i∈List.range 5,(tX x)[i]?=(tX y)[i]?)↔(x.a=y.a/\x.b=y.b/\x.c=y.c/\x.d=y.d/\x.e=y.e):=by
   have hin: ∀a b:UInt64,some (nh a)=some (nh b)->a=b:=λa b e=>by
    simp only[nh,bT,Value.int.injEq,true_and]at e
    exact UInt64.toNat_inj.1 (Int.ofNat_inj.1 e)
   constructor
   ·intro h
    exact⟨hin _ _ (h 0 (by simp)),hin _ _ (h 1 (by simp)),hin _ _ (h 2 (by simp)),hin _ _ (h 3 (by simp)),hin _ _ (h 4 (by simp))⟩
   ·rintro⟨h0,h1,h2,h3,h4⟩ i _
    simp only[tX,h0,h1,h2,h3,h4]
  rw[h5]at hiff
  unfold j7
  cases r
  ·exact(bD (λh=>by have:=hiff.2 h;cases this)).symm
  ·exact(bE (hiff.1 rfl)).symm
 rw[<-hre]
 exact harr
theorem L9: ∃f,(Tryz.prog.fieldsOf 180).toList=[f]/\f.type=178/\f.offset=0/\f.name≠ "_" :=by
 obtain⟨q,hq⟩:=Tab_ok.get (show yL Tab 180=some _ from rfl)
 obtain⟨d,hdd,hko,_⟩:=q.desc
 rw[hq,az]at hdd
 injection hdd with hdd
 subst hdd
 obtain⟨fields,e,hfl⟩:=hko
 injection e with e
 rw[<-e]at hfl
 have hn:((Tryz.prog.fieldsOf 180).toList.all λf=> !(f.name== "_"))=true:=by kernel_rfl
 generalize (Tryz.prog.fieldsOf 180).toList=l at*
 have hlen:=cR List.length hfl
 rw[bC]at hlen
 obtain⟨f,rfl⟩:=List.length_eq_one_iff.1 hlen
 simp only[cJ,List.map_nil,List.cons.injEq,Prod.mk.injEq,and_true]at hfl
 simp only[List.all_cons,List.all_nil,Bool.and_true,Bool.not_eq_true',beq_eq_false_iff_ne]at hn
 exact⟨f,rfl,hfl.2,hfl.1,hn⟩
theorem Bq(x y:Fe)(w:World):(binOp .eql 180 (.agg (tX x)) (.agg (tX y))).run aP w= .ok (.bool (j7 x y)) w:=by
 obtain⟨f,hf,ht,ho,hn⟩:=L9
 rw[run_eql_struct,run_equalIn_agg w 9999 _ _ _ az (by kernel_rfl),hf]
 have h1:=R7 x w
 have h2:=R7 y w
 have h3:=Ef x y w 9997
 simp only[Op.eqFields,ne_eq,hn,not_false_eq_true,if_true,ht,ho,Sem.run_bind,h1,h2,Result.andThen_ok]
 rw[h3]
 simp only[Result.andThen_ok]
 cases j7 x y<;>simp
end Go.Proofs.YtkegaaonpekkgaaGreat.Sx
