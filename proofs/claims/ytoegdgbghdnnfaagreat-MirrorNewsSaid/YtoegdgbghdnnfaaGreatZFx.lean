import Derived.Test.YtoegdgbghdnnfaaGreatZEq
import Derived.ChangeKeysEq
namespace Go.Proofs.YtoegdgbghdnnfaaGreat.Sx
open Go.RowKit
section
def powE(a b:UInt8):List UInt8:=((List.replicate 32 (255:UInt8)).set 0 a).set 31 b
theorem zq4(a b:UInt8):(powE a b).length=32:=by simp[powE]
theorem ztx(a b:UInt8):bG 292 [U8 a,U8 b] (bch (powE a b)):=by
 refine zar (T:=Tab) mixed Tab_ok Tryz.func292 rfl (by kernel_rfl) ?_
 refine zy ?_
 refine ze (zaqb 255) ?_
 refine Vadr.mk' 0 rfl (by decide) ?_
 refine⟨by decide,_,rfl,?_⟩
 refine Vadr.mk' 31 rfl (by decide) ?_
 refine⟨Nat.le_refl _,(powE a b).map U8,rfl,?_⟩
 refine⟨_,zbr (id:=1) rfl,?_⟩
 exact rfl
def shr8(x:UInt8)(n:Nat):UInt8:=UInt8.ofNat (x.toNat/2^n)
theorem Vshr.b{a b:Int}{K:Int->Prop}(x:UInt8)(n:Nat)(ha:a=(x.toNat:Int))(hb:b=(n:Int))(hn:n<=8)(hK:K ((shr8 x n).toNat:Int)):Vshr .u8 a b K:=by
 subst ha;subst hb
 refine⟨by omega,_,?_,hK⟩
 have hx:=x.toNat_lt
 have h1:(shr8 x n).toNat=x.toNat/2^n:=by
  unfold shr8
  rw[UInt8.toNat_ofNat']
  exact Nat.mod_eq_of_lt (Nat.lt_of_le_of_lt (Nat.div_le_self _ _) hx)
 have hb:IntKind.u8.bits=8:=rfl
 rw[h1,Int.toNat_natCast,hb,Nat.min_eq_left hn,Int.fdiv_eq_ediv_of_nonneg _ (Int.pow_nonneg (by omega))]
 norm_cast
def bitE(e:List UInt8)(k:Nat):UInt8:=shr8 (e.getD (k/8) 0) (k%8)&&&1
def one:Fe:=⟨1&&&msk,shrW 1 51,0,0,0⟩
def powN(x:Fe)(e:List UInt8)(n:Nat):Nat->Fe
 |0=>one
 |j+1=>if bitE e (n-1-j)=1 then((powN x e n j).mul (powN x e n j)).mul x else(powN x e n j).mul (powN x e n j)
theorem z8l(x:Fe)(e:List UInt8)(n:Nat):powN x e n 0=one:=rfl
theorem zvs(x:Fe)(e:List UInt8)(n j:Nat):powN x e n (j+1)=if bitE e (n-1-j)=1 then((powN x e n j).mul (powN x e n j)).mul x else(powN x e n j).mul (powN x e n j):=rfl
attribute [irreducible] powN one
def Fe.pow(x:Fe)(e:List UInt8):Fe:=powN x e (8*e.length) (8*e.length)
abbrev Fe.bx(x:Fe):Ow:= .box [.r (W x.a), .r (W x.b), .r (W x.c), .r (W x.d), .r (W x.e)]
def zFe:Ow:= .box [.r (.i .u64 0), .r (.i .u64 0), .r (.i .u64 0), .r (.i .u64 0), .r (.i .u64 0)]
def powI(x:Fe)(e:List UInt8)(j:Nat):St:={F:=[(1, .r (bs e)),(2, .own 0),(4, .own 1),(5, .own 2),(6, .r (I ((8*e.length-j:Nat):Int)))],O:=[(0,some x.bx),(1,some zFe),(2,some (powN x e (8*e.length) j).bx)],nx:=3}
theorem zo4{e:List UInt8}{k:Nat}(h:k/8<e.length):(((e.map U8).drop (((k/8:Nat):Int).toNat*1)).take 1)[0]?=some (U8 (e.getD (k/8) 0)):=by
 rw[Int.toNat_natCast,Nat.mul_one,List.getElem?_take,if_pos (by omega),List.getElem?_drop,Nat.add_zero]
 exact zgr h
theorem zo1{e:List UInt8}{k:Nat}(h:(((bitE e k).toNat:Int)==1)=true):bitE e k=1:=by
 rw[beq_iff_eq]at h
 have:(bitE e k).toNat=1:=by omega
 exact UInt8.toNat_inj.1 this
theorem zlm{e:List UInt8}{k:Nat}(h:(((bitE e k).toNat:Int)==1)=false): ¬bitE e k=1:=by
 intro h1
 rw[h1]at h
 exact absurd h (by decide)
theorem zl0:bG 237 [.i .u64 1] (.r (.ag one.v)):=by
 have h:=zka 1
 unfold one
 exact h
set_option maxHeartbeats 2000000 in
theorem z3z(x:Fe)(e:List UInt8)(he:e.length<=1000000):bG 291 [.ag x.v,bs e] (.r (.ag (x.pow e).v)):=by
 refine bT Tryz.func291 rfl ?_
 refine Vcode.scope mixed Tab_ok 0 (powI x e) (λj=>j<=8*e.length) (λj=>8*e.length-j) rfl ?_ ?_
 ·refine ze zl0 ?_
  obtain⟨J,hJ⟩: ∃J,J=0:=⟨0,rfl⟩
  have hj:J<=8*e.length:=by omega
  have e0:=z8l x e (8*e.length)
  rw[<-hJ]at e0
  refine zd (m:=((8*e.length-J:Nat):Int)) (by omega) (by omega) ?_
  rw[<-e0]
  refine zd (m:=((8*e.length-J:Nat):Int)-1) rfl (by omega) ?_
  refine zh (λh=>zq ?_) (λh=>zt ?_)
  ·simp only[zb]at h
   obtain⟨k,hk⟩: ∃k,k=8*e.length-1-J:=⟨_,rfl⟩
   have ek:((8*e.length-J:Nat):Int)-1=(k:Int):=by omega
   have hd:k/8<e.length:=by omega
   have hs:=zvs x e (8*e.length) J
   rw[<-hk]at hs
   rw[ek]
   refine za rfl rfl ?_
   refine ze (zev (powN x e (8*e.length) J)) ?_
   refine Vquo.i64 k 8 rfl rfl (by omega) (by omega) ?_
   refine zm (by omega) (by omega) rfl (zg (f:=U8 (e.getD (k/8) 0)) (zo4 hd) ?_)
   refine Vrem.nat k 8 rfl rfl (by omega) ?_
   refine Vshr.b _ (k%8) rfl rfl (by omega) ?_
   refine Vbits.and8 _ 1 rfl rfl ?_
   refine zh (λh=>zq ?_) (λh=>zt ?_)
   ·have hb:bitE e k=1:=zo1 h
    rw[if_pos hb]at hs
    refine za rfl rfl ?_
    refine za rfl rfl ?_
    refine ze (zb9 ((powN x e (8*e.length) J).mul (powN x e (8*e.length) J)) x) ?_
    exact⟨J+1,by omega,zac [(0,0),(1,1),(2,2)] rfl ⟨cr,rfl,rfl,rfl,zf (by rw[hk];congr 2;omega),trivial⟩ ⟨(bC (bA bZ)),(bC (bA bZ)),by rw[hs];exact⟨_,_,rfl,cr,_,_,rfl,cr,_,_,rfl,cr,_,_,rfl,cr,_,_,rfl,cr,rfl⟩,trivial⟩⟩
   ·have hb: ¬bitE e k=1:=zlm h
    rw[if_neg hb]at hs
    exact⟨J+1,by omega,zac [(0,0),(1,1),(2,2)] rfl ⟨cr,rfl,rfl,rfl,zf (by rw[hk];congr 2;omega),trivial⟩ ⟨(bC (bA bZ)),(bC (bA bZ)),by rw[hs];exact⟨_,_,rfl,cr,_,_,rfl,cr,_,_,rfl,cr,_,_,rfl,cr,_,_,rfl,cr,rfl⟩,trivial⟩⟩
  ·simp only[zb]at h
   have hj':J=8*e.length:=by omega
   refine za rfl rfl ?_
   refine za rfl rfl ?_
   exact zf (by unfold Fe.pow;rw[<-hj'])
 ·intro J hj
  refine zd (m:=((8*e.length-J:Nat):Int)-1) rfl (by omega) ?_
  refine zh (λh=>zq ?_) (λh=>zt ?_)
  ·simp only[zb]at h
   obtain⟨k,hk⟩: ∃k,k=8*e.length-1-J:=⟨_,rfl⟩
   have ek:((8*e.length-J:Nat):Int)-1=(k:Int):=by omega
   have hd:k/8<e.length:=by omega
   have hs:=zvs x e (8*e.length) J
   rw[<-hk]at hs
   rw[ek]
   refine za rfl rfl ?_
   refine ze (zev (powN x e (8*e.length) J)) ?_
   refine Vquo.i64 k 8 rfl rfl (by omega) (by omega) ?_
   refine zm (by omega) (by omega) rfl (zg (f:=U8 (e.getD (k/8) 0)) (zo4 hd) ?_)
   refine Vrem.nat k 8 rfl rfl (by omega) ?_
   refine Vshr.b _ (k%8) rfl rfl (by omega) ?_
   refine Vbits.and8 _ 1 rfl rfl ?_
   refine zh (λh=>zq ?_) (λh=>zt ?_)
   ·have hb:bitE e k=1:=zo1 h
    rw[if_pos hb]at hs
    refine za rfl rfl ?_
    refine za rfl rfl ?_
    refine ze (zb9 ((powN x e (8*e.length) J).mul (powN x e (8*e.length) J)) x) ?_
    exact⟨J+1,by omega,by omega,zac [(0,0),(1,1),(2,2)] rfl ⟨cr,rfl,rfl,rfl,zf (by rw[hk];congr 2;omega),trivial⟩ ⟨(bC (bA bZ)),(bC (bA bZ)),by rw[hs];exact⟨_,_,rfl,cr,_,_,rfl,cr,_,_,rfl,cr,_,_,rfl,cr,_,_,rfl,cr,rfl⟩,trivial⟩⟩
   ·have hb: ¬bitE e k=1:=zlm h
    rw[if_neg hb]at hs
    exact⟨J+1,by omega,by omega,zac [(0,0),(1,1),(2,2)] rfl ⟨cr,rfl,rfl,rfl,zf (by rw[hk];congr 2;omega),trivial⟩ ⟨(bC (bA bZ)),(bC (bA bZ)),by rw[hs];exact⟨_,_,rfl,cr,_,_,rfl,cr,_,_,rfl,cr,_,_,rfl,cr,_,_,rfl,cr,rfl⟩,trivial⟩⟩
  ·simp only[zb]at h
   have hj':J=8*e.length:=by omega
   refine za rfl rfl ?_
   refine za rfl rfl ?_
   exact zf (by unfold Fe.pow;rw[<-hj'])
end
def Fe.inv(x:Fe):Fe:=x.pow (powE 235 127)
theorem zo5(x:Fe):bG 240 [.ag x.v] (.r (.ag x.inv.v)):=by
 refine bT Tryz.func240 rfl ?_
 refine bV ?_
 refine za rfl rfl ?_
 refine ze (ztx 235 127) ?_
 refine ze (z3z x (powE 235 127) (by rw[zq4];omega)) ?_
 refine za rfl rfl ?_
 exact cr
def zjs(k:List UInt8):List UInt8:=(k.set 0 (k.getD 0 0&&& ~~~7)).set 31 ((k.getD 31 0&&&63)|||64)
theorem zrk(k:List UInt8):(zjs k).length=k.length:=by simp[zjs]
theorem zdtb(k:List UInt8)(hk:k.length=32):bG 285 [bs k] (bch (zjs k)):=by
 refine zar (T:=Tab) mixed Tab_ok Tryz.func285 rfl (by kernel_rfl) ?_
 refine⟨rfl,by decide,by decide,by decide,_,_,rfl,zs32,Vpub.own ?_⟩
 have e1:((k.map U8).take (Nat.min k.length 32*1)++((List.replicate 32 (0:UInt8)).map U8).drop (Nat.min k.length 32*1))=k.map U8:=by
  have e:Nat.min k.length 32=32:=by rw[hk];rfl
  rw[e,List.take_of_length_le (by rw[List.length_map,hk];omega),List.drop_eq_nil_of_le (by simp),List.append_nil]
 refine Vstep.copy Tab_ok rfl rfl rfl rfl rfl rfl rfl rfl e1 ?_
 refine Vadr.mk' 0 rfl (by decide) ?_
 refine zg (f:=U8 (k.getD 0 0)) (zgr (by omega)) ?_
 refine Vbits.andn8 _ 7 rfl rfl ?_
 refine Vadr.mk' 0 rfl (by decide) ?_
 refine⟨by rw[List.length_map,hk];decide,(k.set 0 (k.getD 0 0&&& ~~~7)).map U8,zd9 (by omega),?_⟩
 refine Vadr.mk' 31 rfl (by decide) ?_
 refine zg (f:=U8 (k.getD 31 0)) ((zgr (j:=31) (by rw[List.length_set];omega)).trans (by rw[List.getD_eq_getElem?_getD,List.getElem?_set_ne (by decide),<-List.getD_eq_getElem?_getD])) ?_
 refine Vbits.and8 _ 63 rfl rfl ?_
 refine Vbits.or8 _ 64 rfl rfl ?_
 refine Vadr.mk' 31 rfl (by decide) ?_
 refine⟨by rw[List.length_map,List.length_set,hk];decide,(zjs k).map U8,zd9 (i:=31) (by rw[List.length_set];omega),?_⟩
 refine⟨_,zbr (id:=0) rfl,?_⟩
 exact congrArg (λn=>some (Ow.ch 5 1 n ((zjs k).map U8) true)) ((zrk k).trans hk).symm
structure Pt where
 x:Fe
 y:Fe
 z:Fe
 t:Fe
abbrev Pt.v(p:Pt):List RV:=[W p.x.a,W p.x.b,W p.x.c,W p.x.d,W p.x.e,W p.y.a,W p.y.b,W p.y.c,W p.y.d,W p.y.e,W p.z.a,W p.z.b,W p.z.c,W p.z.d,W p.z.e,W p.t.a,W p.t.b,W p.t.c,W p.t.d,W p.t.e, .b true]
abbrev Pt.bx(p:Pt):Ow:= .box [.r (W p.x.a), .r (W p.x.b), .r (W p.x.c), .r (W p.x.d), .r (W p.x.e), .r (W p.y.a), .r (W p.y.b), .r (W p.y.c), .r (W p.y.d), .r (W p.y.e), .r (W p.z.a), .r (W p.z.b), .r (W p.z.c), .r (W p.z.d), .r (W p.z.e), .r (W p.t.a), .r (W p.t.b), .r (W p.t.c), .r (W p.t.d), .r (W p.t.e), .r (.b true)]
def Pt.sum(p q:Pt)(dd:Fe):Pt:=
 let a:=(p.y.sub p.x).mul (q.y.sub q.x)
 let b:=(p.y.add p.x).mul (q.y.add q.x)
 let c:=(p.t.mul dd).mul q.t
 let e:=(p.z.add p.z).mul q.z
 let f:=b.sub a
 let g:=e.sub c
 let h:=e.add c
 let i:=b.add a
 ⟨f.mul g,h.mul i,g.mul h,f.mul i⟩
set_option maxHeartbeats 4000000 in
theorem z67(p q:Pt)(dd:Fe):bG 247 [.ag p.v, .ag q.v, .ag dd.v] (.r (.ag (p.sum q dd).v)):=by
 refine bT Tryz.func247 rfl ?_
 repeat' ((conv=>whnf);first|refine za rfl rfl ?_|refine bV ?_)
 refine ze (zh5 (p.y) (p.x)) ?_
 repeat' ((conv=>whnf);first|refine za rfl rfl ?_|refine bV ?_)
 refine ze (zh5 (q.y) (q.x)) ?_
 repeat' ((conv=>whnf);first|refine za rfl rfl ?_|refine bV ?_)
 refine ze (zb9 (p.y.sub p.x) (q.y.sub q.x)) ?_
 generalize hA:(p.y.sub p.x).mul (q.y.sub q.x)=A
 repeat' ((conv=>whnf);first|refine za rfl rfl ?_|refine bV ?_)
 refine ze (zg8 (p.y) (p.x)) ?_
 repeat' ((conv=>whnf);first|refine za rfl rfl ?_|refine bV ?_)
 refine ze (zg8 (q.y) (q.x)) ?_
 repeat' ((conv=>whnf);first|refine za rfl rfl ?_|refine bV ?_)
 refine ze (zb9 (p.y.add p.x) (q.y.add q.x)) ?_
 generalize hB:(p.y.add p.x).mul (q.y.add q.x)=B
 repeat' ((conv=>whnf);first|refine za rfl rfl ?_|refine bV ?_)
 refine ze (zb9 (p.t) (dd)) ?_
 repeat' ((conv=>whnf);first|refine za rfl rfl ?_|refine bV ?_)
 refine ze (zb9 (p.t.mul dd) (q.t)) ?_
 generalize hC:(p.t.mul dd).mul q.t=C
 repeat' ((conv=>whnf);first|refine za rfl rfl ?_|refine bV ?_)
 refine ze (zg8 (p.z) (p.z)) ?_
 repeat' ((conv=>whnf);first|refine za rfl rfl ?_|refine bV ?_)
 refine ze (zb9 (p.z.add p.z) (q.z)) ?_
 generalize hE:(p.z.add p.z).mul q.z=E
 repeat' ((conv=>whnf);first|refine za rfl rfl ?_|refine bV ?_)
 refine ze (zh5 (B) (A)) ?_
 generalize hF:B.sub A=F
 repeat' ((conv=>whnf);first|refine za rfl rfl ?_|refine bV ?_)
 refine ze (zh5 (E) (C)) ?_
 generalize hG:E.sub C=G
 repeat' ((conv=>whnf);first|refine za rfl rfl ?_|refine bV ?_)
 refine ze (zg8 (E) (C)) ?_
 generalize hH:E.add C=H
 repeat' ((conv=>whnf);first|refine za rfl rfl ?_|refine bV ?_)
 refine ze (zg8 (B) (A)) ?_
 generalize hK:B.add A=K
 repeat' ((conv=>whnf);first|refine za rfl rfl ?_|refine bV ?_)
 refine ze (zb9 (F) (G)) ?_
 repeat' ((conv=>whnf);first|refine za rfl rfl ?_|refine bV ?_)
 refine ze (zb9 (H) (K)) ?_
 repeat' ((conv=>whnf);first|refine za rfl rfl ?_|refine bV ?_)
 refine ze (zb9 (G) (H)) ?_
 repeat' ((conv=>whnf);first|refine za rfl rfl ?_|refine bV ?_)
 refine ze (zb9 (F) (K)) ?_
 repeat' ((conv=>whnf);first|refine za rfl rfl ?_|refine bV ?_)
 have e:p.sum q dd=⟨F.mul G,H.mul K,G.mul H,F.mul K⟩:=by
  subst hK hH hG hF hE hC hB hA
  rfl
 rw[e]
 exact cr
section
def numF(n:UInt64):Fe:=⟨n&&&msk,shrW n 51,0,0,0⟩
theorem h_n2:bG 237 [.i .u64 2] (.r (.ag (numF 2).v)):=zka 2
theorem h_n4:bG 237 [.i .u64 4] (.r (.ag (numF 4).v)):=zka 4
theorem h_n5:bG 237 [.i .u64 5] (.r (.ag (numF 5).v)):=zka 5
theorem h_nA:bG 237 [.i .u64 121665] (.r (.ag (numF 121665).v)):=zka 121665
theorem h_nB:bG 237 [.i .u64 121666] (.r (.ag (numF 121666).v)):=zka 121666
attribute [irreducible] numF
def dC:Fe:=(Fe.sub ⟨0,0,0,0,0⟩ (numF 121665)).mul (numF 121666).inv
theorem h_d:bG 245 [] (.r (.ag dC.v)):=by
 refine bT Tryz.func245 rfl ?_
 refine ze h_nA ?_
 refine ze (z3v (numF 121665)) ?_
 refine ze h_nB ?_
 refine ze (zo5 (numF 121666)) ?_
 refine ze (zb9 (Fe.sub ⟨0,0,0,0,0⟩ (numF 121665)) (numF 121666).inv) ?_
 refine za rfl rfl ?_
 exact cr
attribute [irreducible] dC
def Pt.of(x y:Fe):Pt:=⟨x,y,one,x.mul y⟩
theorem zchb(x y:Fe):bG 242 [.ag x.v, .ag y.v] (.r (.ag (Pt.of x y).v)):=by
 refine bT Tryz.func242 rfl ?_
 repeat' ((conv=>whnf);first|refine za rfl rfl ?_|refine bV ?_)
 refine ze zl0 ?_
 repeat' ((conv=>whnf);first|refine za rfl rfl ?_|refine bV ?_)
 refine ze (zb9 x y) ?_
 repeat' ((conv=>whnf);first|refine za rfl rfl ?_|refine bV ?_)
 exact cr
def Pt.nil:Pt:=Pt.of ⟨0,0,0,0,0⟩ one
theorem z62:bG 244 [] (.r (.ag Pt.nil.v)):=by
 refine bT Tryz.func244 rfl ?_
 refine ze zl0 ?_
 refine ze (zchb ⟨0,0,0,0,0⟩ one) ?_
 refine za rfl rfl ?_
 exact cr
attribute [irreducible] Pt.nil
theorem z1o(p:Pt):bG 243 [.ag p.v] (.r (.ag p.v)):=by
 refine bT Tryz.func243 rfl ?_
 refine zw rfl (zt ?_)
 refine za rfl rfl ?_
 refine za rfl rfl ?_
 exact cr
def dD:Fe:=dC.add dC
def mulP(p:Pt)(s:S4):Nat->Pt
 |0=>Pt.nil
 |j+1=>if s.bit (252-j)=1 then((mulP p s j).sum (mulP p s j) dD).sum p dD else(mulP p s j).sum (mulP p s j) dD
theorem z77(p:Pt)(s:S4):mulP p s 0=Pt.nil:=rfl
theorem zbeb(p:Pt)(s:S4)(j:Nat)(h:s.bit (252-j)=1):mulP p s (j+1)=((mulP p s j).sum (mulP p s j) dD).sum p dD:=by rw[mulP,if_pos h]
theorem z4p(p:Pt)(s:S4)(j:Nat)(h: ¬s.bit (252-j)=1):mulP p s (j+1)=(mulP p s j).sum (mulP p s j) dD:=by rw[mulP,if_neg h]
attribute [irreducible] mulP dD
abbrev z21:Ow:= .box [.r (W 0), .r (W 0), .r (W 0), .r (W 0), .r (W 0), .r (W 0), .r (W 0), .r (W 0), .r (W 0), .r (W 0), .r (W 0), .r (W 0), .r (W 0), .r (W 0), .r (W 0), .r (W 0), .r (W 0), .r (W 0), .r (W 0), .r (W 0), .r (.b false)]
def pmI(p:Pt)(s:S4)(j:Nat):St:={F:=[(2, .own 0),(3, .own 1),(4, .own 2),(5, .own 3),(6, .own 4),(7, .r (I (252-(j:Int))))],O:=[(0,some p.bx),(1,some s.bx),(2,some z21),(3,some (mulP p s j).bx),(4,some dD.bx)],nx:=5}
set_option maxHeartbeats 4000000 in
theorem z7b(p:Pt)(s:S4):bG 191 [.ag p.v, .ag s.v] (.r (.ag (mulP p s 253).v)):=by
 refine bT Tryz.func191 rfl ?_
 refine Vcode.scope3 mixed Tab_ok 0 (pmI p s) (λj=>j<=252) (λj=>252-j) rfl ?_ ?_
 ·refine za rfl rfl ?_
  refine ze (z1o p) ?_
  (conv=>whnf)
  refine⟨rfl,?_⟩
  refine ze z62 ?_
  refine ze h_d ?_
  refine ze h_d ?_
  refine ze (zg8 dC dC) ?_
  (conv=>whnf)
  refine⟨rfl,?_⟩
  (conv=>whnf)
  have hD:dC.add dC=dD:=by unfold dD;rfl
  rw[hD]
  refine⟨rfl,0,by omega,zac [(0,0),(1,1),(2,2),(3,3),(4,4)] rfl ⟨rfl,rfl,rfl,rfl,rfl,cr,trivial⟩ ⟨(bE (bC (bA bZ))),(bC bZ),(bE (bC (bA bZ))),by rw[z77];exact⟨_,_,rfl,cr,_,_,rfl,cr,_,_,rfl,cr,_,_,rfl,cr,_,_,rfl,cr,_,_,rfl,cr,_,_,rfl,cr,_,_,rfl,cr,_,_,rfl,cr,_,_,rfl,cr,_,_,rfl,cr,_,_,rfl,cr,_,_,rfl,cr,_,_,rfl,cr,_,_,rfl,cr,_,_,rfl,cr,_,_,rfl,cr,_,_,rfl,cr,_,_,rfl,cr,_,_,rfl,cr,_,_,rfl,cr,rfl⟩,(bC (bA bZ)),trivial⟩⟩
 ·intro j hj
  refine za rfl rfl ?_
  refine za rfl rfl ?_
  refine za rfl rfl ?_
  refine ze (z67 (mulP p s j) (mulP p s j) dD) ?_
  generalize hY:(mulP p s j).sum (mulP p s j) dD=y
  refine za rfl rfl ?_
  have hbit:=zd9b s (252-j) (by omega)
  have e1:((252-j:Nat):Int)=252-(j:Int):=by omega
  rw[e1]at hbit
  refine ze hbit ?_
  refine zh (λh=>zq ?_) (λh=>zt ?_)
  ·have hb:s.bit (252-j)=1:=by
    rw[beq_iff_eq]at h
    have:(s.bit (252-j)).toNat=1:=by omega
    exact UInt64.toNat_inj.1 this
   have hs:=zbeb p s j hb
   rw[hY]at hs
   refine za rfl rfl ?_
   refine za rfl rfl ?_
   refine za rfl rfl ?_
   refine ze (z67 y p dD) ?_
   refine zd (m:=252-((j+1:Nat):Int)) (by omega) (by omega) ?_
   refine zh (λh=>zq ?_) (λh=>zt ?_)
   ·simp only[zb]at h
    exact⟨j+1,by omega,by omega,zac [(0,0),(1,1),(2,2),(3,3),(4,4)] rfl ⟨rfl,rfl,rfl,rfl,rfl,cr,trivial⟩ ⟨(bE (bC (bA bZ))),(bC bZ),(bE (bC (bA bZ))),by rw[hs];exact⟨_,_,rfl,cr,_,_,rfl,cr,_,_,rfl,cr,_,_,rfl,cr,_,_,rfl,cr,_,_,rfl,cr,_,_,rfl,cr,_,_,rfl,cr,_,_,rfl,cr,_,_,rfl,cr,_,_,rfl,cr,_,_,rfl,cr,_,_,rfl,cr,_,_,rfl,cr,_,_,rfl,cr,_,_,rfl,cr,_,_,rfl,cr,_,_,rfl,cr,_,_,rfl,cr,_,_,rfl,cr,_,_,rfl,cr,rfl⟩,(bC (bA bZ)),trivial⟩⟩
   ·simp only[zb]at h
    obtain rfl:j=252:=by omega
    refine za rfl rfl ?_
    refine za rfl rfl ?_
    rw[hs]
    exact cr
  ·have hb: ¬s.bit (252-j)=1:=by
    rw[beq_eq_false_iff_ne]at h
    intro e
    rw[e]at h
    exact h rfl
   have hs:=z4p p s j hb
   rw[hY]at hs
   refine zd (m:=252-((j+1:Nat):Int)) (by omega) (by omega) ?_
   refine zh (λh=>zq ?_) (λh=>zt ?_)
   ·simp only[zb]at h
    exact⟨j+1,by omega,by omega,zac [(0,0),(1,1),(2,2),(3,3),(4,4)] rfl ⟨rfl,rfl,rfl,rfl,rfl,cr,trivial⟩ ⟨(bE (bC (bA bZ))),(bC bZ),(bE (bC (bA bZ))),by rw[hs];exact⟨_,_,rfl,cr,_,_,rfl,cr,_,_,rfl,cr,_,_,rfl,cr,_,_,rfl,cr,_,_,rfl,cr,_,_,rfl,cr,_,_,rfl,cr,_,_,rfl,cr,_,_,rfl,cr,_,_,rfl,cr,_,_,rfl,cr,_,_,rfl,cr,_,_,rfl,cr,_,_,rfl,cr,_,_,rfl,cr,_,_,rfl,cr,_,_,rfl,cr,_,_,rfl,cr,_,_,rfl,cr,_,_,rfl,cr,rfl⟩,(bC (bA bZ)),trivial⟩⟩
   ·simp only[zb]at h
    obtain rfl:j=252:=by omega
    refine za rfl rfl ?_
    refine za rfl rfl ?_
    rw[hs]
    exact cr
end
theorem Vsem.fieldAll{P:Program}{T:TT}{S:St}{o:Oper}(hT:TOk P T){t:TypeId}{x:Operand}{i:Nat}{ft:TypeId}{ti tf:TI}{fs:List (Nat×TypeId)}{cells:List RV}{K:TF->Option Ow->Prop}(hop:o.op= .field t x i)(hti:tget T t=some ti)(hk:ti.k= .struct fs)(hfs:lget fs i=some (0,ft))(htf:tget T ft=some tf)(hag:tf.agg=true)
  (hx:opr S x=some (.r (.ag cells))) (hc:cells.length=tf.sz) (hK:K (.r (.ag cells)) none):Vsem P S o K:=by
 refine⟨_,_,λB N a w k Q ⟨g,hs⟩ hd=>?_,hK⟩
 have hv:=(zah hs hx).2
 simp only[TF.at_,RV.at_]at hv
 obtain⟨us,e,hl⟩:=hv
 rw[zba]at hfs
 have hul:=(RV.listAt_iff _ _).1 hl
 have hus:us.size=tf.sz:=by rw[<-Array.length_toList,hul.1,hc]
 obtain⟨q,hq⟩:=hT.get hti
 obtain⟨d,hdd,hko,_⟩:=q.desc
 rw[hq]at hdd
 rw[hk]at hko
 obtain⟨fields,rfl,hfl⟩:=hko
 obtain⟨qf,hqf⟩:=hT.get htf
 have hsize:=zbm (w:=w) qf hqf
 obtain⟨df,hdf,_,hrow⟩:=qf.desc
 rw[hqf]at hdf
 rw[hag]at hrow
 have hagg:(isAgg ft).run P w= .ok true w:=by
  unfold isAgg
  rw[Sem.run_bind,run_underlying hdf w]
  cases df<;>simp_all [TypeDesc.isRow]
 rw[<-hfl,List.getElem?_map]at hfs
 cases hfi:fields.toList[i]? with
 |none=>simp[hfi]at hfs
 |some fd=>
  simp only[hfi,Option.map_some,Option.some.injEq,Prod.mk.injEq]at hfs
  obtain⟨h0,rfl⟩:=hfs
  have hfa:fields[i]?=some fd:=by simpa using hfi
  refine za0 (v:= .agg us) (w':=w) ?_ ⟨k,g,hs.put hd trivial ?_⟩
  ·simp[execOp,hop,Instr.field,run_underlying hdd w,hfa,e,part,hagg,asAgg,hsize,h0,<-hus]
  ·simp only[TF.at_,RV.at_]
   exact⟨us,rfl,hl⟩
def Fe.odd(x:Fe):Bool:=((x.least.a&&&1).toNat:Int)==1
theorem z3w(x:Fe):bG 250 [.ag x.v] (.r (.b x.odd)):=by
 refine bT Tryz.func250 rfl ?_
 refine za rfl rfl ?_
 refine ze (zk6 x) ?_
 refine Vsem.fieldAll (ft:=255) Tab_ok rfl rfl rfl rfl rfl rfl rfl rfl ?_
 refine zm (by decide) (by decide) rfl ?_
 refine Vbits.wand _ 1 rfl rfl ?_
 refine⟨_,rfl,?_⟩
 exact cr
set_option maxHeartbeats 1000000 in
theorem zagb(x:Fe):bG 238 [.ag x.v] (.own 5 1 32 (x.bytes.map U8)):=by
 refine zar (T:=Tab) mixed Tab_ok Tryz.func238 rfl (by kernel_rfl) ?_
 refine za rfl rfl ?_
 refine ze (zk6 x) ?_
 refine⟨rfl,by decide,by decide,by decide,_,_,rfl,zs32,Vpub.own ?_⟩
 refine za rfl rfl ?_
 refine Vloop.mkx (outI x.least) (λi=>i<=5) (λi=>5-i) 0 (by omega) (zac [(0,1)] rfl ⟨rfl,cr,cr,trivial⟩ ⟨⟨rfl,rfl,rfl,rfl,by rw[zum];exact zn _⟩,trivial⟩) ?_
 intro i hi
 refine zh (λh=>zq ?_) (λh=>zt ?_)
 ·simp only[zb]at h
  have hi':i<5:=by omega
  refine zm (by omega) (by simp;omega) (z10 x.least hi') ?_
  refine zd (m:=((i*51:Nat):Int)) (by omega) (by omega) ?_
  refine Vloop.mkx (inI x.least i) (λk=>k<=51) (λk=>51-k) 0 (by omega) (zac [(0,0)] rfl ⟨rfl,cr,cr,cr,cr,cr,trivial⟩ ⟨⟨rfl,rfl,rfl,rfl,by rw[zvy];exact zn _⟩,trivial⟩) ?_
  intro k hk
  refine zh (λh=>zq ?_) (λh=>zt ?_)
  ·simp only[zb]at h
   have hk':k<51:=by omega
   have hL:(rowB (allF x.least i) ((zf7 x.least).getD i 0) (i*51) k).length=32:=by rw[zmp,zlk]
   refine bV ?_
   refine zd (m:=((i*51+k:Nat):Int)) (by omega) (by omega) ?_
   refine Vquo.i64 (i*51+k) 8 rfl rfl (by omega) (by omega) ?_
   refine Vadr.mk' ((i*51+k)/8) rfl (by omega) ?_
   refine zg (f:=U8 ((rowB (allF x.least i) ((zf7 x.least).getD i 0) (i*51) k).getD ((i*51+k)/8) 0)) (by rw[Nat.mul_one];exact zgr (by rw[hL];omega)) ?_
   refine Vshr.w _ k rfl rfl ?_
   refine Vbits.wand _ 1 rfl rfl ?_
   refine Vint.u8 _ rfl ?_
   refine zd (m:=((i*51+k:Nat):Int)) (by omega) (by omega) ?_
   refine Vrem.nat (i*51+k) 8 rfl rfl (by omega) ?_
   refine Vshl.b _ ((i*51+k)%8) rfl rfl (by omega) ?_
   refine Vbits.or8 _ _ rfl rfl ?_
   refine Vadr.mk' ((i*51+k)/8) rfl (by omega) ?_
   refine⟨by rw[List.length_map,hL];show(i*51+k)/8*1+1<=32;omega,(rowB (allF x.least i) ((zf7 x.least).getD i 0) (i*51) (k+1)).map U8,?_,?_⟩
   ·rw[rowB,bitB,Nat.mul_one]
    exact zd9 (by rw[hL];omega)
   refine zd (m:=((k+1:Nat):Int)) (by omega) (by omega) ?_
   exact⟨k+1,by omega,by omega,zac [(0,0)] rfl ⟨rfl,cr,cr,cr,cr,cr,trivial⟩ ⟨⟨rfl,rfl,rfl,rfl,zn _⟩,trivial⟩⟩
  ·simp only[zb]at h
   obtain rfl:k=51:=by omega
   refine⟨_,zo _,?_⟩
   refine zd (m:=((i+1:Nat):Int)) (by omega) (by omega) ?_
   exact⟨i+1,by omega,by omega,zac [(0,0)] rfl ⟨rfl,cr,cr,trivial⟩ ⟨⟨rfl,rfl,rfl,rfl,by rw[zul];exact zn _⟩,trivial⟩⟩
 ·simp only[zb]at h
  obtain rfl:i=5:=by omega
  refine⟨_,zo _,?_⟩
  refine⟨_,zo _,?_⟩
  exact rfl
def Pt.bytes(p:Pt):List UInt8:=if(p.x.mul p.z.inv).odd then(p.y.mul p.z.inv).bytes.set 31 ((p.y.mul p.z.inv).bytes.getD 31 0|||128)else(p.y.mul p.z.inv).bytes
theorem Pt.bytes_len(p:Pt):p.bytes.length=32:=by
 unfold Pt.bytes
 split
 ·rw[List.length_set,Fe.bytes_len]
 ·exact Fe.bytes_len _
set_option maxHeartbeats 1000000 in
theorem zxv(p:Pt):bG 193 [.ag p.v] (bch p.bytes):=by
 refine zar (T:=Tab) mixed Tab_ok Tryz.func193 rfl (by kernel_rfl) ?_
 have hpl:=Pt.bytes_len p
 refine za rfl rfl ?_
 refine ze (z1o p) ?_
 refine za rfl rfl ?_
 refine ze (zo5 p.z) ?_
 refine za rfl rfl ?_
 refine za rfl rfl ?_
 refine ze (zb9 p.y p.z.inv) ?_
 refine ze (zagb (p.y.mul p.z.inv)) ?_
 refine za rfl rfl ?_
 refine za rfl rfl ?_
 refine ze (zb9 p.x p.z.inv) ?_
 refine ze (z3w (p.x.mul p.z.inv)) ?_
 have hl:=Fe.bytes_len (p.y.mul p.z.inv)
 refine⟨λh=>?_,λh=>?_⟩
 ·have hb:p.bytes=(p.y.mul p.z.inv).bytes.set 31 ((p.y.mul p.z.inv).bytes.getD 31 0|||128):=by rw[Pt.bytes,if_pos h]
  refine Vadr.any (by decide) ?_
  refine zg (f:=U8 ((p.y.mul p.z.inv).bytes.getD 31 0)) (zgr (by rw[hl];decide)) ?_
  refine Vbits.or8 _ 128 rfl rfl ?_
  refine Vadr.any (by decide) ?_
  refine⟨by rw[List.length_map,hl];decide,p.bytes.map U8,?_,?_⟩
  ·rw[hb]
   exact zd9 (by rw[hl];decide)
  refine⟨_,zbr (id:=2) rfl,?_⟩
  exact congrArg (λn=>some (Ow.ch 5 1 n (p.bytes.map U8) true)) hpl.symm
 ·have hb:p.bytes=(p.y.mul p.z.inv).bytes:=by rw[Pt.bytes,if_neg (by rw[h];decide)]
  refine⟨_,zbr (id:=2) rfl,?_⟩
  rw[hb]at hpl⊢
  exact congrArg (λn=>some (Ow.ch 5 1 n ((p.y.mul p.z.inv).bytes.map U8) true)) hpl.symm
abbrev u64v(x:UInt64):Value:= .int .u64 (x.toNat:Int)
def feV(x:Fe):Array Value:= #[u64v x.a,u64v x.b,u64v x.c,u64v x.d,u64v x.e]
def feEq(x y:Fe):Bool:=decide (x.a=y.a/\x.b=y.b/\x.c=y.c/\x.d=y.d/\x.e=y.e)
theorem z5w{x:Fe}{w:World}{k:Kp}{v:Value}(h:(RV.ag x.v).at_ w k v):v= .agg (feV x):=by
 simp only[RV.at_]at h
 obtain⟨us,rfl,hl⟩:=h
 simp only[RV.listAt,RV.at_]at hl
 congr 1
 apply Array.ext'
 obtain⟨u0,r0,e0,_,rfl,u1,r1,e1,_,rfl,u2,r2,e2,_,rfl,u3,r3,e3,_,rfl,u4,r4,e4,_,rfl,e5⟩:=hl
 subst e5 e4 e3 e2 e1
 exact e0
theorem zrp:Tryz.prog.underlying 257=some (.struct (Tryz.prog.fieldsOf 257)):=by kernel_rfl
theorem z19(x:Fe)(w:World):(part 255 (feV x) 0).run bP w= .ok (.agg (feV x)) w:=by
 have hagg:(isAgg 255).run bP w= .ok true w:=by
  unfold isAgg
  rw[Sem.run_bind,run_underlying (show Tryz.prog.underlying 255=some (.array 5 23)by kernel_rfl) w]
  rfl
 obtain⟨q,hq⟩:=Tab_ok.get (show tget Tab 255=some _ from rfl)
 have hsize:=zbm (w:=w) q hq
 simp only[part,Sem.run_bind,hagg,Result.andThen_ok,if_true,hsize,Sem.run_pure]
 rfl
theorem z8h(x:Fe)(i:Nat)(v:Value)(w:World)(h:(feV x)[i]?=some v):(part 23 (feV x) i).run bP w= .ok v w:=by
 have hagg:(isAgg 23).run bP w= .ok false w:=by
  unfold isAgg
  rw[Sem.run_bind,run_underlying (show Tryz.prog.underlying 23=some (.int .u64)by kernel_rfl) w]
  rfl
 simp only[part,Sem.run_bind,hagg,Result.andThen_ok,h]
 simp
theorem zxd(x y:Fe)(w:World)(d:Nat): ∀is:List Nat,(∀i∈is,i<5)->∃r:Bool,(Op.eqItems (d+1) 23 1 (feV x) (feV y) is).run bP w= .ok r w/\(r=true↔∀i∈is,(feV x)[i]?=(feV y)[i]?)
 |[],_=>⟨true,by simp[Op.eqItems],by simp⟩
 |i::is,h=>by
  obtain⟨r,ih,hr⟩:=zxd x y w d is λj hj=>h j (List.mem_cons_of_mem _ hj)
  have hi:=h i (List.mem_cons_self ..)
  have hx: ∃a:UInt64,(feV x)[i]?=some (u64v a):=by
   have:i=0\/i=1\/i=2\/i=3\/i=4:=by omega
   rcases this with rfl |rfl |rfl |rfl |rfl<;>exact⟨_,rfl⟩
  have hy: ∃a:UInt64,(feV y)[i]?=some (u64v a):=by
   have:i=0\/i=1\/i=2\/i=3\/i=4:=by omega
   rcases this with rfl |rfl |rfl |rfl |rfl<;>exact⟨_,rfl⟩
  obtain⟨a,ha⟩:=hx
  obtain⟨b,hb⟩:=hy
  simp only[Op.eqItems,Sem.run_bind,Nat.mul_one,z8h x i _ w ha,z8h y i _ w hb,Result.andThen_ok,run_equalIn_int w d 23 .u64 .u64 _ _ (show Tryz.prog.underlying 23=some (.int .u64)by kernel_rfl)]
  by_cases hab:(a.toNat:Int)=(b.toNat:Int)
  ·have e:(feV x)[i]?=(feV y)[i]?:=by rw[ha,hb,u64v,u64v,hab]
   exact⟨r,by simp[hab,ih],by rw[hr];simp[e]⟩
  ·have e: ¬(feV x)[i]?=(feV y)[i]?:=by
    rw[ha,hb]
    intro e
    injection e with e
    injection e with _ e
    exact hab e
   exact⟨false,by simp[hab],by simp[e]⟩
theorem zgdb(x y:Fe)(w:World)(dd:Nat):(Op.equalIn (dd+2) 255 (.agg (feV x)) (.agg (feV y))).run bP w= .ok (feEq x y) w:=by
 obtain⟨r,hr,hiff⟩:=zxd x y w dd (List.range 5) (λi hi=>List.mem_range.1 hi)
 have hi: ∃i,Tryz.prog.info? 23=some i:=by
  obtain⟨q,hq⟩:=Tab_ok.get (show tget Tab 23=some _ from rfl)
  obtain⟨i,hi,_⟩:=q.info
  rw[hq]at hi
  exact⟨i,hi⟩
 obtain⟨i,hi⟩:=hi
 have harr:=run_equalIn_array (P:=Tryz.prog) w (dd+1) (feV x) (feV y) (show Tryz.prog.underlying 255=some (.array 5 23)by kernel_rfl) hi
 have hcells:Tryz.prog.cellsOf 23=1:=by kernel_rfl
 rw[hcells,hr]at harr
 have hre:r=feEq x y:=by
  have h5:(∀i∈List.range 5,(feV x)[i]?=(feV y)[i]?)↔(x.a=y.a/\x.b=y.b/\x.c=y.c/\x.d=y.d/\x.e=y.e):=by
   have hin: ∀a b:UInt64,some (u64v a)=some (u64v b)->a=b:=λa b e=>by
    simp only[u64v,Option.some.injEq,Value.int.injEq,true_and]at e
    exact UInt64.toNat_inj.1 (Int.ofNat_inj.1 e)
   constructor
   ·intro h
    exact⟨hin _ _ (h 0 (by simp)),hin _ _ (h 1 (by simp)),hin _ _ (h 2 (by simp)),hin _ _ (h 3 (by simp)),hin _ _ (h 4 (by simp))⟩
   ·rintro⟨h0,h1,h2,h3,h4⟩ i _
    simp only[feV,h0,h1,h2,h3,h4]
  rw[h5]at hiff
  unfold feEq
  cases r
  ·exact(decide_eq_false (λh=>by have:=hiff.2 h;cases this)).symm
  ·exact(decide_eq_true (hiff.1 rfl)).symm
 rw[<-hre]
 exact harr
theorem z9q: ∃f,(Tryz.prog.fieldsOf 257).toList=[f]/\f.type=255/\f.offset=0/\f.name≠ "_" :=by
 obtain⟨q,hq⟩:=Tab_ok.get (show tget Tab 257=some _ from rfl)
 obtain⟨d,hdd,hko,_⟩:=q.desc
 rw[hq,zrp]at hdd
 injection hdd with hdd
 subst hdd
 obtain⟨fields,e,hfl⟩:=hko
 injection e with e
 rw[<-e]at hfl
 have hn:((Tryz.prog.fieldsOf 257).toList.all λf=> !(f.name== "_"))=true:=by kernel_rfl
 generalize (Tryz.prog.fieldsOf 257).toList=l at*
 have hlen:=congrArg List.length hfl
 rw[List.length_map]at hlen
 obtain⟨f,rfl⟩:=List.length_eq_one_iff.1 hlen
 simp only[List.map_cons,List.map_nil,List.cons.injEq,Prod.mk.injEq,and_true]at hfl
 simp only[List.all_cons,List.all_nil,Bool.and_true,Bool.not_eq_true',beq_eq_false_iff_ne]at hn
 exact⟨f,rfl,hfl.2,hfl.1,hn⟩
theorem ziwb(x y:Fe)(w:World):(binOp .eql 257 (.agg (feV x)) (.agg (feV y))).run bP w= .ok (.bool (feEq x y)) w:=by
 obtain⟨f,hf,ht,ho,hn⟩:=z9q
 rw[run_eql_struct,run_equalIn_agg w 9999 _ _ _ zrp (by kernel_rfl),hf]
 have h1:=z19 x w
 have h2:=z19 y w
 have h3:=zgdb x y w 9997
 simp only[Op.eqFields,ne_eq,hn,not_false_eq_true,if_true,ht,ho,Sem.run_bind,h1,h2,Result.andThen_ok]
 rw[h3]
 simp only[Result.andThen_ok]
 cases feEq x y<;>simp
section
theorem Vfun.eqFe{S:St}{o:Oper}{p q:Operand}{t2:TypeId}{x y:Fe}{K:RV->Prop}(hop:o.op= .binOp .eql 257 p q t2)(hx:opr S p=some (.r (.ag x.v)))(hy:opr S q=some (.r (.ag y.v)))(hK:K (.b (feEq x y))):Vfun bP S o [p,q] K:=by
 refine⟨[.ag x.v, .ag y.v],by simp only[oprs,hx,hy,St.rv],_,λa w k h=>?_,hK⟩
 obtain⟨u,v,e,h1,h2⟩:=zn9 h
 have e1:=z5w h1
 have e2:=z5w h2
 simp only[List.map_cons,List.map_nil,List.cons.injEq,and_true]at e
 refine⟨.bool (feEq x y),?_,by simp only[RV.at_]⟩
 simp[execOp,hop,e.1,e.2,e1,e2,run_eqGuard_agg (P:=Tryz.prog) w .eql 257 p q _ _ (by kernel_rfl),ziwb x y w]
def zgd(x y:Fe):Bool:=feEq x.least y.least
theorem zxy(x y:Fe):bG 329 [.ag x.v, .ag y.v] (.r (.b (zgd x y))):=by
 refine bT Tryz.func329 rfl ?_
 refine bV ?_
 refine za rfl rfl ?_
 refine ze (zk6 x) ?_
 refine za rfl rfl ?_
 refine ze (zk6 y) ?_
 refine Vfun.eqFe (x:=x.least) (y:=y.least) rfl rfl rfl ?_
 exact cr
def zmn(a x:Fe):Fe×Bool:=cond (zgd (x.mul x) a) (cond x.odd (Fe.sub ⟨0,0,0,0,0⟩ x,true) (x,true)) (⟨0,0,0,0,0⟩,false)
def zhf(a:Fe):Fe:=a.pow (powE 254 15)
def zsu(a:Fe):Fe:=(zhf a).mul ((numF 2).pow (powE 251 31))
def zsv(a:Fe):Fe:=cond (zgd ((zhf a).mul (zhf a)) a) (zhf a) (zsu a)
def zdy(a:Fe):Fe×Bool:=zmn a (zsv a)
set_option maxHeartbeats 1000000 in
theorem zg9b(a:Fe):bG 295 [.ag a.v] (.r (.tu [.ag (zdy a).1.v, .b (zdy a).2])):=by
 refine bT Tryz.func295 rfl ?_
 refine bV ?_
 refine za rfl rfl ?_
 refine ze (ztx 254 15) ?_
 refine ze (z3z a (powE 254 15) (by rw[zq4];omega)) ?_
 have hX:a.pow (powE 254 15)=zhf a:=by rw[zhf]
 rw[hX]
 have hZ:zsv a=cond (zgd ((zhf a).mul (zhf a)) a) (zhf a) (zsu a):=by rw[zsv]
 have hY:zsu a=(zhf a).mul ((numF 2).pow (powE 251 31)):=by rw[zsu]
 generalize zhf a=x at*
 generalize zsu a=y at*
 refine bV ?_
 refine za rfl rfl ?_
 refine ze (zev x) ?_
 refine za rfl rfl ?_
 refine ze (zxy (x.mul x) a) ?_
 refine⟨_,rfl,?_⟩
 refine⟨λh=>?_,λh=>?_⟩
 ·have e1:zgd (x.mul x) a=false:=by simpa using h
  have hr:zsv a=y:=by rw[hZ,e1];rfl
  refine bV ?_
  refine za rfl rfl ?_
  refine ze h_n2 ?_
  refine ze (ztx 251 31) ?_
  refine ze (z3z (numF 2) (powE 251 31) (by rw[zq4];omega)) ?_
  refine ze (zb9 x ((numF 2).pow (powE 251 31))) ?_
  rw[<-hY]
  refine bV ?_
  refine za rfl rfl ?_
  refine ze (zev y) ?_
  refine za rfl rfl ?_
  refine ze (zxy (y.mul y) a) ?_
  refine⟨_,rfl,?_⟩
  refine⟨λh2=>?_,λh2=>?_⟩
  ·have e2:zgd (y.mul y) a=false:=by simpa using h2
   have e:zdy a=(⟨0,0,0,0,0⟩,false):=by rw[zdy,hr,zmn,e2];rfl
   rw[e]
   refine za rfl rfl ?_
   exact⟨_,rfl,cr⟩
  ·have e2:zgd (y.mul y) a=true:=by simpa using h2
   refine za rfl rfl ?_
   refine ze (z3w y) ?_
   refine⟨λh3=>?_,λh3=>?_⟩
   ·have e:zdy a=(Fe.sub ⟨0,0,0,0,0⟩ y,true):=by rw[zdy,hr,zmn,e2,h3];rfl
    rw[e]
    refine za rfl rfl ?_
    refine ze (z3v y) ?_
    refine za rfl rfl ?_
    refine za rfl rfl ?_
    exact⟨_,rfl,cr⟩
   ·have e:zdy a=(y,true):=by rw[zdy,hr,zmn,e2,h3];rfl
    rw[e]
    refine za rfl rfl ?_
    refine za rfl rfl ?_
    exact⟨_,rfl,cr⟩
 ·have e1:zgd (x.mul x) a=true:=by simpa using h
  have hr:zsv a=x:=by rw[hZ,e1];rfl
  refine bV ?_
  refine za rfl rfl ?_
  refine ze (zev x) ?_
  refine za rfl rfl ?_
  refine ze (zxy (x.mul x) a) ?_
  refine⟨_,rfl,?_⟩
  refine⟨λh2=>?_,λh2=>?_⟩
  ·have e2:zgd (x.mul x) a=false:=by simpa using h2
   have e:zdy a=(⟨0,0,0,0,0⟩,false):=by rw[zdy,hr,zmn,e2];rfl
   rw[e]
   refine za rfl rfl ?_
   exact⟨_,rfl,cr⟩
  ·have e2:zgd (x.mul x) a=true:=by simpa using h2
   refine za rfl rfl ?_
   refine ze (z3w x) ?_
   refine⟨λh3=>?_,λh3=>?_⟩
   ·have e:zdy a=(Fe.sub ⟨0,0,0,0,0⟩ x,true):=by rw[zdy,hr,zmn,e2,h3];rfl
    rw[e]
    refine za rfl rfl ?_
    refine ze (z3v x) ?_
    refine za rfl rfl ?_
    refine za rfl rfl ?_
    exact⟨_,rfl,cr⟩
   ·have e:zdy a=(x,true):=by rw[zdy,hr,zmn,e2,h3];rfl
    rw[e]
    refine za rfl rfl ?_
    refine za rfl rfl ?_
    exact⟨_,rfl,cr⟩
attribute [irreducible] zdy
end
section
def zlt(y:Fe):Fe:=((y.mul y).sub one).mul ((dC.mul (y.mul y)).add one).inv
theorem z9s(y:Fe):((y.mul y).sub one).mul ((dC.mul (y.mul y)).add one).inv=zlt y:=rfl
attribute [irreducible] zlt
theorem zg1b(y:Fe):bG 241 [.ag y.v] (.r (.tu [.ag (zdy (zlt y)).1.v, .b (zdy (zlt y)).2])):=by
 refine bT Tryz.func241 rfl ?_
 refine za rfl rfl ?_
 refine ze (zev y) ?_
 refine bV ?_
 refine za rfl rfl ?_
 refine ze zl0 ?_
 refine ze (zh5 (y.mul y) one) ?_
 refine ze h_d ?_
 refine za rfl rfl ?_
 refine ze (zb9 dC (y.mul y)) ?_
 refine ze zl0 ?_
 refine ze (zg8 (dC.mul (y.mul y)) one) ?_
 refine ze (zo5 ((dC.mul (y.mul y)).add one)) ?_
 refine ze (zb9 ((y.mul y).sub one) ((dC.mul (y.mul y)).add one).inv) ?_
 rw[z9s]
 refine ze (zg9b (zlt y)) ?_
 refine za rfl rfl ?_
 exact⟨_,rfl,cr⟩
def zll:Fe:=(numF 4).mul (numF 5).inv
theorem z9j:(numF 4).mul (numF 5).inv=zll:=rfl
attribute [irreducible] zll
def baseP:Pt:=Pt.of (zdy (zlt zll)).1 zll
theorem z1n:bG 190 [] (.r (.ag baseP.v)):=by
 refine bT Tryz.func190 rfl ?_
 refine ze h_n4 ?_
 refine ze h_n5 ?_
 refine ze (zo5 (numF 5)) ?_
 refine ze (zb9 (numF 4) (numF 5).inv) ?_
 rw[z9j]
 refine za rfl rfl ?_
 refine ze (zg1b zll) ?_
 refine za rfl rfl ?_
 refine za rfl rfl ?_
 refine ze (zchb (zdy (zlt zll)).1 zll) ?_
 refine za rfl rfl ?_
 exact cr
attribute [irreducible] baseP
end
end Go.Proofs.YtoegdgbghdnnfaaGreat.Sx
