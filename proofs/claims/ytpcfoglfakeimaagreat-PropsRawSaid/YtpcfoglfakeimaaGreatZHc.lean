import Derived.Test.YtpcfoglfakeimaaGreatZGg
import Derived.Test.YtpcfoglfakeimaaGreatZCg
import Derived.Test.YtpcfoglfakeimaaGreatZFx
import Derived.Test.YtpcfoglfakeimaaGreatZSxU
import Derived.Test.YtpcfoglfakeimaaGreatZHb
import Derived.Test.YtpcfoglfakeimaaGreatZNk
import Derived.Test.YtpcfoglfakeimaaGreatZSxPt
import Derived.Test.YtpcfoglfakeimaaGreatZCf
namespace Go.Proofs.YtpcfoglfakeimaaGreat.Sx
open Go.RowKit
def baS(l:List UInt8):ByteArray:=⟨l.toArray⟩
theorem z2d(l:List UInt8):strOfNums (nums l)=baS l:=by
 unfold strOfNums baS nums
 rw[List.map_map]
 congr 2
 exact(List.map_congr_left (λx _=>by simp)).trans (List.map_id l)
theorem Vfun.str{S:St}{o:Oper}{x:Operand}{l:List UInt8}{K:RV->Prop}(hop:o.op= .convert 25 9 x)(hx:oprs S [x]=some [bs l])(hK:K (Str (baS l))):Vfun aP S o [x] K:=
 ⟨_,hx,_,λa w k h=>by
  simp only[RV.partsAt,List.map_cons,List.map_nil]at h
  obtain⟨u,r,e,hat,_⟩:=h
  obtain⟨p,rfl,hp⟩:=z0o hat
  have hv:=(List.cons.inj e).1
  refine⟨.string (baS l),?_,by simp only[RV.at_]⟩
  have hc:=zrz p l w hp
  rw[z2d]at hc
  simp[execOp,hop,hv,hc],hK⟩
def strs(l:List ByteArray):RV:= .sl 1 l.length (l.map Str)
def catS(l:List ByteArray):List UInt8:=l.flatMap sB
def zeub(l:List ByteArray):Nat->St
 |0=>{F:=[(3, .r (.x (.slice none 0 0))),(6, .r (strs l)),(7, .r (I l.length)),(8, .r (I ((0:Nat):Int)))],O:=[],nx:=0}
 |i+1=>{F:=[(3, .own 0),(6, .r (strs l)),(7, .r (I l.length)),(8, .r (I ((i+1:Nat):Int)))],O:=[(0,some (.ch 5 1 (catS (l.take (i+1))).length ((catS (l.take (i+1))).map U8) true))],nx:=1}
theorem zsw{l:List ByteArray}{i:Nat}(hi:i<l.length):catS (l.take (i+1))=catS (l.take i)++sB l[i]:=by
 rw[List.take_add_one,List.getElem?_eq_getElem hi]
 show(l.take i++[l[i]]).flatMap sB=_
 rw[List.flatMap_append]
 simp only[catS,List.flatMap_cons,List.flatMap_nil,List.append_nil]
theorem z95{l:List ByteArray}{i:Nat}:(catS (l.take i)).length<=(catS l).length:=by
 have h:catS l=catS (l.take i)++catS (l.drop i):=by
  unfold catS
  rw[<-List.flatMap_append,List.take_append_drop]
 rw[h,aL]
 omega
theorem z3c(l:List ByteArray)(h0:l≠[])(hl:(catS l).length<=10000000000)(hn:l.length<=1000000000):aG 191 [strs l] (bch (catS l)):=by
 refine aT Tryz.func191 rfl ?_
 refine Vloop.mk' (zeub l) (λi=>i<=l.length) (λi=>l.length-i) 0 (by omega) (zac [] rfl ⟨cr,cr,cr,cr,trivial⟩ trivial) ?_
 intro i hi
 have hpos:0<l.length:=by cases l;exact absurd rfl h0;simp
 have hle:= @z95 l (i+1)
 rcases i with _ |i
 ·refine zu (decide_eq_true (by omega)) (zq ?_)
  refine zm (by omega) (by omega) (zan (j:=0) rfl hpos) (zg rfl ?_)
  have hs:=zsw hpos
  rw[hs]at hle
  simp only[aL,sB,Array.length_toList]at hle
  refine Vstep.appS (s:=l[0]) Tab_ok rfl rfl rfl rfl ⟨rfl,rfl⟩ rfl rfl rfl rfl rfl (by show 0+l[0].data.size<=_;omega) ?_
  refine zd (m:=((0+1:Nat):Int)) rfl (by decide) ?_
  refine⟨0+1,by omega,by omega,zac [(0,0)] rfl ⟨rfl,cr,cr,cr,trivial⟩ ⟨⟨rfl,rfl,?_,rfl,Cvs.of_eq ?_⟩,trivial⟩⟩
  ·rw[hs];simp[catS,sB]
  ·rw[hs];rfl
 ·refine zh (λh=>zq ?_) (λh=>zt ?_)
  ·simp only[zb]at h
   have hlt:i+1<l.length:=by omega
   refine zm (by omega) (by omega) (zan (j:=i+1) rfl hlt) (zg rfl ?_)
   have hs:=zsw hlt
   rw[hs]at hle
   simp only[aL,sB,Array.length_toList]at hle
   refine Vstep.appS (s:=l[i+1]) Tab_ok rfl rfl rfl rfl ⟨rfl,rfl⟩ rfl rfl rfl rfl rfl (by show _+l[i+1].data.size<=_;omega) ?_
   refine zd (m:=((i+1+1:Nat):Int)) (by omega) (by omega) ?_
   refine⟨i+1+1,by omega,by omega,zac [(0,1)] rfl ⟨rfl,cr,cr,cr,trivial⟩ ⟨⟨rfl,rfl,?_,rfl,Cvs.of_eq ?_⟩,trivial⟩⟩
   ·rw[hs,aL];rfl
   ·rw[hs,List.map_append]
  ·simp only[zb]at h
   have hl':i+1=l.length:=by omega
   exact zf0 (by rw[hl',List.take_length])
def verB:List UInt8:=[72,80,75,69,45,118,49]
def extB(name salt label secret:List UInt8):List UInt8:=macB salt (verB++name++label++secret)
def epdB(name secret label info:List UInt8)(n:Nat):List UInt8:=exp1 secret (beB 2 n++verB++name++label++info) n
theorem z04(salt secret:List UInt8)(h1:salt.length<=1000000000)(h2:secret.length<=10000000000):aG 192 [bs salt,bs secret] (bch (macB salt secret)):=by
 refine aT Tryz.func192 rfl ?_
 refine zy ?_
 refine ze (z9f salt [secret] h1 (by simp;omega)) ?_
 exact zf0 (by simp)
theorem z02(name label:ByteArray)(salt secret:List UInt8)(h1:salt.length<=1000000000)(h2:secret.length<=1000000000)(h3:name.size<=1000)(h4:label.size<=1000):
  aG 142 [Str name,bs salt,Str label,bs secret] (bch (extB (sB name) salt (sB label) secret)):=by
 refine aT Tryz.func142 rfl ?_
 have e:catS [⟨#[72,80,75,69,45,118,49]⟩,name,label,baS secret]=verB++sB name++sB label++secret:=by simp[catS,verB,baS];rfl
 have hl:(catS [⟨#[72,80,75,69,45,118,49]⟩,name,label,baS secret]).length<=10000000000:=by
  rw[e];simp only[aL,sB,Array.length_toList];show 7+name.size+label.size+_<=_;omega
 refine Vfun.str rfl rfl (zy ?_)
 refine ze (z3c [⟨#[72,80,75,69,45,118,49]⟩,name,label,baS secret] (by simp) hl (by simp)) ?_
 refine ze (z04 salt _ h1 (by omega)) ?_
 exact zf0 (by rw[e];rfl)
theorem z3b(name label:ByteArray)(secret info:List UInt8)(n:Nat)(hn:1<=n/\n<=32)(h1:secret.length<=1000000000)(h2:info.length<=1000000)(h3:name.size<=1000)(h4:label.size<=1000):
  aG 141 [Str name,bs secret,Str label,bs info,I n] (.r (bs (epdB (sB name) secret (sB label) info n))):=by
 refine aT Tryz.func141 rfl ?_
 have e:catS [baS ([]++beB 2 n),⟨#[72,80,75,69,45,118,49]⟩,name,label,baS info]=beB 2 n++verB++sB name++sB label++info:=by simp[catS,verB,baS];rfl
 have hb:(beB 2 n).length=2:=za9 2 n
 have hl:(catS [baS ([]++beB 2 n),⟨#[72,80,75,69,45,118,49]⟩,name,label,baS info]).length<=1000000000:=by
  rw[e];simp only[aL,sB,Array.length_toList,hb];show 2+7+name.size+label.size+_<=_;omega
 refine Vint.u64 n rfl (by omega) ?_
 refine Vcall.mk' (zgm [] 2 n (by simp) (.inr (.inl rfl))) (zk (Cv.nil _) (zn _)) ?_
 refine Vfun.str rfl rfl ?_
 refine Vfun.str rfl rfl (zy ?_)
 refine ze (z3c [baS ([]++beB 2 n),⟨#[72,80,75,69,45,118,49]⟩,name,label,baS info] (by simp) (by omega) (by simp)) ?_
 refine ze (z3d secret _ n hn h1 hl) ?_
 rw[e]
 exact cr
section
abbrev z5:Fe:=⟨0,0,0,0,0⟩
structure Lad where
 px:Fe
 pz:Fe
 qx:Fe
 qz:Fe
def Lad.next(b:Bool)(u:Fe)(s:Lad):Lad:=
 match b with
 |true=>⟨(zdb s.qx s.qz s.px s.pz u).2.1,(zdb s.qx s.qz s.px s.pz u).2.2,(zdb s.qx s.qz s.px s.pz u).1.1,(zdb s.qx s.qz s.px s.pz u).1.2⟩
 |false=>⟨(zdb s.px s.pz s.qx s.qz u).1.1,(zdb s.px s.pz s.qx s.qz u).1.2,(zdb s.px s.pz s.qx s.qz u).2.1,(zdb s.px s.pz s.qx s.qz u).2.2⟩
def ladN(k:List UInt8)(u:Fe):Nat->Lad
 |0=>⟨one,z5,u,one⟩
 |j+1=>(ladN k u j).next (bitE k (254-j)==1) u
theorem z4m(k:List UInt8)(u:Fe):ladN k u 0=⟨one,z5,u,one⟩:=rfl
theorem zti(k:List UInt8)(u:Fe)(j:Nat):ladN k u (j+1)=(ladN k u j).next (bitE k (254-j)==1) u:=rfl
attribute [irreducible] ladN
def zn8(k:List UInt8)(u:Fe):List UInt8:=((ladN k u 255).px.mul (ladN k u 255).pz.inv).bytes
abbrev pbx(x z:Fe):Ow:= .box [.r (W x.a), .r (W x.b), .r (W x.c), .r (W x.d), .r (W x.e), .r (W z.a), .r (W z.b), .r (W z.c), .r (W z.d), .r (W z.e)]
def ladI(k:List UInt8)(u:Fe)(j:Nat):St:={F:=[(0, .r (bs k)),(3, .own 0),(5, .own 1),(6, .own 2),(7, .r (I ((254-j:Nat):Int)))],O:=[(0,some u.bx),(1,some (pbx (ladN k u j).px (ladN k u j).pz)),(2,some (pbx (ladN k u j).qx (ladN k u j).qz))],nx:=3}
theorem zw4(k:List UInt8)(u:Fe){b:Bool}(h:ladN k u (254+1)=(ladN k u 254).next b u){e:TypeId}:some (Ow.ch e 1 (((((ladN k u 254).next b u).px).mul (((ladN k u 254).next b u).pz).inv).bytes).length ((((((ladN k u 254).next b u).px).mul (((ladN k u 254).next b u).pz).inv).bytes).map U8) true)=some (Ow.ch e 1 (zn8 k u).length ((zn8 k u).map U8) true):=by
 rw[<-h]
 rfl
set_option maxHeartbeats 4000000 in
theorem z33(k:List UInt8)(u:Fe)(hk:k.length=32):aG 261 [bs k, .ag u.v] (bch (zn8 k u)):=by
 refine aT Tryz.func261 rfl ?_
 refine Vcode.scope mixed Tab_ok 0 (ladI k u) (λj=>j<=254) (λj=>254-j) rfl ?_ ?_
 ·refine aV ?_
  refine ze zk7 ?_
  refine za rfl rfl ?_
  refine ze zk7 ?_
  repeat' ((conv=>whnf);first|refine za rfl rfl ?_)
  refine Vquo.i64 254 8 rfl rfl (by omega) (by omega) ?_
  refine zm (by omega) (by omega) rfl (zg (f:=U8 (k.getD (254/8) 0)) (zny (by omega)) ?_)
  refine Vrem.nat 254 8 rfl rfl (by omega) ?_
  refine Vshr.b _ (254%8) rfl rfl (by omega) ?_
  refine Vbits.and8 _ 1 rfl rfl ?_
  have hs:=zti k u 0
  rw[z4m]at hs
  refine zh (λh=>zq ?_) (λh=>zt ?_)
  ·have hb:(bitE k (254-0)==1)=true:=by rw[beq_iff_eq];exact zns h
   rw[hb]at hs
   refine za rfl rfl ?_
   refine za rfl rfl ?_
   refine za rfl rfl ?_
   refine ze (zqr u one one z5 u) ?_
   refine zd (m:=253) rfl (by decide) ?_
   refine zu rfl (zq ?_)
   exact⟨1,by decide,zac [(0,0),(1,1),(2,2)] rfl ⟨cr,rfl,rfl,rfl,cr,trivial⟩ ⟨(aC (aA aZ)),by rw[hs];exact⟨_,_,rfl,cr,_,_,rfl,cr,_,_,rfl,cr,_,_,rfl,cr,_,_,rfl,cr,_,_,rfl,cr,_,_,rfl,cr,_,_,rfl,cr,_,_,rfl,cr,_,_,rfl,cr,rfl⟩,by rw[hs];exact⟨_,_,rfl,cr,_,_,rfl,cr,_,_,rfl,cr,_,_,rfl,cr,_,_,rfl,cr,_,_,rfl,cr,_,_,rfl,cr,_,_,rfl,cr,_,_,rfl,cr,_,_,rfl,cr,rfl⟩,trivial⟩⟩
  ·have hb:(bitE k (254-0)==1)=false:=by rw[beq_eq_false_iff_ne];exact zks h
   rw[hb]at hs
   refine za rfl rfl ?_
   refine za rfl rfl ?_
   refine za rfl rfl ?_
   refine ze (zqr one z5 u one u) ?_
   refine zd (m:=253) rfl (by decide) ?_
   refine zu rfl (zq ?_)
   exact⟨1,by decide,zac [(0,0),(1,1),(2,2)] rfl ⟨cr,rfl,rfl,rfl,cr,trivial⟩ ⟨(aC (aA aZ)),by rw[hs];exact⟨_,_,rfl,cr,_,_,rfl,cr,_,_,rfl,cr,_,_,rfl,cr,_,_,rfl,cr,_,_,rfl,cr,_,_,rfl,cr,_,_,rfl,cr,_,_,rfl,cr,_,_,rfl,cr,rfl⟩,by rw[hs];exact⟨_,_,rfl,cr,_,_,rfl,cr,_,_,rfl,cr,_,_,rfl,cr,_,_,rfl,cr,_,_,rfl,cr,_,_,rfl,cr,_,_,rfl,cr,_,_,rfl,cr,_,_,rfl,cr,rfl⟩,trivial⟩⟩
 ·intro J hj
  refine Vquo.i64 (254-J) 8 rfl rfl (by omega) (by omega) ?_
  refine zm (by omega) (by omega) rfl (zg (f:=U8 (k.getD ((254-J)/8) 0)) (zny (by omega)) ?_)
  refine Vrem.nat (254-J) 8 rfl rfl (by omega) ?_
  refine Vshr.b _ ((254-J)%8) rfl rfl (by omega) ?_
  refine Vbits.and8 _ 1 rfl rfl ?_
  have hs:=zti k u J
  refine zh (λh=>zq ?_) (λh=>zt ?_)
  ·have hb:(bitE k (254-J)==1)=true:=by rw[beq_iff_eq];exact zns h
   rw[hb]at hs
   refine za rfl rfl ?_
   refine za rfl rfl ?_
   refine za rfl rfl ?_
   refine ze (zqr (ladN k u J).qx (ladN k u J).qz (ladN k u J).px (ladN k u J).pz u) ?_
   refine zd (m:=((254-J:Nat):Int)-1) rfl (by omega) ?_
   refine zh (λh=>zq ?_) (λh=>zt ?_)
   ·simp only[zb]at h
    exact⟨J+1,by omega,by omega,zac [(0,0),(1,1),(2,2)] rfl ⟨cr,rfl,rfl,rfl,zf (by congr 1;omega),trivial⟩ ⟨(aC (aA aZ)),by rw[hs];exact⟨_,_,rfl,cr,_,_,rfl,cr,_,_,rfl,cr,_,_,rfl,cr,_,_,rfl,cr,_,_,rfl,cr,_,_,rfl,cr,_,_,rfl,cr,_,_,rfl,cr,_,_,rfl,cr,rfl⟩,by rw[hs];exact⟨_,_,rfl,cr,_,_,rfl,cr,_,_,rfl,cr,_,_,rfl,cr,_,_,rfl,cr,_,_,rfl,cr,_,_,rfl,cr,_,_,rfl,cr,_,_,rfl,cr,_,_,rfl,cr,rfl⟩,trivial⟩⟩
   ·simp only[zb]at h
    obtain rfl:J=254:=by omega
    refine aV ?_
    refine za rfl rfl ?_
    refine za rfl rfl ?_
    refine ze (zn0 (zdb (ladN k u 254).qx (ladN k u 254).qz (ladN k u 254).px (ladN k u 254).pz u).2.2) ?_
    refine ze (zbd (zdb (ladN k u 254).qx (ladN k u 254).qz (ladN k u 254).px (ladN k u 254).pz u).2.1 (zdb (ladN k u 254).qx (ladN k u 254).qz (ladN k u 254).px (ladN k u 254).pz u).2.2.inv) ?_
    refine ze (znz _) ?_
    exact zw4 k u hs
  ·have hb:(bitE k (254-J)==1)=false:=by rw[beq_eq_false_iff_ne];exact zks h
   rw[hb]at hs
   refine za rfl rfl ?_
   refine za rfl rfl ?_
   refine za rfl rfl ?_
   refine ze (zqr (ladN k u J).px (ladN k u J).pz (ladN k u J).qx (ladN k u J).qz u) ?_
   refine zd (m:=((254-J:Nat):Int)-1) rfl (by omega) ?_
   refine zh (λh=>zq ?_) (λh=>zt ?_)
   ·simp only[zb]at h
    exact⟨J+1,by omega,by omega,zac [(0,0),(1,1),(2,2)] rfl ⟨cr,rfl,rfl,rfl,zf (by congr 1;omega),trivial⟩ ⟨(aC (aA aZ)),by rw[hs];exact⟨_,_,rfl,cr,_,_,rfl,cr,_,_,rfl,cr,_,_,rfl,cr,_,_,rfl,cr,_,_,rfl,cr,_,_,rfl,cr,_,_,rfl,cr,_,_,rfl,cr,_,_,rfl,cr,rfl⟩,by rw[hs];exact⟨_,_,rfl,cr,_,_,rfl,cr,_,_,rfl,cr,_,_,rfl,cr,_,_,rfl,cr,_,_,rfl,cr,_,_,rfl,cr,_,_,rfl,cr,_,_,rfl,cr,_,_,rfl,cr,rfl⟩,trivial⟩⟩
   ·simp only[zb]at h
    obtain rfl:J=254:=by omega
    refine aV ?_
    refine za rfl rfl ?_
    refine za rfl rfl ?_
    refine ze (zn0 (zdb (ladN k u 254).px (ladN k u 254).pz (ladN k u 254).qx (ladN k u 254).qz u).1.2) ?_
    refine ze (zbd (zdb (ladN k u 254).px (ladN k u 254).pz (ladN k u 254).qx (ladN k u 254).qz u).1.1 (zdb (ladN k u 254).px (ladN k u 254).pz (ladN k u 254).qx (ladN k u 254).qz u).1.2.inv) ?_
    refine ze (znz _) ?_
    exact zw4 k u hs
attribute [irreducible] zn8
end
section
def z0s(k p:List UInt8):List UInt8:=zn8 (zil k) (Fe.of p)
def nine:List UInt8:=Fe.bytes ⟨9&&&msk,shrW 9 51,0,0,0⟩
def zmd(k:List UInt8):List UInt8:=z0s k nine
theorem z8a:nine.length=32:=Fe.bytes_len _
attribute [irreducible] nine
theorem zarb(k p:List UInt8)(hk:k.length=32)(hp:p.length=32):aG 193 [bs k,bs p] (.r (.tu [bs (z0s k p),Er 0])):=by
 refine aT Tryz.func193 rfl ?_
 refine zw (by simp[hk]) (zt ?_)
 refine zw (by simp[hp]) (zt ?_)
 refine ze (zaob k hk) ?_
 refine ze (h_of p hp) ?_
 refine ze (z33 (zil k) (Fe.of p) ((zp8 k).trans hk)) ?_
 exact⟨_,rfl,cr⟩
theorem zdgb(k:List UInt8)(hk:k.length=32):aG 143 [bs k] (.r (.tu [bs (zmd k),Er 0])):=by
 refine aT Tryz.func143 rfl ?_
 refine ze (zi7 9) ?_
 refine ze (znz ⟨9&&&msk,shrW 9 51,0,0,0⟩) ?_
 refine Vcall.mk' (zarb k nine hk z8a) (zk (cr) (zk (zf (by unfold nine;rfl)) Cvs.nil)) ?_
 exact⟨_,rfl,cr⟩
def kemB:List UInt8:=[75,69,77,0,32]
def zgc(seed:List UInt8):List UInt8:=epdB kemB (extB kemB [] [100,107,112,95,112,114,107] seed) [115,107] [] 32
theorem z6h(n s l i:List UInt8){m:Nat}(h:m<=32):(epdB n s l i m).length=m:=zve _ _ h
theorem z6j(n s l i:List UInt8):(extB n s l i).length=32:=zgp _ _
theorem z5d(seed:List UInt8):(zgc seed).length=32:=z6h _ _ _ _ (by omega)
theorem zavb(seed:List UInt8)(hs:seed.length<=1000000000):aG 100 [bs seed] (.r (.tu [bs (zgc seed),bs (zmd (zgc seed))])):=by
 refine aT Tryz.func100 rfl ?_
 have hx:(extB kemB [] [100,107,112,95,112,114,107] seed).length<=1000000000:=by rw[z6j];omega
 refine Vcall.mk' (z02 ⟨#[75,69,77,0,32]⟩ ⟨#[100,107,112,95,112,114,107]⟩ [] seed (by simp) hs (by decide) (by decide)) (zk (cr) (zk (Cv.nil 1) (zn _))) ?_
 refine Vcall.mk' (z3b ⟨#[75,69,77,0,32]⟩ ⟨#[115,107]⟩ (extB kemB [] [100,107,112,95,112,114,107] seed) [] 32 (by omega) hx (by simp) (by decide) (by decide)) (zk (cr) (zk (cr) (zk (cr) (zk (Cv.nil 1) (zn _))))) ?_
 refine ze (zdgb (zgc seed) (z5d seed)) ?_
 exact⟨_,rfl,cr⟩
def zfmb:List UInt8:=[112,97,116,104]
end
section
def wayS:List UInt8:=[119,97,121]
def secN(seed:List UInt8):Nat->List UInt8
 |0=>labB seed wayS [] 32
 |k+1=>labB (secN seed k) zfmb [] 32
attribute [irreducible] secN
end
structure KeyP where
 at_:Int
 key:List UInt8
 deriving DecidableEq
abbrev KeyP.c(k:KeyP):List RV:=[I k.at_,bs k.key]
def keyR(l:List KeyP):RV:= .sl 2 l.length (l.flatMap KeyP.c)
structure Wld where
 t:List Node
 keys:List (List KeyP)
 sign:List (List UInt8)
 n:Nat
abbrev wBx(t:List Node)(n:Int):Ow:= .box [.r (nods t), .own 1, .own 2, .r (I n)]
abbrev wK(keys:List (List KeyP)):Ow:= .ch 110 1 keys.length (keys.map keyR) false
abbrev wG(sign:List (List UInt8)):Ow:= .ch 25 1 sign.length (sign.map bs) false
abbrev wO(w:Wld):List (Nat×Ow):=[(0,wBx w.t w.n),(1,wK w.keys),(2,wG w.sign)]
theorem zdy{ρ:List (Nat×Nat)}{S:St}{t:List Node}{n:Int}{i j:Nat}(h1:zax ρ 1=some i)(h2:zax ρ 2=some j):cvOw ρ S (.box [.r (nods t), .own i, .own j, .r (I n)]) (wBx t n):=
 ⟨_,_,rfl,cr,_,_,rfl,by show(match zax ρ 1,TF.own i with |some j, .own i=>i=j |_,_=>False);rw[h1],_,_,rfl,by show(match zax ρ 2,TF.own j with |some j, .own i=>i=j |_,_=>False);rw[h2],_,_,rfl,cr,rfl⟩
theorem zg0(w:Wld):zru (wO w):=⟨zpz,zog,zog,trivial⟩
def zcf(n:Nat):List UInt8:=((List.replicate 32 (0:UInt8)).set 0 (UInt8.ofNat n)).set 1 (UInt8.ofNat (n/256))
theorem zjf(n:Nat):(zcf n).length=32:=by simp[zcf]
theorem zdqb(n:Nat)(hn:n<=1000000000):aG 99 [I n] (bch (zcf n)):=by
 refine za1 (T:=Tab) mixed Tab_ok Tryz.func99 rfl (by kernel_rfl) ?_
 refine⟨rfl,by decide,by decide,by decide,_,_,rfl,zs32,Vpub.own ?_⟩
 refine Vint.u8 n rfl ?_
 refine Vquo.i64 n 256 rfl rfl (by omega) (by omega) ?_
 refine Vint.u8 (n/256) rfl ?_
 refine Vadr.mk' 0 rfl (by decide) ?_
 refine⟨by decide,((List.replicate 32 (0:UInt8)).set 0 (UInt8.ofNat n)).map U8,zb9 (by decide),?_⟩
 refine Vadr.mk' 1 rfl (by decide) ?_
 refine⟨by rw[List.length_map,List.length_set];decide,(zcf n).map U8,zb9 (by rw[List.length_set];decide),?_⟩
 refine⟨_,za7 (id:=0) rfl,?_⟩
 exact congrArg (λm=>some (Ow.ch 5 1 m ((zcf n).map U8) true)) (zjf n).symm
theorem zzq(v:Value)(w:Wld)(hn:w.n<=100000000):Acts aP 58 3 (wO w) [.own 0] [(0,v)] 3 (wO {w with n:=w.n+1}) (.r (bs (zcf (w.n+1)))):=by
 refine zb6 (T:=Tab) mixed Tab_ok Tryz.func58 rfl (by kernel_rfl) rfl ⟨⟨_,_,rfl,rfl,zbw,zbw⟩,trivial⟩ ?_
 refine zd (m:=((w.n+1:Nat):Int)) (by omega) (by omega) ?_
 refine ze (zdqb (w.n+1) (by omega)) ?_
 exact zfc (.inl rfl) [(0,0),(1,1),(2,2)] [(2, .r (bs (zcf (w.n+1))))] [] rfl ⟨cr,⟨rfl,rfl⟩,trivial⟩ ⟨zdy rfl rfl,⟨rfl,rfl,rfl,rfl,zn _⟩,⟨rfl,rfl,rfl,rfl,zn _⟩,trivial⟩ ⟨⟨1000000,rfl⟩,trivial⟩ (cr)
theorem zky(k:List UInt8):(zmd k).length=32:=by unfold zmd z0s zn8;exact Fe.bytes_len _
def zcr(sig:List UInt8)(src ident:UInt8)(n:Nat):Leaf:=⟨zmd (zgc (zcf (n+1))),pubS sig,[ident],src,[],[]⟩
theorem zuj(sig:List UInt8)(src ident:UInt8)(n:Nat)(hs:src.toNat=1\/src.toNat=2):((zcr sig src ident n).with zS64).right=true:=by
 have h1:=zky (zgc (zcf (n+1)))
 have h2:=zll sig
 simp only[Leaf.right,Leaf.with,zcr,h1,h2]
 simp[zS64]
 omega
set_option maxHeartbeats 1000000 in
theorem z66(v:Value)(w:Wld)(sig group:List UInt8)(src ident:UInt8)(at_:Int)(hn:w.n<=100000000)(hsig:sig.length=32)(hg:group.length<=1000000)(hs:src.toNat=1\/src.toNat=2)(ha:0<=at_/\at_<65536):
  Acts aP 59 3 (wO w) [.own 0, .r (bs sig), .r (bs group), .r (U8 src), .r (U8 ident), .r (I at_)] [(0,v)] 4 (wO {w with n:=w.n+1}) (.r (.tu [.ag (slOk (zcr sig src ident w.n) sig group at_).c,bs (zgc (zcf (w.n+1))), .b true])):=by
 refine zb6 (T:=Tab) mixed Tab_ok Tryz.func59 rfl (by kernel_rfl) rfl ⟨⟨_,_,rfl,rfl,zbw,zbw⟩,trivial⟩ ?_
 refine zj [(0,0),(1,1),(2,2)] [0] (λvs _=>zzq (vs 0) w hn) (zi rfl ⟨_,_,rfl,rfl,rfl⟩) rfl ⟨zdy rfl rfl,⟨rfl,rfl,rfl,rfl,zn _⟩,⟨rfl,rfl,rfl,rfl,zn _⟩,trivial⟩ (zg0 _) ?_
 have hb:=zky (zgc (zcf (w.n+1)))
 have hp:=zll sig
 refine ze (zavb (zcf (w.n+1)) (by rw[zjf];omega)) ?_
 refine ze (zte sig hsig) ?_
 refine zy ?_
 have hL:=z1m (zcr sig src ident w.n) sig group at_ ⟨by simp only[zcr];omega,by simp only[zcr];omega,by simp[zcr],by simp[zcr],by simp[zcr]⟩ (by omega) (by simp only[zcr,List.length_cons,List.length_nil];omega) (by unfold i64;omega)
 have hE:zhd (zcr sig src ident w.n) sig at_=0:=by
  unfold zhd
  rw[if_pos (zuj sig src ident w.n hs),if_pos,if_pos hsig]
  simp[ze0,zcr]
  omega
 rw[zoc,if_pos hE]at hL
 refine Vcall.mk' hL (zk (Cv.ag (zk (cr) (zk (cr) (zk (cr) (zk (cr) (zk (Cv.nil 1) (zk (Cv.nil 1) Cvs.nil))))))) (zn _)) ?_
 generalize slOk (zcr sig src ident w.n) sig group at_=q
 refine za rfl rfl ?_
 refine zd (m:=0) rfl (by decide) ?_
 refine zd (m:=0) rfl (by decide) ?_
 refine zd (m:=0) rfl (by decide) ?_
 refine zu rfl ?_
 exact zfc (.inl rfl) [(0,0),(1,5),(2,6),(3,3)] [(12, .own 3),(13, .r (bs (zgc (zcf (w.n+1))))),(14, .r (.b true))] [(3,some (.box (q.c.map .r)))] rfl ⟨rfl,cr,cr,⟨rfl,rfl⟩,trivial⟩ ⟨zdy rfl rfl,⟨rfl,rfl,rfl,rfl,zn _⟩,⟨rfl,rfl,rfl,rfl,zn _⟩,(aC (aB aZ)),trivial⟩ ⟨⟨1000000,rfl⟩,trivial⟩ (za rfl rfl ⟨_,rfl,cr⟩)
def padL{α:Type}(z:α)(l:List α)(n:Nat):List α:=l++List.replicate (n-l.length) z
def Wld.put(w:Wld)(at_:Nat)(keys:List KeyP)(sig:List UInt8):Wld:={w with keys:=(padL [] w.keys (at_+1)).set at_ keys,sign:=(padL [] w.sign (at_+1)).set at_ sig}
theorem zxm{α:Type}(l:List α)(z:α)(j:Nat):l++List.replicate (j+1) z=(l++List.replicate j z)++[z]:=by rw[List.replicate_succ',List.append_assoc]
abbrev putS(w:Wld)(v:Value)(at_:Nat)(keys:List KeyP)(sig:List UInt8)(j:Nat):St:=⟨[(0, .own 0),(1, .r (I at_)),(2, .r (keyR keys)),(3, .r (bs sig)),(1000000, .nm 0 v)],lift (wO {w with keys:=w.keys++List.replicate j [],sign:=w.sign++List.replicate j []}),3⟩
set_option maxHeartbeats 1000000 in
theorem zfjb(v:Value)(w:Wld)(at_:Nat)(keys:List KeyP)(sig:List UInt8)(hl:w.keys.length=w.sign.length)(hk:w.keys.length<=1000000)(ha:at_<=1000000):
  Acts aP 61 3 (wO w) [.own 0, .r (I at_), .r (keyR keys), .r (bs sig)] [(0,v)] 3 (wO (w.put at_ keys sig)) (.r (.tu [])):=by
 refine zb6 (T:=Tab) mixed Tab_ok Tryz.func61 rfl (by kernel_rfl) rfl ⟨⟨_,_,rfl,rfl,zbw,zbw⟩,trivial⟩ ?_
 refine Vloop.mk' (putS w v at_ keys sig) (λj=>j<=at_+1-w.keys.length) (λj=>at_+1-w.keys.length-j) 0 (by omega) (zac [(0,0),(1,1),(2,2)] rfl ⟨rfl,cr,cr,cr,⟨rfl,rfl⟩,trivial⟩ ⟨zdy rfl rfl,⟨rfl,rfl,by simp,rfl,Cvs.of_eq (by simp)⟩,⟨rfl,rfl,by simp,rfl,Cvs.of_eq (by simp)⟩,trivial⟩) ?_
 intro j hj
 have e1:(w.keys++List.replicate j ([]:List KeyP)).length=w.keys.length+j:=by simp
 have e2:(w.sign++List.replicate j ([]:List UInt8)).length=w.sign.length+j:=by simp
 refine zh (λh=>zq ?_) (λh=>zt ?_)
 ·simp only[zb]at h
  refine zy ?_
  refine Vapp.mk' (j:=w.keys.length+j+1) (zs:=(w.keys++List.replicate j ([]:List KeyP)).map keyR++[.x (.slice none 0 0)]) (by simp only[maxLen];omega) (by show((w.keys++List.replicate j ([]:List KeyP)).length+1)*24<=_;omega) (by rw[e1]) rfl ?_
  refine zy ?_
  refine Vapp.mk' (j:=w.sign.length+j+1) (zs:=(w.sign++List.replicate j ([]:List UInt8)).map bs++[.x (.slice none 0 0)]) (by simp only[maxLen];omega) (by show((w.sign++List.replicate j ([]:List UInt8)).length+1)*24<=_;omega) (by rw[e2]) rfl ?_
  refine⟨j+1,by omega,by omega,zac [(0,0),(1,4),(2,6)] rfl ⟨rfl,cr,cr,cr,⟨rfl,rfl⟩,trivial⟩ ⟨zdy rfl rfl,⟨rfl,rfl,by simp;omega,rfl,?_⟩,⟨rfl,rfl,by simp;omega,rfl,?_⟩,trivial⟩⟩
  ·have e:(w.keys++List.replicate (j+1) ([]:List KeyP)).map keyR=(w.keys++List.replicate j []).map keyR++[keyR []]:=by rw[zxm,List.map_append];rfl
   show Cvs _ ((w.keys++List.replicate (j+1) ([]:List KeyP)).map keyR)
   rw[e]
   exact Cvs.app (zn _) (zk (Cv.nil 2) Cvs.nil)
  ·have e:(w.sign++List.replicate (j+1) ([]:List UInt8)).map bs=(w.sign++List.replicate j []).map bs++[bs []]:=by rw[zxm,List.map_append];rfl
   show Cvs _ ((w.sign++List.replicate (j+1) ([]:List UInt8)).map bs)
   rw[e]
   exact Cvs.app (zn _) (zk (Cv.nil 1) Cvs.nil)
 ·simp only[zb]at h
  have hj2:j=at_+1-w.keys.length:=by omega
  have hp1:w.keys++List.replicate j []=padL [] w.keys (at_+1):=by unfold padL;rw[hj2]
  have hp2:w.sign++List.replicate j []=padL [] w.sign (at_+1):=by unfold padL;rw[hj2,hl]
  refine aV ?_
  refine Vadr.mk' at_ rfl (by show at_< (w.keys++List.replicate j ([]:List KeyP)).length;rw[e1];omega) ?_
  refine⟨by show at_*1+1<=((w.keys++List.replicate j ([]:List KeyP)).map keyR).length;rw[List.length_map,e1];omega,((w.keys++List.replicate j []).set at_ keys).map keyR,by rw[Nat.mul_one];exact zb9 (by rw[e1];omega),?_⟩
  refine Vadr.mk' at_ rfl (by show at_< (w.sign++List.replicate j ([]:List UInt8)).length;rw[e2];omega) ?_
  refine⟨by show at_*1+1<=((w.sign++List.replicate j ([]:List UInt8)).map bs).length;rw[List.length_map,e2];omega,((w.sign++List.replicate j []).set at_ sig).map bs,by rw[Nat.mul_one];exact zb9 (by rw[e2];omega),?_⟩
  have hO:wO (w.put at_ keys sig)=[(0,wBx w.t w.n),(1,wK ((w.keys++List.replicate j []).set at_ keys)),(2,wG ((w.sign++List.replicate j []).set at_ sig))]:=by rw[hp1,hp2];rfl
  rw[hO]
  exact zfc (.inr rfl) [(0,0),(1,1),(2,2)] [] [] rfl ⟨⟨rfl,rfl⟩,trivial⟩ ⟨zdy rfl rfl,⟨rfl,rfl,by simp,rfl,zn _⟩,⟨rfl,rfl,by simp,rfl,zn _⟩,trivial⟩ ⟨⟨1000000,rfl⟩,trivial⟩ ⟨_,rfl,cr⟩
abbrev At(b off:Nat):RV:= .x (.pointer (some ⟨b,off,none⟩))
theorem zkg:Tryz.prog.underlying 99=some (.map 9 3):=by kernel_rfl
theorem zrk:Tryz.prog.underlying 9=some .string:=by kernel_rfl
theorem z58:(Tryz.prog.info? 3).bind (·.zero)=some (.int .i64 0):=by kernel_rfl
theorem zq6(n:List UInt8): ∀(w:World) (k:Kp) (v:Value),(ofC (qS n)).at_ w k v->v=qS n:=λw k v h=>by simpa[ofC,RV.at_]using h
abbrev az1(lf:Leaf)(i:Bool):St:=⟨[(0, .r (nods [L1 lf])),(3, .own 2),(4, .r (cond i (I 1) (I 0))),(10, .r (nods [L1 lf])),(11, .r (I 1)),(12, .r (cond i (I 1) (I 0)))],[(0,some (.gen (mapG qS (cond i [(lf.ident,I 1)] [])))),(1,some (.gen (mapG qS (cond i [(lf.sign,I 1)] [])))),(2,some (.box [.own 0, .own 1]))],3⟩
abbrev azF(lf:Leaf)(b1 b2:Nat):List (Nat×TF):=[(0, .r (nods [L1 lf])),(3, .own 2),(4, .r (I 0)),(10, .r (nods [L1 lf])),(11, .r (I 1)),(12, .r (I 0)),(1000001, .nm 0 (.map (some b1))),(1000002, .nm 1 (.map (some b2)))]
abbrev azG:List (Nat×Option Ow):=[(0,some (.gen (mapG (α:=List UInt8) qS []))),(1,some (.gen (mapG (α:=List UInt8) qS [])))]
abbrev azS(lf:Leaf)(b1 b2:Nat):St:=⟨azF lf b1 b2,azG++[(2,some (.box [.r (.x (.map (some b1))), .r (.x (.map (some b2)))]))],3⟩
theorem zfdb(lf:Leaf)(b1 b2:Nat):Sub (azS lf b1 b2) (az1 lf false):=
 (zhf (S:=azS lf b1 b2) (j:=2) (i:=0) (id:=0) (gh:=1000001) (cells:=[.r (.x (.map (some b1))), .r (.x (.map (some b2)))]) rfl rfl rfl rfl).trans
  ((zhf (S:=⟨azF lf b1 b2,(2,some (.box [.own 0, .r (.x (.map (some b2)))]))::(azS lf b1 b2).O,3⟩) (j:=2) (i:=1) (id:=1) (gh:=1000002) (cells:=[.own 0, .r (.x (.map (some b2)))]) rfl rfl rfl rfl).trans
  (zac (S:=⟨azF lf b1 b2,(2,some (.box [.own 0, .own 1]))::(2,some (.box [.own 0, .r (.x (.map (some b2)))]))::(azS lf b1 b2).O,3⟩) [(0,0),(1,1),(2,2)] rfl ⟨cr,rfl,cr,cr,cr,cr,trivial⟩ ⟨λ_ _ _ hh=>hh,λ_ _ _ hh=>hh,⟨_,_,rfl,rfl,_,_,rfl,rfl,rfl⟩,trivial⟩))
set_option maxHeartbeats 1000000 in
theorem z61(lf:Leaf):aG 20 [nods [L1 lf]] (.r (.b true)):=by
 refine aT Tryz.func20 rfl ?_
 refine Vcode.run Tab_ok ?_
 refine Vstep.mapGMkN qS 1000001 rfl λb1=>?_
 refine Vstep.mapGMkN qS 1000002 rfl λb2=>?_
 refine Vloop.mk' (az1 lf) (λ_=>True) (λi=>cond i 0 1) false trivial (Sub.trans (zac (S':=azS lf b1 b2) [(0,0),(1,1),(2,2)] rfl ⟨cr,rfl,cr,cr,cr,cr,⟨rfl,rfl⟩,⟨rfl,rfl⟩,trivial⟩ ⟨λ_ _ _ hh=>hh,λ_ _ _ hh=>hh,(aB aZ),trivial⟩) (zfdb lf b1 b2)) ?_
 rintro(_ |_) _
 ·refine zu rfl (zq ?_)
  refine zm i00 i01 (idx0 lf) ?_
  refine za rfl rfl ?_
  refine zw rfl (zt ?_)
  refine zd (m:=1) rfl (by decide) ?_
  refine Vadr.mk' 0 rfl (by decide) ?_
  refine Vfun.str rfl rfl ?_
  refine Vstep.lookG (q:=qS) (n:=lf.ident) (I 0) rfl rfl rfl rfl rfl (zq6 _) zkg (zes zrk) z58 (λ_ _=>by simp[RV.at_]) ?_
  refine zd (m:=1) rfl (by decide) ?_
  refine Vstep.putG (q:=qS) (n:=lf.ident) rfl rfl rfl rfl rfl (zq6 _) rfl rfl zkg (zes zrk) ?_
  refine Vadr.mk' 1 rfl (by decide) ?_
  refine Vfun.str rfl rfl ?_
  refine Vstep.lookG (q:=qS) (n:=lf.sign) (I 0) rfl rfl rfl rfl rfl (zq6 _) zkg (zes zrk) z58 (λ_ _=>by simp[RV.at_]) ?_
  refine zd (m:=1) rfl (by decide) ?_
  refine Vstep.putG (q:=qS) (n:=lf.sign) rfl rfl rfl rfl rfl (zq6 _) rfl rfl zkg (zes zrk) ?_
  refine zd (m:=1) rfl (by decide) ?_
  exact⟨true,trivial,by decide,zac [(0,0),(1,1),(2,2)] rfl ⟨cr,rfl,cr,cr,cr,cr,trivial⟩ ⟨λ_ _ _ hh=>hh,λ_ _ _ hh=>hh,⟨_,_,rfl,rfl,_,_,rfl,rfl,rfl⟩,trivial⟩⟩
 ·refine zw rfl (zt ?_)
  refine Vadr.mk' 0 rfl (by decide) ?_
  refine⟨⟨_,_,zkg⟩,?_⟩
  refine zu rfl ?_
  refine Vadr.mk' 1 rfl (by decide) ?_
  refine⟨⟨_,_,zkg⟩,?_⟩
  refine zu rfl ?_
  exact cr
def iget:List (List UInt8×Int)->List UInt8->Int
 |[],_=>0
 |(m,c)::l,n=>if m=n then c else iget l n
def iput:List (List UInt8×Int)->List UInt8->Int->List (List UInt8×Int)
 |[],n,c=>[(n,c)]
 |(m,d)::l,n,c=>if m=n then(m,c)::l else(m,d)::iput l n c
abbrev embI(e:List (List UInt8×Int)):List (List UInt8×RV):=e.map λp=>(p.1,I p.2)
theorem zo0: ∀(e:List (List UInt8×Int)) (n:List UInt8),(aget (embI e) n).getD (I 0)=I (iget e n)
 |[],n=>rfl
 |(m,c)::l,n=>by
  simp only[embI,List.map_cons,aget,iget]
  by_cases h:m=n
  ·simp[h]
  ·rw[if_neg h,if_neg h];exact zo0 l n
theorem zo2: ∀(e:List (List UInt8×Int)) (n:List UInt8) (c:Int),aput (embI e) n (I c)=embI (iput e n c)
 |[],n,c=>rfl
 |(m,d)::l,n,c=>by
  simp only[embI,List.map_cons,aput,iput]
  by_cases h:m=n
  ·simp[h]
  ·rw[if_neg h,if_neg h,List.map_cons];exact congrArg _ (zo2 l n c)
theorem zwb: ∀(e:List (List UInt8×Int)) (n:List UInt8) (c:Int),(iput e n c).length=if n∈e.map (·.1)then e.length else e.length+1
 |[],n,c=>by simp[iput]
 |(m,d)::l,n,c=>by
  simp only[iput]
  by_cases h:m=n
  ·simp[h]
  ·rw[if_neg h,List.length_cons,zwb l n c]
   simp only[List.map_cons,List.mem_cons,List.length_cons]
   have h': ¬n=m:=λe=>h e.symm
   simp only[h',false_or]
   split<;>rfl
theorem zwc: ∀(e:List (List UInt8×Int)) (n:List UInt8) (c:Int) (x:List UInt8),x∈(iput e n c).map (·.1)↔x=n\/x∈e.map (·.1)
 |[],n,c,x=>by simp[iput]
 |(m,d)::l,n,c,x=>by
  simp only[iput]
  by_cases h:m=n
  ·subst h;simp
  ·rw[if_neg h]
   simp only[List.map_cons,List.mem_cons,zwc l n c x]
   constructor
   ·rintro(h1 |h1 |h1)<;>simp[h1]
   ·rintro(h1 |h1 |h1)<;>simp[h1]
theorem zn1{N:Int}: ∀(e:List (List UInt8×Int)) (n:List UInt8),(∀p∈e,0<=p.2/\p.2<=N)->0<=N->0<=iget e n/\iget e n<=N
 |[],n,_,h0=>by simp[iget];exact h0
 |(m,c)::l,n,h,h0=>by
  simp only[iget]
  split
  ·exact h _ List.mem_cons_self
  ·exact zn1 l n (λp hp=>h p (List.mem_cons_of_mem _ hp)) h0
theorem zzt{N:Int}: ∀(e:List (List UInt8×Int)) (n:List UInt8) (c:Int),(∀p∈e,0<=p.2/\p.2<=N)->0<=c/\c<=N->∀p∈iput e n c,0<=p.2/\p.2<=N
 |[],n,c,_,hc=>by simpa[iput]using hc
 |(m,d)::l,n,c,h,hc=>by
  simp only[iput]
  split
  ·intro p hp
   rcases List.mem_cons.1 hp with rfl |hp
   ·exact hc
   ·exact h p (List.mem_cons_of_mem _ hp)
  ·intro p hp
   rcases List.mem_cons.1 hp with rfl |hp
   ·exact h _ List.mem_cons_self
   ·exact zzt l n c (λq hq=>h q (List.mem_cons_of_mem _ hq)) hc p hp
def cntS(l:List (List UInt8)):List (List UInt8×Int):=l.foldl (λe x=>iput e x (iget e x+1)) []
theorem zhi(l:List (List UInt8))(x:List UInt8):cntS (l++[x])=iput (cntS l) x (iget (cntS l) x+1):=by simp[cntS]
theorem zlt{α:Type}{p:List α->Prop}(h0:p [])(hs: ∀l x,p l->p (l++[x]))(l:List α):p l:=by
 have: ∀l:List α,p l.reverse:=λl=>by
  induction l with
  |nil=>exact h0
  |cons x l ih=>rw[List.reverse_cons];exact hs _ _ ih
 have:=this l.reverse
 rwa[List.reverse_reverse]at this
theorem z6e(l:List (List UInt8)): ∀x,x∈(cntS l).map (·.1)↔x∈l:=by
 refine zlt (p:=λl=>∀x,x∈(cntS l).map (·.1)↔x∈l) (by simp[cntS]) (λl y ih x=>?_) l
 rw[zhi,zwc,ih,List.mem_append,List.mem_singleton]
 exact Or.comm
theorem zzc(l:List (List UInt8)): ∀p∈cntS l,0<=p.2/\p.2<=(l.length:Int):=by
 refine zlt (p:=λl=>∀p∈cntS l,0<=p.2/\p.2<=(l.length:Int)) (by simp[cntS]) (λl y ih=>?_) l
 rw[zhi]
 have h:=zn1 (cntS l) y ih (by omega)
 refine zzt _ _ _ (λp hp=>?_) ?_
 ·have:=ih p hp
  simp only[aL,List.length_cons,List.length_nil]
  omega
 ·simp only[aL,List.length_cons,List.length_nil]
  omega
theorem zu7(l:List (List UInt8)):(cntS l).length<=l.length/\((cntS l).length=l.length↔l.Nodup):=by
 refine zlt (p:=λl=>(cntS l).length<=l.length/\((cntS l).length=l.length↔l.Nodup)) (by simp[cntS]) (λl x ih=>?_) l
 rw[zhi,zwb,List.nodup_append]
 have hm:=z6e l x
 obtain⟨h1,h2⟩:=ih
 simp only[aL,List.length_cons,List.length_nil]
 split
 ·rename_i h
  refine⟨by omega,?_⟩
  constructor
  ·intro e;omega
  ·rintro⟨_,_,h3⟩
   exact absurd rfl (h3 x (hm.1 h) x (by simp))
 ·rename_i h
  refine⟨by omega,?_⟩
  constructor
  ·intro e
   refine⟨h2.1 (by omega),by simp,λa ha b hb=>?_⟩
   rw[List.mem_singleton.1 hb]
   rintro rfl
   exact h (hm.2 ha)
  ·rintro⟨h3,_,_⟩
   have:=h2.2 h3
   omega
def lvs(t:List Node):List Node:=t.filter isLf
theorem zwn{t:List Node}{j:Nat}(hj:j<t.length):lvs (t.take (j+1))=if isLf (nT t j)=true then lvs (t.take j)++[nT t j]else lvs (t.take j):=by
 unfold lvs
 rw[List.take_succ_eq_append_getElem hj,List.filter_append,ze5 hj]
 by_cases h:isLf (nT t j)=true
 ·rw[if_pos h];simp[h]
 ·rw[if_neg h];simp[h]
theorem zbnb(t:List Node)(j:Nat):(lvs (t.take j)).length<=j:=Nat.le_trans (List.length_filter_le _ _) (by rw[List.length_take];omega)
abbrev idsL(t:List Node):List (List UInt8):=(lvs t).map λn=>n.leaf.ident
abbrev sgnL(t:List Node):List (List UInt8):=(lvs t).map λn=>n.leaf.sign
def zeb(t:List Node):Bool:=decide ((idsL t).Nodup/\(sgnL t).Nodup)
theorem zof:Tryz.prog.underlying 99=some (.map 9 3):=by kernel_rfl
theorem zu1:Tryz.prog.underlying 9=some .string:=by kernel_rfl
theorem zhg:(Tryz.prog.info? 3).bind (·.zero)=some (.int .i64 0):=by kernel_rfl
def apI(t:List Node)(j:Nat):St:=⟨[(0, .r (nods t)),(3, .own 2),(4, .r (I ((lvs (t.take j)).length:Nat))),(10, .r (nods t)),(11, .r (I t.length)),(12, .r (I j))],[(0,some (.gen (mapG qS (embI (cntS (idsL (t.take j))))))),(1,some (.gen (mapG qS (embI (cntS (sgnL (t.take j))))))),(2,some (.box [.own 0, .own 1]))],3⟩
abbrev apF(t:List Node)(b1 b2:Nat):List (Nat×TF):=[(0, .r (nods t)),(3, .own 2),(4, .r (I 0)),(10, .r (nods t)),(11, .r (I t.length)),(12, .r (I 0)),(1000001, .nm 0 (.map (some b1))),(1000002, .nm 1 (.map (some b2)))]
abbrev apG:List (Nat×Option Ow):=[(0,some (.gen (mapG qS []))),(1,some (.gen (mapG qS [])))]
def apS0(t:List Node)(b1 b2:Nat):St:=⟨apF t b1 b2,apG++[(2,some (.box [.r (.x (.map (some b1))), .r (.x (.map (some b2)))]))],3⟩
theorem zfcb(t:List Node)(b1 b2:Nat):Sub (apS0 t b1 b2) (apI t 0):=
 (zhf (S:=apS0 t b1 b2) (j:=2) (i:=0) (id:=0) (gh:=1000001) (cells:=[.r (.x (.map (some b1))), .r (.x (.map (some b2)))]) rfl rfl rfl rfl).trans
  ((zhf (S:=⟨apF t b1 b2,(2,some (.box [.own 0, .r (.x (.map (some b2)))]))::(apS0 t b1 b2).O,3⟩) (j:=2) (i:=1) (id:=1) (gh:=1000002) (cells:=[.own 0, .r (.x (.map (some b2)))]) rfl rfl rfl rfl).trans
  (zac (S:=⟨apF t b1 b2,(2,some (.box [.own 0, .own 1]))::(2,some (.box [.own 0, .r (.x (.map (some b2)))]))::(apS0 t b1 b2).O,3⟩) [(0,0),(1,1),(2,2)] rfl ⟨cr,rfl,cr,cr,cr,cr,trivial⟩ ⟨λ_ _ _ hh=>hh,λ_ _ _ hh=>hh,⟨_,_,rfl,rfl,_,_,rfl,rfl,rfl⟩,trivial⟩))
theorem zuy(n:List UInt8): ∀(w:World) (k:Kp) (v:Value),(ofC (qS n)).at_ w k v->v=qS n:=λw k v h=>by simpa[ofC,RV.at_]using h
set_option maxHeartbeats 1000000 in
theorem zalb(t:List Node)(h1:t.length<=1000000):aG 20 [nods t] (.r (.b (zeb t))):=by
 refine aT Tryz.func20 rfl ?_
 refine Vcode.run Tab_ok ?_
 refine Vstep.mapGMkN qS 1000001 rfl λb1=>?_
 refine Vstep.mapGMkN qS 1000002 rfl λb2=>?_
 refine Vloop.mk' (apI t) (λj=>j<=t.length) (λj=>t.length-j) 0 (by omega) (Sub.trans (zac (S':=apS0 t b1 b2) [(0,0),(1,1),(2,2)] rfl ⟨cr,rfl,cr,cr,cr,cr,⟨rfl,rfl⟩,⟨rfl,rfl⟩,trivial⟩ ⟨λ_ _ _ hh=>hh,λ_ _ _ hh=>hh,(aB aZ),trivial⟩) (zfcb t b1 b2)) ?_
 intro j hj
 have hl:=zbnb t j
 refine zh (λh=>zq ?_) (λh=>zt ?_)
 ·simp only[zb]at h
  have hj':j<t.length:=by omega
  refine zm (by omega) (by omega) (zbf rfl hj') ?_
  refine za rfl rfl ?_
  refine zh (λh2=>zq ?_) (λh2=>zt ?_)
  ·simp only[zb]at h2
   have e:lvs (t.take (j+1))=lvs (t.take j):=by rw[zwn hj',if_neg];unfold isLf;simp only[zb];omega
   have ei:idsL (t.take (j+1))=idsL (t.take j):=by unfold idsL;rw[e]
   have es:sgnL (t.take (j+1))=sgnL (t.take j):=by unfold sgnL;rw[e]
   refine zd (m:=((j+1:Nat):Int)) (by omega) (by omega) ?_
   exact⟨j+1,by omega,by omega,zac [(0,0),(1,1),(2,2)] rfl ⟨cr,rfl,zf (by rw[e]),cr,cr,cr,trivial⟩ ⟨λ_ _ _ hh=>by rw[ei];exact hh,λ_ _ _ hh=>by rw[es];exact hh,⟨_,_,rfl,rfl,_,_,rfl,rfl,rfl⟩,trivial⟩⟩
  ·simp only[zb]at h2
   have e:lvs (t.take (j+1))=lvs (t.take j)++[nT t j]:=by rw[zwn hj',if_pos];unfold isLf;simp only[zb];omega
   have ei:idsL (t.take (j+1))=idsL (t.take j)++[(nT t j).leaf.ident]:=by unfold idsL;rw[e,List.map_append];rfl
   have es:sgnL (t.take (j+1))=sgnL (t.take j)++[(nT t j).leaf.sign]:=by unfold sgnL;rw[e,List.map_append];rfl
   have li:(idsL (t.take j)).length=(lvs (t.take j)).length:=by simp
   have ls:(sgnL (t.take j)).length=(lvs (t.take j)).length:=by simp
   have bi:=zn1 (cntS (idsL (t.take j))) (nT t j).leaf.ident (zzc _) (by omega)
   have b2:=zn1 (cntS (sgnL (t.take j))) (nT t j).leaf.sign (zzc _) (by omega)
   refine zd (m:=(((lvs (t.take (j+1))).length:Nat):Int)) (by rw[e];simp) (by omega) ?_
   refine Vadr.mk' 0 rfl (by decide) ?_
   refine Vfun.str rfl rfl ?_
   refine Vstep.lookG (q:=qS) (n:=(nT t j).leaf.ident) (I 0) rfl rfl rfl rfl rfl (zuy _) zof (zes zu1) zhg (λ_ _=>by simp[RV.at_]) ?_
   rw[zo0]
   refine zd (m:=iget (cntS (idsL (t.take j))) (nT t j).leaf.ident+1) rfl (by omega) ?_
   refine Vstep.putG (q:=qS) (n:=(nT t j).leaf.ident) rfl rfl rfl rfl rfl (zuy _) rfl rfl zof (zes zu1) ?_
   rw[zo2,<-zhi,<-ei]
   refine Vadr.mk' 1 rfl (by decide) ?_
   refine Vfun.str rfl rfl ?_
   refine Vstep.lookG (q:=qS) (n:=(nT t j).leaf.sign) (I 0) rfl rfl rfl rfl rfl (zuy _) zof (zes zu1) zhg (λ_ _=>by simp[RV.at_]) ?_
   rw[zo0]
   refine zd (m:=iget (cntS (sgnL (t.take j))) (nT t j).leaf.sign+1) rfl (by omega) ?_
   refine Vstep.putG (q:=qS) (n:=(nT t j).leaf.sign) rfl rfl rfl rfl rfl (zuy _) rfl rfl zof (zes zu1) ?_
   rw[zo2,<-zhi,<-es]
   refine zd (m:=((j+1:Nat):Int)) (by omega) (by omega) ?_
   exact⟨j+1,by omega,by omega,zac [(0,0),(1,1),(2,2)] rfl ⟨cr,rfl,cr,cr,cr,cr,trivial⟩ ⟨λ_ _ _ hh=>hh,λ_ _ _ hh=>hh,⟨_,_,rfl,rfl,_,_,rfl,rfl,rfl⟩,trivial⟩⟩
 ·simp only[zb]at h
  have ht:t.take j=t:=List.take_of_length_le (by omega)
  have ci:=(zu7 (idsL t)).2
  have cs:=(zu7 (sgnL t)).2
  have li:(idsL t).length=(lvs t).length:=by simp
  have ls:(sgnL t).length=(lvs t).length:=by simp
  rw[li]at ci
  rw[ls]at cs
  unfold apI
  rw[ht]
  refine Vadr.mk' 0 rfl (by decide) ?_
  refine⟨⟨_,_,zof⟩,?_⟩
  refine zh (λk1=>?_) (λk1=>?_)
  ·simp only[zb,embI,List.length_map]at k1
   refine Vadr.mk' 1 rfl (by decide) ?_
   refine⟨⟨_,_,zof⟩,?_⟩
   refine Vcmp.mk' (m:=zeb t) ?_ (cr)
   unfold zeb
   rw[Bool.eq_iff_iff]
   simp only[zb,embI,List.length_map]
   have k2:=ci.1 (by omega)
   constructor
   ·rintro⟨_,h2⟩
    have:=cs.2 h2
    omega
   ·intro h2
    exact⟨k2,cs.1 (by omega)⟩
  ·simp only[zb,embI,List.length_map]at k1
   refine zf (congrArg RV.b (Eq.symm ?_))
   unfold zeb
   simp only[zb]
   rintro⟨h2,_⟩
   have:=ci.2 h2
   omega
end Go.Proofs.YtpcfoglfakeimaaGreat.Sx
