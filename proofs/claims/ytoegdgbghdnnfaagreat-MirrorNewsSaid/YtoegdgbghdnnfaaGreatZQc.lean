import Derived.Test.YtoegdgbghdnnfaaGreatZHh
import Derived.Test.YtoegdgbghdnnfaaGreatZFx
import Derived.Test.YtoegdgbghdnnfaaGreatZOnes
import Derived.Test.YtoegdgbghdnnfaaGreatZHp
import Derived.Test.YtoegdgbghdnnfaaGreatZSxPt
import Derived.Test.YtoegdgbghdnnfaaGreatZSxS
namespace Go.Proofs.YtoegdgbghdnnfaaGreat.Sx
open Go.RowKit
def baS(l:List UInt8):ByteArray:=⟨l.toArray⟩
theorem z48(l:List UInt8):strOfNums (nums l)=baS l:=by
 unfold strOfNums baS nums
 rw[List.map_map]
 congr 2
 exact(List.map_congr_left (λx _=>by simp)).trans (List.map_id l)
theorem Vfun.str{S:St}{o:Oper}{x:Operand}{l:List UInt8}{K:RV->Prop}(hop:o.op= .convert 22 9 x)(hx:oprs S [x]=some [bs l])(hK:K (Str (baS l))):Vfun bP S o [x] K:=
 ⟨_,hx,_,λa w k h=>by
  simp only[RV.partsAt,List.map_cons,List.map_nil]at h
  obtain⟨u,r,e,hat,_⟩:=h
  obtain⟨p,rfl,hp⟩:=z2u hat
  have hv:=(List.cons.inj e).1
  refine⟨.string (baS l),?_,by simp only[RV.at_]⟩
  have hc:=ztk p l w hp
  rw[z48]at hc
  simp[execOp,hop,hv,hc],hK⟩
def strs(l:List ByteArray):RV:= .sl 1 l.length (l.map Str)
def catS(l:List ByteArray):List UInt8:=l.flatMap sB
def zifb(l:List ByteArray):Nat->St
 |0=>{F:=[(3, .r (.x (.slice none 0 0))),(6, .r (strs l)),(7, .r (I l.length)),(8, .r (I ((0:Nat):Int)))],O:=[],nx:=0}
 |i+1=>{F:=[(3, .own 0),(6, .r (strs l)),(7, .r (I l.length)),(8, .r (I ((i+1:Nat):Int)))],O:=[(0,some (.ch 5 1 (catS (l.take (i+1))).length ((catS (l.take (i+1))).map U8) true))],nx:=1}
theorem zus{l:List ByteArray}{i:Nat}(hi:i<l.length):catS (l.take (i+1))=catS (l.take i)++sB l[i]:=by
 rw[List.take_add_one,List.getElem?_eq_getElem hi]
 show(l.take i++[l[i]]).flatMap sB=_
 rw[List.flatMap_append]
 simp only[catS,List.flatMap_cons,List.flatMap_nil,List.append_nil]
theorem zc9b{l:List ByteArray}{i:Nat}:(catS (l.take i)).length<=(catS l).length:=by
 have h:catS l=catS (l.take i)++catS (l.drop i):=by
  unfold catS
  rw[<-List.flatMap_append,List.take_append_drop]
 rw[h,bL]
 omega
theorem z6e(l:List ByteArray)(h0:l≠[])(hl:(catS l).length<=10000000000)(hn:l.length<=1000000000):bG 235 [strs l] (bch (catS l)):=by
 refine bT Tryz.func235 rfl ?_
 refine Vloop.mk' (zifb l) (λi=>i<=l.length) (λi=>l.length-i) 0 (by omega) (zac [] rfl ⟨cr,cr,cr,cr,trivial⟩ trivial) ?_
 intro i hi
 have hpos:0<l.length:=by cases l;exact absurd rfl h0;simp
 have hle:= @zc9b l (i+1)
 rcases i with _ |i
 ·refine zu (decide_eq_true (by omega)) (zq ?_)
  refine zm (by omega) (by omega) (zaj (j:=0) rfl hpos) (zg rfl ?_)
  have hs:=zus hpos
  rw[hs]at hle
  simp only[bL,sB,Array.length_toList]at hle
  refine Vstep.appS (s:=l[0]) Tab_ok rfl rfl rfl rfl ⟨rfl,rfl⟩ rfl rfl rfl rfl rfl (by show 0+l[0].data.size<=_;omega) ?_
  refine zd (m:=((0+1:Nat):Int)) rfl (by decide) ?_
  refine⟨0+1,by omega,by omega,zac [(0,0)] rfl ⟨rfl,cr,cr,cr,trivial⟩ ⟨⟨rfl,rfl,?_,rfl,Cvs.of_eq ?_⟩,trivial⟩⟩
  ·rw[hs];simp[catS,sB]
  ·rw[hs];rfl
 ·refine zh (λh=>zq ?_) (λh=>zt ?_)
  ·simp only[zb]at h
   have hlt:i+1<l.length:=by omega
   refine zm (by omega) (by omega) (zaj (j:=i+1) rfl hlt) (zg rfl ?_)
   have hs:=zus hlt
   rw[hs]at hle
   simp only[bL,sB,Array.length_toList]at hle
   refine Vstep.appS (s:=l[i+1]) Tab_ok rfl rfl rfl rfl ⟨rfl,rfl⟩ rfl rfl rfl rfl rfl (by show _+l[i+1].data.size<=_;omega) ?_
   refine zd (m:=((i+1+1:Nat):Int)) (by omega) (by omega) ?_
   refine⟨i+1+1,by omega,by omega,zac [(0,1)] rfl ⟨rfl,cr,cr,cr,trivial⟩ ⟨⟨rfl,rfl,?_,rfl,Cvs.of_eq ?_⟩,trivial⟩⟩
   ·rw[hs,bL];rfl
   ·rw[hs,List.map_append]
  ·simp only[zb]at h
   have hl':i+1=l.length:=by omega
   exact zez (by rw[hl',List.take_length])
def verB:List UInt8:=[72,80,75,69,45,118,49]
def extB(name salt label secret:List UInt8):List UInt8:=macB salt (verB++name++label++secret)
def epdB(name secret label info:List UInt8)(n:Nat):List UInt8:=exp1 secret (beB 2 n++verB++name++label++info) n
theorem zlu(salt secret:List UInt8)(h1:salt.length<=1000000000)(h2:secret.length<=10000000000):bG 201 [bs salt,bs secret] (bch (macB salt secret)):=by
 refine bT Tryz.func201 rfl ?_
 refine zy ?_
 refine ze (z3n salt [secret] h1 (by simp;omega)) ?_
 exact zez (by simp)
theorem z3f(name label:ByteArray)(salt secret:List UInt8)(h1:salt.length<=1000000000)(h2:secret.length<=1000000000)(h3:name.size<=1000)(h4:label.size<=1000):
  bG 188 [Str name,bs salt,Str label,bs secret] (bch (extB (sB name) salt (sB label) secret)):=by
 refine bT Tryz.func188 rfl ?_
 have e:catS [⟨#[72,80,75,69,45,118,49]⟩,name,label,baS secret]=verB++sB name++sB label++secret:=by simp[catS,verB,baS];rfl
 have hl:(catS [⟨#[72,80,75,69,45,118,49]⟩,name,label,baS secret]).length<=10000000000:=by
  rw[e];simp only[bL,sB,Array.length_toList];show 7+name.size+label.size+_<=_;omega
 refine Vfun.str rfl rfl (zy ?_)
 refine ze (z6e [⟨#[72,80,75,69,45,118,49]⟩,name,label,baS secret] (by simp) hl (by simp)) ?_
 refine ze (zlu salt _ h1 (by omega)) ?_
 exact zez (by rw[e];rfl)
theorem z6d(name label:ByteArray)(secret info:List UInt8)(n:Nat)(hn:1<=n/\n<=32)(h1:secret.length<=1000000000)(h2:info.length<=1000000)(h3:name.size<=1000)(h4:label.size<=1000):
  bG 187 [Str name,bs secret,Str label,bs info,I n] (.r (bs (epdB (sB name) secret (sB label) info n))):=by
 refine bT Tryz.func187 rfl ?_
 have e:catS [baS ([]++beB 2 n),⟨#[72,80,75,69,45,118,49]⟩,name,label,baS info]=beB 2 n++verB++sB name++sB label++info:=by simp[catS,verB,baS];rfl
 have hb:(beB 2 n).length=2:=zao 2 n
 have hl:(catS [baS ([]++beB 2 n),⟨#[72,80,75,69,45,118,49]⟩,name,label,baS info]).length<=1000000000:=by
  rw[e];simp only[bL,sB,Array.length_toList,hb];show 2+7+name.size+label.size+_<=_;omega
 refine Vint.u64 n rfl (by omega) ?_
 refine Vcall.mk' (zeu [] 2 n (by simp) (.inr (.inl rfl))) (zk (Cv.nil _) (zn _)) ?_
 refine Vfun.str rfl rfl ?_
 refine Vfun.str rfl rfl (zy ?_)
 refine ze (z6e [baS ([]++beB 2 n),⟨#[72,80,75,69,45,118,49]⟩,name,label,baS info] (by simp) (by omega) (by simp)) ?_
 refine ze (zuy secret _ n hn h1 hl) ?_
 rw[e]
 exact cr
section
abbrev z5:Fe:=⟨0,0,0,0,0⟩
structure Lad where
 px:Fe
 pz:Fe
 qx:Fe
 qz:Fe
def Lad.next(b:Bool)(u:Fe)(s:Lad):Lad:=
 match b with
 |true=>⟨(zeh s.qx s.qz s.px s.pz u).2.1,(zeh s.qx s.qz s.px s.pz u).2.2,(zeh s.qx s.qz s.px s.pz u).1.1,(zeh s.qx s.qz s.px s.pz u).1.2⟩
 |false=>⟨(zeh s.px s.pz s.qx s.qz u).1.1,(zeh s.px s.pz s.qx s.qz u).1.2,(zeh s.px s.pz s.qx s.qz u).2.1,(zeh s.px s.pz s.qx s.qz u).2.2⟩
def ladN(k:List UInt8)(u:Fe):Nat->Lad
 |0=>⟨one,z5,u,one⟩
 |j+1=>(ladN k u j).next (bitE k (254-j)==1) u
theorem z7v(k:List UInt8)(u:Fe):ladN k u 0=⟨one,z5,u,one⟩:=rfl
theorem zvf(k:List UInt8)(u:Fe)(j:Nat):ladN k u (j+1)=(ladN k u j).next (bitE k (254-j)==1) u:=rfl
attribute [irreducible] ladN
def zph(k:List UInt8)(u:Fe):List UInt8:=((ladN k u 255).px.mul (ladN k u 255).pz.inv).bytes
abbrev pbx(x z:Fe):Ow:= .box [.r (W x.a), .r (W x.b), .r (W x.c), .r (W x.d), .r (W x.e), .r (W z.a), .r (W z.b), .r (W z.c), .r (W z.d), .r (W z.e)]
def ladI(k:List UInt8)(u:Fe)(j:Nat):St:={F:=[(0, .r (bs k)),(3, .own 0),(5, .own 1),(6, .own 2),(7, .r (I ((254-j:Nat):Int)))],O:=[(0,some u.bx),(1,some (pbx (ladN k u j).px (ladN k u j).pz)),(2,some (pbx (ladN k u j).qx (ladN k u j).qz))],nx:=3}
theorem zy2(k:List UInt8)(u:Fe){b:Bool}(h:ladN k u (254+1)=(ladN k u 254).next b u){e:TypeId}:some (Ow.ch e 1 (((((ladN k u 254).next b u).px).mul (((ladN k u 254).next b u).pz).inv).bytes).length ((((((ladN k u 254).next b u).px).mul (((ladN k u 254).next b u).pz).inv).bytes).map U8) true)=some (Ow.ch e 1 (zph k u).length ((zph k u).map U8) true):=by
 rw[<-h]
 rfl
set_option maxHeartbeats 4000000 in
theorem z7c(k:List UInt8)(u:Fe)(hk:k.length=32):bG 284 [bs k, .ag u.v] (bch (zph k u)):=by
 refine bT Tryz.func284 rfl ?_
 refine Vcode.scope mixed Tab_ok 0 (ladI k u) (λj=>j<=254) (λj=>254-j) rfl ?_ ?_
 ·refine bV ?_
  refine ze zl0 ?_
  refine za rfl rfl ?_
  refine ze zl0 ?_
  repeat' ((conv=>whnf);first|refine za rfl rfl ?_)
  refine Vquo.i64 254 8 rfl rfl (by omega) (by omega) ?_
  refine zm (by omega) (by omega) rfl (zg (f:=U8 (k.getD (254/8) 0)) (zo4 (by omega)) ?_)
  refine Vrem.nat 254 8 rfl rfl (by omega) ?_
  refine Vshr.b _ (254%8) rfl rfl (by omega) ?_
  refine Vbits.and8 _ 1 rfl rfl ?_
  have hs:=zvf k u 0
  rw[z7v]at hs
  refine zh (λh=>zq ?_) (λh=>zt ?_)
  ·have hb:(bitE k (254-0)==1)=true:=by rw[beq_iff_eq];exact zo1 h
   rw[hb]at hs
   refine za rfl rfl ?_
   refine za rfl rfl ?_
   refine za rfl rfl ?_
   refine ze (zr8 u one one z5 u) ?_
   refine zd (m:=253) rfl (by decide) ?_
   refine zu rfl (zq ?_)
   exact⟨1,by decide,zac [(0,0),(1,1),(2,2)] rfl ⟨cr,rfl,rfl,rfl,cr,trivial⟩ ⟨(bC (bA bZ)),by rw[hs];exact⟨_,_,rfl,cr,_,_,rfl,cr,_,_,rfl,cr,_,_,rfl,cr,_,_,rfl,cr,_,_,rfl,cr,_,_,rfl,cr,_,_,rfl,cr,_,_,rfl,cr,_,_,rfl,cr,rfl⟩,by rw[hs];exact⟨_,_,rfl,cr,_,_,rfl,cr,_,_,rfl,cr,_,_,rfl,cr,_,_,rfl,cr,_,_,rfl,cr,_,_,rfl,cr,_,_,rfl,cr,_,_,rfl,cr,_,_,rfl,cr,rfl⟩,trivial⟩⟩
  ·have hb:(bitE k (254-0)==1)=false:=by rw[beq_eq_false_iff_ne];exact zlm h
   rw[hb]at hs
   refine za rfl rfl ?_
   refine za rfl rfl ?_
   refine za rfl rfl ?_
   refine ze (zr8 one z5 u one u) ?_
   refine zd (m:=253) rfl (by decide) ?_
   refine zu rfl (zq ?_)
   exact⟨1,by decide,zac [(0,0),(1,1),(2,2)] rfl ⟨cr,rfl,rfl,rfl,cr,trivial⟩ ⟨(bC (bA bZ)),by rw[hs];exact⟨_,_,rfl,cr,_,_,rfl,cr,_,_,rfl,cr,_,_,rfl,cr,_,_,rfl,cr,_,_,rfl,cr,_,_,rfl,cr,_,_,rfl,cr,_,_,rfl,cr,_,_,rfl,cr,rfl⟩,by rw[hs];exact⟨_,_,rfl,cr,_,_,rfl,cr,_,_,rfl,cr,_,_,rfl,cr,_,_,rfl,cr,_,_,rfl,cr,_,_,rfl,cr,_,_,rfl,cr,_,_,rfl,cr,_,_,rfl,cr,rfl⟩,trivial⟩⟩
 ·intro J hj
  refine Vquo.i64 (254-J) 8 rfl rfl (by omega) (by omega) ?_
  refine zm (by omega) (by omega) rfl (zg (f:=U8 (k.getD ((254-J)/8) 0)) (zo4 (by omega)) ?_)
  refine Vrem.nat (254-J) 8 rfl rfl (by omega) ?_
  refine Vshr.b _ ((254-J)%8) rfl rfl (by omega) ?_
  refine Vbits.and8 _ 1 rfl rfl ?_
  have hs:=zvf k u J
  refine zh (λh=>zq ?_) (λh=>zt ?_)
  ·have hb:(bitE k (254-J)==1)=true:=by rw[beq_iff_eq];exact zo1 h
   rw[hb]at hs
   refine za rfl rfl ?_
   refine za rfl rfl ?_
   refine za rfl rfl ?_
   refine ze (zr8 (ladN k u J).qx (ladN k u J).qz (ladN k u J).px (ladN k u J).pz u) ?_
   refine zd (m:=((254-J:Nat):Int)-1) rfl (by omega) ?_
   refine zh (λh=>zq ?_) (λh=>zt ?_)
   ·simp only[zb]at h
    exact⟨J+1,by omega,by omega,zac [(0,0),(1,1),(2,2)] rfl ⟨cr,rfl,rfl,rfl,zf (by congr 1;omega),trivial⟩ ⟨(bC (bA bZ)),by rw[hs];exact⟨_,_,rfl,cr,_,_,rfl,cr,_,_,rfl,cr,_,_,rfl,cr,_,_,rfl,cr,_,_,rfl,cr,_,_,rfl,cr,_,_,rfl,cr,_,_,rfl,cr,_,_,rfl,cr,rfl⟩,by rw[hs];exact⟨_,_,rfl,cr,_,_,rfl,cr,_,_,rfl,cr,_,_,rfl,cr,_,_,rfl,cr,_,_,rfl,cr,_,_,rfl,cr,_,_,rfl,cr,_,_,rfl,cr,_,_,rfl,cr,rfl⟩,trivial⟩⟩
   ·simp only[zb]at h
    obtain rfl:J=254:=by omega
    refine bV ?_
    refine za rfl rfl ?_
    refine za rfl rfl ?_
    refine ze (zo5 (zeh (ladN k u 254).qx (ladN k u 254).qz (ladN k u 254).px (ladN k u 254).pz u).2.2) ?_
    refine ze (zb9 (zeh (ladN k u 254).qx (ladN k u 254).qz (ladN k u 254).px (ladN k u 254).pz u).2.1 (zeh (ladN k u 254).qx (ladN k u 254).qz (ladN k u 254).px (ladN k u 254).pz u).2.2.inv) ?_
    refine ze (ztv _) ?_
    exact zy2 k u hs
  ·have hb:(bitE k (254-J)==1)=false:=by rw[beq_eq_false_iff_ne];exact zlm h
   rw[hb]at hs
   refine za rfl rfl ?_
   refine za rfl rfl ?_
   refine za rfl rfl ?_
   refine ze (zr8 (ladN k u J).px (ladN k u J).pz (ladN k u J).qx (ladN k u J).qz u) ?_
   refine zd (m:=((254-J:Nat):Int)-1) rfl (by omega) ?_
   refine zh (λh=>zq ?_) (λh=>zt ?_)
   ·simp only[zb]at h
    exact⟨J+1,by omega,by omega,zac [(0,0),(1,1),(2,2)] rfl ⟨cr,rfl,rfl,rfl,zf (by congr 1;omega),trivial⟩ ⟨(bC (bA bZ)),by rw[hs];exact⟨_,_,rfl,cr,_,_,rfl,cr,_,_,rfl,cr,_,_,rfl,cr,_,_,rfl,cr,_,_,rfl,cr,_,_,rfl,cr,_,_,rfl,cr,_,_,rfl,cr,_,_,rfl,cr,rfl⟩,by rw[hs];exact⟨_,_,rfl,cr,_,_,rfl,cr,_,_,rfl,cr,_,_,rfl,cr,_,_,rfl,cr,_,_,rfl,cr,_,_,rfl,cr,_,_,rfl,cr,_,_,rfl,cr,_,_,rfl,cr,rfl⟩,trivial⟩⟩
   ·simp only[zb]at h
    obtain rfl:J=254:=by omega
    refine bV ?_
    refine za rfl rfl ?_
    refine za rfl rfl ?_
    refine ze (zo5 (zeh (ladN k u 254).px (ladN k u 254).pz (ladN k u 254).qx (ladN k u 254).qz u).1.2) ?_
    refine ze (zb9 (zeh (ladN k u 254).px (ladN k u 254).pz (ladN k u 254).qx (ladN k u 254).qz u).1.1 (zeh (ladN k u 254).px (ladN k u 254).pz (ladN k u 254).qx (ladN k u 254).qz u).1.2.inv) ?_
    refine ze (ztv _) ?_
    exact zy2 k u hs
attribute [irreducible] zph
end
section
def z2x(k p:List UInt8):List UInt8:=zph (zjs k) (Fe.of p)
def nine:List UInt8:=Fe.bytes ⟨9&&&msk,shrW 9 51,0,0,0⟩
def zkw(k:List UInt8):List UInt8:=z2x k nine
theorem zbfb:nine.length=32:=Fe.bytes_len _
attribute [irreducible] nine
theorem zdwb(k p:List UInt8)(hk:k.length=32)(hp:p.length=32):bG 236 [bs k,bs p] (.r (.tu [bs (z2x k p),Er 0])):=by
 refine bT Tryz.func236 rfl ?_
 refine zw (by simp[hk]) (zt ?_)
 refine zw (by simp[hp]) (zt ?_)
 refine ze (zdtb k hk) ?_
 refine ze (h_of p hp) ?_
 refine ze (z7c (zjs k) (Fe.of p) ((zrk k).trans hk)) ?_
 exact⟨_,rfl,cr⟩
theorem zgxb(k:List UInt8)(hk:k.length=32):bG 189 [bs k] (.r (.tu [bs (zkw k),Er 0])):=by
 refine bT Tryz.func189 rfl ?_
 refine ze (zka 9) ?_
 refine ze (ztv ⟨9&&&msk,shrW 9 51,0,0,0⟩) ?_
 refine Vcall.mk' (zdwb k nine hk zbfb) (zk (cr) (zk (zf (by unfold nine;rfl)) Cvs.nil)) ?_
 exact⟨_,rfl,cr⟩
def kemB:List UInt8:=[75,69,77,0,32]
def zpg(seed:List UInt8):List UInt8:=epdB kemB (extB kemB [] [100,107,112,95,112,114,107] seed) [115,107] [] 32
theorem z9n(n s l i:List UInt8){m:Nat}(h:m<=32):(epdB n s l i m).length=m:=zqm _ _ h
theorem z9p(n s l i:List UInt8):(extB n s l i).length=32:=zfg _ _
theorem zob(seed:List UInt8):(zpg seed).length=32:=z9n _ _ _ _ (by omega)
theorem z1h(seed:List UInt8)(hs:seed.length<=1000000000):bG 134 [bs seed] (.r (.tu [bs (zpg seed),bs (zkw (zpg seed))])):=by
 refine bT Tryz.func134 rfl ?_
 have hx:(extB kemB [] [100,107,112,95,112,114,107] seed).length<=1000000000:=by rw[z9p];omega
 refine Vcall.mk' (z3f ⟨#[75,69,77,0,32]⟩ ⟨#[100,107,112,95,112,114,107]⟩ [] seed (by simp) hs (by decide) (by decide)) (zk (cr) (zk (Cv.nil 1) (zn _))) ?_
 refine Vcall.mk' (z6d ⟨#[75,69,77,0,32]⟩ ⟨#[115,107]⟩ (extB kemB [] [100,107,112,95,112,114,107] seed) [] 32 (by omega) hx (by simp) (by decide) (by decide)) (zk (cr) (zk (cr) (zk (cr) (zk (Cv.nil 1) (zn _))))) ?_
 refine ze (zgxb (zpg seed) (zob seed)) ?_
 exact⟨_,rfl,cr⟩
theorem zea(s l c:List UInt8){n:Nat}(h:n<=32):(labB s l c n).length=n:=zqm _ _ h
def zi7b:List UInt8:=[112,97,116,104]
end
section
def wayS:List UInt8:=[119,97,121]
def secN(seed:List UInt8):Nat->List UInt8
 |0=>labB seed wayS [] 32
 |k+1=>labB (secN seed k) zi7b [] 32
attribute [irreducible] secN
end
structure KeyP where
 at_:Int
 key:List UInt8
 deriving DecidableEq
abbrev KeyP.c(k:KeyP):List RV:=[I k.at_,bs k.key]
def keyR(l:List KeyP):RV:= .sl 2 l.length (l.flatMap KeyP.c)
def zja(n:Nat):List UInt8:=((List.replicate 32 (0:UInt8)).set 0 (UInt8.ofNat n)).set 1 (UInt8.ofNat (n/256))
theorem zvz(n:Nat):(zja n).length=32:=by simp[zja]
theorem zhbb(n:Nat)(hn:n<=1000000000):bG 85 [I n] (bch (zja n)):=by
 refine zar (T:=Tab) mixed Tab_ok Tryz.func85 rfl (by kernel_rfl) ?_
 refine⟨rfl,by decide,by decide,by decide,_,_,rfl,zs32,Vpub.own ?_⟩
 refine Vint.u8 n rfl ?_
 refine Vquo.i64 n 256 rfl rfl (by omega) (by omega) ?_
 refine Vint.u8 (n/256) rfl ?_
 refine Vadr.mk' 0 rfl (by decide) ?_
 refine⟨by decide,((List.replicate 32 (0:UInt8)).set 0 (UInt8.ofNat n)).map U8,zd9 (by decide),?_⟩
 refine Vadr.mk' 1 rfl (by decide) ?_
 refine⟨by rw[List.length_map,List.length_set];decide,(zja n).map U8,zd9 (by rw[List.length_set];decide),?_⟩
 refine⟨_,zbr (id:=0) rfl,?_⟩
 exact congrArg (λm=>some (Ow.ch 5 1 m ((zja n).map U8) true)) (zvz n).symm
theorem zrm(k:List UInt8):(zkw k).length=32:=by unfold zkw z2x zph;exact Fe.bytes_len _
structure CtxP where
 group:List UInt8
 epoch:Nat
 tree:List UInt8
 trans:List UInt8
abbrev CtxP.c(x:CtxP):List RV:=[bs x.group, .i .u64 x.epoch,bs x.tree,bs x.trans]
structure CtxP.fit (x:CtxP):Prop where
 group:x.group.length<=1000000
 epoch:x.epoch<18446744073709551616
 tree:x.tree.length<=1000000
 trans:x.trans.length<=1000000
def ctxB(x:CtxP):List UInt8:=beB 2 1++beB 2 1++vecB x.group++beB 8 x.epoch++vecB x.tree++vecB x.trans++[0]
theorem z04(x:CtxP):(ctxB x).length<=x.group.length+x.tree.length+x.trans.length+25:=by
 have v1:=zal x.group
 have v2:=zal x.tree
 have v3:=zal x.trans
 simp only[ctxB,bL,zao,List.length_cons,List.length_nil]
 omega
theorem z6z(x:CtxP)(hx:x.fit):bG 203 [.ag x.c] (.r (bs (ctxB x))):=by
 refine bT Tryz.func203 rfl ?_
 obtain⟨h1,h2,h3,h4⟩:=hx
 have v1:=zal x.group
 have v2:=zal x.tree
 have v3:=zal x.trans
 refine bV ?_
 refine Vcall.mk' (zns [] 2 1 (by simp) (.inr (.inl rfl))) (zk (Cv.nil _) (zn _)) ?_
 rw[List.nil_append]
 refine ze (zns (beB 2 1) 2 1 (by rw[zao];omega) (.inr (.inl rfl))) ?_
 refine ze (zr6 (beB 2 1++beB 2 1) x.group (by rw[bL,zao];omega) (by omega)) ?_
 refine ze (zns (beB 2 1++beB 2 1++vecB x.group) 8 x.epoch (by simp only[bL,zao];omega) (.inr (.inr (.inr rfl)))) ?_
 refine bV ?_
 refine ze (zr6 (beB 2 1++beB 2 1++vecB x.group++beB 8 x.epoch) x.tree (by simp only[bL,zao];omega) (by omega)) ?_
 refine ze (zr6 (beB 2 1++beB 2 1++vecB x.group++beB 8 x.epoch++vecB x.tree) x.trans (by simp only[bL,zao];omega) (by omega)) ?_
 refine zy ?_
 refine Vapp.mk' (j:=(ctxB x).length) (zs:=(ctxB x).map U8) (by simp only[maxLen,bL,zao];omega) (by simp only[bL,zao];show(_+_)*1<=_;omega) (by simp only[ctxB,bL,List.length_cons,List.length_nil]) (by simp only[ctxB,List.map_append];rfl) ?_
 exact cr
theorem zp6(s:List UInt8)(label:ByteArray)(ctx:List UInt8)(n:Nat)(hn:1<=n/\n<=32)(hs:s.length<=1000000000)(hl:label.size<=1048576)(hc:ctx.length<=1048576):bG 202 [bs s,Str label,bs ctx,I n] (.r (bs (labB s (sB label) ctx n))):=by
 refine bT Tryz.func202 rfl ?_
 refine ze (zxk s label ctx n hn hs hl hc) ?_
 exact cr
abbrev jnrS:ByteArray:=⟨#[106,111,105,110,101,114]⟩
abbrev epoS:ByteArray:=⟨#[101,112,111,99,104]⟩
abbrev wlcS:ByteArray:=⟨#[119,101,108,99,111,109,101]⟩
abbrev grpS:ByteArray:=⟨#[103,114,111,117,112]⟩
abbrev sndS:ByteArray:=⟨#[115,101,110,100,101,114,32,100,97,116,97]⟩
abbrev encS:ByteArray:=⟨#[101,110,99,114,121,112,116,105,111,110]⟩
abbrev expS:ByteArray:=⟨#[101,120,112,111,114,116,101,114]⟩
abbrev autS:ByteArray:=⟨#[97,117,116,104,101,110,116,105,99,97,116,105,111,110]⟩
abbrev xtlS:ByteArray:=⟨#[101,120,116,101,114,110,97,108]⟩
abbrev cfmS:ByteArray:=⟨#[99,111,110,102,105,114,109]⟩
abbrev mbrS:ByteArray:=⟨#[109,101,109,98,101,114,115,104,105,112]⟩
abbrev rsmS:ByteArray:=⟨#[114,101,115,117,109,112,116,105,111,110]⟩
abbrev iniS:ByteArray:=⟨#[105,110,105,116]⟩
structure SecP where
 jn:List UInt8
 wl:List UInt8
 ep:List UInt8
 sd:List UInt8
 en:List UInt8
 ex:List UInt8
 au:List UInt8
 xt:List UInt8
 cf:List UInt8
 mb:List UInt8
 rs:List UInt8
 it:List UInt8
abbrev SecP.c(s:SecP):List RV:=[bs s.jn,bs s.wl,bs s.ep,bs s.sd,bs s.en,bs s.ex,bs s.au,bs s.xt,bs s.cf,bs s.mb,bs s.rs,bs s.it]
def zo7(init commit ctx:List UInt8):List UInt8:=labB (macB init commit) (sB jnrS) ctx 32
theorem zajb(init commit:List UInt8)(x:CtxP)(hx:x.fit)(hs:x.group.length+x.tree.length+x.trans.length<=1000000)(hi:init.length<=1000000000)(hc:commit.length<=1000000000):bG 140 [bs init,bs commit, .ag x.c] (.r (bs (zo7 init commit (ctxB x)))):=by
 refine bT Tryz.func140 rfl ?_
 have hb:=z04 x
 have hm:=zfg init commit
 refine bV ?_
 refine ze (zlu init commit (by omega) (by omega)) ?_
 refine za rfl rfl ?_
 refine ze (z6z x hx) ?_
 refine ze (zp6 (macB init commit) jnrS (ctxB x) 32 (by omega) (by omega) (by decide) (by omega)) ?_
 exact cr
abbrev At(b off:Nat):RV:= .x (.pointer (some ⟨b,off,none⟩))
abbrev tabR(b:Nat):List RV:=[Str sndS,At b 3,Str encS,At b 4,Str expS,At b 5,Str autS,At b 6,Str xtlS,At b 7,Str cfmS,At b 8,Str mbrS,At b 9,Str rsmS,At b 10,Str iniS,At b 11]
set_option maxRecDepth 20000 in
set_option maxHeartbeats 4000000 in
theorem zehb(b:Nat):bG 204 [At b 0] (.r (.sl 2 9 (tabR b))):=by
 refine bT Tryz.func204 rfl ?_
 refine bV ?_
 refine zy ?_
 exact cr
def secE(jn wl ep:List UInt8):SecP:=⟨jn,wl,ep,labB ep (sB sndS) [] 32,labB ep (sB encS) [] 32,labB ep (sB expS) [] 32,labB ep (sB autS) [] 32,labB ep (sB xtlS) [] 32,labB ep (sB cfmS) [] 32,labB ep (sB mbrS) [] 32,labB ep (sB rsmS) [] 32,labB ep (sB iniS) [] 32⟩
def z32:List UInt8:=List.replicate 32 0
def schS(joiner ctx:List UInt8):SecP:=secE joiner (labB (macB joiner z32) (sB wlcS) [] 32) (labB (macB joiner z32) (sB epoS) ctx 32)
abbrev nl12:List TF:=[.r nl, .r nl, .r nl, .r nl, .r nl, .r nl, .r nl, .r nl, .r nl, .r nl, .r nl, .r nl]
def zf6b(jn wl ep:List UInt8)(j:Nat):List TF:=[.r (bs jn), .r (bs wl), .r (bs ep)]++((((secE jn wl ep).c.drop 3).take j).map TF.r++List.replicate (9-j) (.r nl))
set_option maxHeartbeats 4000000 in
theorem zd3b(joiner m wl ep z cx:List UInt8)(x:CtxP)(hj:joiner.length<=1000000000)(hz:32=z.length)(hzm:(List.replicate ((32:Int).toNat) ([Value.int .u8 0].map ofC)).flatten=z.map U8)(hep:ep.length=32)
  (c1:bG 201 [bs joiner,bs z] (bch m)) (c2:bG 81 [bs m,Str wlcS] (.r (bs wl)))
  (c3:bG 203 [.ag x.c] (.r (bs cx))) (c4:bG 202 [bs m,Str epoS,bs cx,I 32] (.r (bs ep))):
  bG 139 [bs joiner, .ag x.c] (.r (.ag (secE joiner wl ep).c)):=by
 refine bT Tryz.func139 rfl ?_
 refine⟨rfl,by decide,by decide,by decide,z.length,z.map U8,hz,hzm,zy ?_⟩
 refine ze c1 ?_
 refine ze (zcj joiner (by omega)) ?_
 refine ze c2 ?_
 refine za rfl rfl ?_
 refine ze c3 ?_
 refine ze c4 ?_
 refine Vstep.nmB 5 1000000 rfl λb=>Vstep.callX (tn:=1000000) rfl rfl rfl (zehb b) ?_
 refine Vloop.mk' (λj:Nat=>⟨[(4, .own 1),(6, .own 5),(22, .r (.sl 2 9 (tabR b))),(23, .r (I 9)),(24, .r (I j)),(1000000, .nm 5 (.pointer (some ⟨b,0,none⟩)))],[(1,some (.box nl12)),(5,some (.box (zf6b joiner wl ep j)))],6⟩) (λj=>j<=9) (λj=>9-j) 0 (by omega) (zac [(1,1),(5,5)] rfl (by repeat' (first|exact rfl|exact trivial|exact cr|exact Cv.nil _|exact⟨rfl,rfl⟩|refine⟨_,_,rfl,?_,?_⟩|refine⟨?_,?_⟩)) (by repeat' (first|exact rfl|exact trivial|exact cr|exact Cv.nil _|exact⟨rfl,rfl⟩|refine⟨_,_,rfl,?_,?_⟩|refine⟨?_,?_⟩))) ?_
 intro j hj
 rcases(by omega:j<9\/j=9)with hlt |rfl
 rotate_left
 ·refine zw rfl (zt ?_)
  refine za rfl rfl ?_
  refine za rfl rfl ?_
  exact cr
 obtain⟨k,hk⟩: ∃k,k=j+1:=⟨_,rfl⟩
 rcases(by omega:j=0\/j=1\/j=2\/j=3\/j=4\/j=5\/j=6\/j=7\/j=8)with rfl |rfl |rfl |rfl |rfl |rfl |rfl |rfl |rfl
 all_goals
  refine zu rfl (zq ?_)
  refine zm (by decide) (by decide) rfl ?_
  refine za rfl rfl ?_
  refine bV ?_
  refine ze (zho ep _ (by omega) (by decide)) ?_
  refine Vstep.sub (zq9 (id:=5) (t:=35) (tn:=1000000) rfl rfl rfl) (Vstep.sto Tab_ok rfl ?_)
  refine zd (m:=(k:Int)) (by omega) (by omega) ?_
  exact⟨k,by omega,by omega,by subst hk;exact zac [(1,1),(5,5)] rfl (by repeat' (first|exact rfl|exact trivial|exact cr|exact Cv.nil _|exact⟨rfl,rfl⟩|refine⟨_,_,rfl,?_,?_⟩|refine⟨?_,?_⟩)) (by repeat' (first|exact rfl|exact trivial|exact cr|exact Cv.nil _|exact⟨rfl,rfl⟩|refine⟨_,_,rfl,?_,?_⟩|refine⟨?_,?_⟩))⟩
theorem zi4b(joiner:List UInt8)(x:CtxP)(hx:x.fit)(hs:x.group.length+x.tree.length+x.trans.length<=1000000)(hj:joiner.length<=1000000000):bG 139 [bs joiner, .ag x.c] (.r (.ag (schS joiner (ctxB x)).c)):=by
 have hb:=z04 x
 have hm:=zfg joiner z32
 have c1:=zlu joiner z32 hj (by decide)
 have c2:=zho (macB joiner z32) wlcS (by omega) (by decide)
 have c3:=z6z x hx
 have c4:=zp6 (macB joiner z32) epoS (ctxB x) 32 (by omega) (by omega) (by decide) (by omega)
 have h1:=zea (macB joiner z32) (sB epoS) (ctxB x) (n:=32) (by omega)
 exact zd3b joiner _ _ _ z32 _ x hj rfl zs32 h1 c1 c2 c3 c4
theorem zedb(init commit:List UInt8)(x:CtxP)(hx:x.fit)(hs:x.group.length+x.tree.length+x.trans.length<=1000000)(hi:init.length<=1000000000)(hc:commit.length<=1000000000):bG 80 [bs init,bs commit, .ag x.c] (.r (.ag (schS (zo7 init commit (ctxB x)) (ctxB x)).c)):=by
 refine bT Tryz.func80 rfl ?_
 have hj:=zea (macB init commit) (sB jnrS) (ctxB x) (n:=32) (by omega)
 have c2:=zi4b (zo7 init commit (ctxB x)) x hx hs (by unfold zo7;omega)
 refine bV ?_
 refine za rfl rfl ?_
 refine ze (zajb init commit x hx hs hi hc) ?_
 refine za rfl rfl ?_
 refine ze c2 ?_
 generalize schS (zo7 init commit (ctxB x)) (ctxB x)=s
 refine za rfl rfl ?_
 exact cr
theorem zheb(s:SecP)(l:List UInt8)(h1:s.cf.length<=1000000)(h2:l.length<=1000000):bG 83 [.ag s.c,bs l] (.r (bs (macB s.cf l))):=by
 refine bT Tryz.func83 rfl ?_
 have h:=z3n s.cf [l] (by omega) (by simp;omega)
 have e:([l]:List (List UInt8)).flatMap id=l:=by simp
 rw[e]at h
 refine zy ?_
 refine ze h ?_
 exact cr
def intB(c t:List UInt8):List UInt8:=shaB (c++vecB t)
theorem z37(c t:List UInt8)(h1:c.length<=1000000)(h2:t.length<=1000000):bG 84 [bs c,bs t] (.r (bs (intB c t))):=by
 refine bT Tryz.func84 rfl ?_
 have hv:=zal t
 have h:=zlw [c,vecB t] (by simp;omega)
 have e:([c,vecB t]:List (List UInt8)).flatMap id=c++vecB t:=by simp
 rw[e]at h
 refine Vcall.mk' (zbv [] t (by simp) (by omega)) (zk (Cv.nil 1) (zn _)) ?_
 rw[List.nil_append]
 refine zy ?_
 refine ze h ?_
 exact cr
section
open Go.ChangeShapes Go.WideShapes Go.ChangeAt Go.RowKit
theorem z72{α:Type}{l:List α}(h:l.length=4): ∃c0 c1 c2 c3,l=[c0,c1,c2,c3]:=by
 match l,h with
 |[c0,c1,c2,c3],_=>exact⟨_,_,_,_,rfl⟩
section
variable {P:Program} {r:Rd P} {t:TypeId}
theorem Rd.u64j(ht:P.underlying t=some (.int .u64)):r.Reads (λn:Nat=>[.i .u64 n]) (λn=>n<18446744073709551616) t:=λfuel cs x h=>by
 obtain⟨n,rfl,_,hw⟩:=DataW.trod_int ht h
 simp only[Lit.wf,Bool.and_eq_true,decide_eq_true_eq]at hw
 have h1:(0:Int)<=n:=hw.1
 have h2:n<=18446744073709551615:=hw.2
 obtain⟨k,rfl⟩: ∃k:Nat,n=k:=⟨n.toNat,by omega⟩
 exact⟨k,by omega,by simp only[RV.listAt,RV.at_];exact⟨_,[],rfl,rfl,rfl,rfl⟩⟩
end
theorem Rd.ctxj{r:Rd Tryz.prog}:r.Reads CtxP.c (λx=>x.epoch<18446744073709551616) 25:=λfuel cs x hx=>by
 obtain⟨hl,xs,n,_,hxl,hf⟩:=Rd.struct (C:=4) Tryz.underlying25 (by kernel_rfl) hx
 obtain⟨a0,a1,a2,a3,rfl⟩:=z72 hl
 obtain⟨y0,y1,y2,y3,rfl⟩:=z72 hxl
 have h0:r.trod n 22 [a0]=some y0:=hf 0 _ rfl 1 (by kernel_rfl)
 have h1:r.trod n 23 [a1]=some y1:=hf 1 _ rfl 1 (by kernel_rfl)
 have h2:r.trod n 22 [a2]=some y2:=hf 2 _ rfl 1 (by kernel_rfl)
 have h3:r.trod n 22 [a3]=some y3:=hf 3 _ rfl 1 (by kernel_rfl)
 obtain⟨s0,k0,g0⟩:=(Rd.bytes Tryz.underlying22 Tryz.underlying5 (by kernel_rfl)) _ _ _ h0
 obtain⟨s1,k1,g1⟩:=(Rd.u64j Tryz.underlying23) _ _ _ h1
 obtain⟨s2,k2,g2⟩:=(Rd.bytes Tryz.underlying22 Tryz.underlying5 (by kernel_rfl)) _ _ _ h2
 obtain⟨s3,k3,g3⟩:=(Rd.bytes Tryz.underlying22 Tryz.underlying5 (by kernel_rfl)) _ _ _ h3
 exact⟨⟨s0,s1,s2,s3⟩,k1,zcg g0 (zcg g1 (zcg g2 g3))⟩
set_option maxRecDepth 100000 in
theorem zf8b{H:Type}{enc:TypeId×Value->H}{W:World}{base:Nat}{v:Value}{d:DataW H}{p:List MemPlace}(hval:Value.okWide bP W .any base 25 v)
  (h:DataW.Trod enc bP W 0 (λ_=>true) true 25 v d p):
  ∃s:CtxP,s.epoch<18446744073709551616/\(RV.ag s.c).at_ W (allK W) v:=by
 obtain⟨us,rfl,_⟩:=okWide_struct Tryz.underlying25 hval
 obtain⟨fuel,hf⟩:=h
 obtain⟨s,hs,hl⟩:=Rd.ctxj (r:=⟨H,enc,W,0,λ_=>true,true⟩) fuel us.toList (d,p) hf
 exact⟨s,hs,by simp only[RV.at_];exact⟨us,rfl,hl⟩⟩
theorem zilb{n:Int}(w:(Lit.int .u64 n).wf=true):0<=n/\n<18446744073709551616:=by
 simp only[Lit.wf,Bool.and_eq_true,decide_eq_true_eq]at w
 have h1:(0:Int)<=n:=w.1
 have h2:n<=18446744073709551615:=w.2
 omega
end
def zan(t:List Node)(j:Nat):List Spot:=(List.range j).map λi:Nat=>⟨(i:Int),nT t i⟩
theorem zs1(t:List Node)(j:Nat):zan t (j+1)=zan t j++[⟨(j:Int),nT t j⟩]:=by
 unfold zan
 rw[List.range_succ,List.map_append]
 rfl
theorem zoo(t:List Node)(j:Nat):(zan t j).length=j:=by simp[zan]
theorem zg7(t:List Node): ∀(j:Nat) (z:Int),zaf (zan t j) z=if 0<=z/\z< (j:Int)then some (nT t z.toNat)else none
 |0,z=>by
  have: ¬(0<=z/\z< ((0:Nat):Int)):=by omega
  rw[if_neg this]
  rfl
 |j+1,z=>by
  have ih:=zg7 t j z
  rw[zs1]
  simp only[zaf,List.find?_append]at ih⊢
  by_cases h:0<=z/\z< (j:Int)
  ·rw[if_pos h]at ih
   rw[if_pos (by omega)]
   cases h2:(zan t j).find? (λs=>decide (s.at_=z))with
   |none=>rw[h2]at ih;cases ih
   |some s=>rw[h2]at ih;simpa using ih
  ·rw[if_neg h]at ih
   simp only[Option.map_eq_none_iff]at ih
   rw[ih]
   by_cases h3:z=(j:Int)
   ·subst h3
    rw[if_pos (by omega)]
    simp
   ·rw[if_neg (by omega)]
    have: ¬((j:Int)=z):=by omega
    simp[this]
theorem zdmb(t:List Node)(h1:t.length<=1000000):bG 65 [nods t] (.r (zcw (zan t t.length))):=by
 refine bT Tryz.func65 rfl ?_
 refine Vloop.mk' (λj:Nat=>{F:=[(0, .r (nods t)),(3, .own 0),(4, .r (I j))],O:=[(0,some (zc3 (zan t j)))],nx:=1}) (λj=>j<=t.length) (λj=>t.length-j) 0 (by omega)
  ((zb7 3 132 11 rfl).trans (zac [(0,0)] rfl ⟨cr,rfl,cr,trivial⟩ ⟨⟨rfl,rfl,rfl,rfl,zn _⟩,trivial⟩)) ?_
 intro j hj
 have hsl:=zoo t j
 have hsn:=zs1 t j
 refine zh (λh=>zq ?_) (λh=>zt ?_)
 ·simp only[zb]at h
  have hj':j<t.length:=by omega
  refine zm (by omega) (by omega) (zbs rfl hj') ?_
  refine za rfl rfl ?_
  refine zy ?_
  refine Vapp.mk' (j:=(zan t (j+1)).length) (zs:=(zan t (j+1)).flatMap Spot.c) (by simp only[maxLen];omega) (by simp;omega) (by rw[hsn,bL];rfl) (by rw[hsn,List.flatMap_append];exact congrArg (List.flatMap Spot.c (zan t j)++ ·) (by simp[zbl,cellsOf])) ?_
  refine zd (m:=((j+1:Nat):Int)) (by omega) (by omega) ?_
  exact⟨j+1,hj',by omega,zac [(0,_)] rfl ⟨cr,rfl,cr,trivial⟩ ⟨⟨rfl,rfl,rfl,rfl,zn _⟩,trivial⟩⟩
 ·simp only[zb]at h
  have:j=t.length:=by omega
  subst this
  exact cr
def insD(x:Int):List Int->List Int
 |[]=>[x]
 |y::l=>if y<x then y::insD x l else x::y::l
theorem z1x{x:Int}: ∀{l:List Int} {k:Nat},k<=l.length->(∀y∈l.take k,y<x)->(∀h:k<l.length,x<=l[k])->l.take k++[x]++l.drop k=insD x l
 |[],k,hk,_,_=>by
  have:k=0:=by simpa using hk
  subst this;rfl
 |y::l,0,_,_,h2=>by
  have h3:=h2 (by simp)
  simp only[List.getElem_cons_zero]at h3
  simp only[List.take_zero,List.nil_append,List.drop_zero,insD]
  rw[if_neg (by omega)]
  rfl
 |y::l,k+1,hk,h1,h2=>by
  have h3:=h1 y (by simp)
  simp only[insD]
  rw[if_pos h3,<-z1x (k:=k) (by simpa using hk) (λz hz=>h1 z (by simp[hz])) (λh=>h2 (by simpa using h))]
  rfl
theorem zx7{x:Int}: ∀{l:List Int},(insD x l).length=l.length+1
 |[]=>rfl
 |y::l=>by
  unfold insD
  split
  ·rw[List.length_cons,zx7];rfl
  ·rfl
theorem zhs{x z:Int}: ∀{l:List Int},z∈insD x l↔z=x\/z∈l
 |[]=>by simp[insD]
 |y::l=>by
  unfold insD
  split
  ·simp only[List.mem_cons,zhs]
   exact⟨λh=>by rcases h with h |h |h<;>simp[h],λh=>by rcases h with h |h |h<;>simp[h]⟩
  ·simp
theorem z1y{x:Int}: ∀{l:List Int},l.Pairwise (· < ·)->x∉l->(insD x l).Pairwise (· < ·)
 |[],_,_=>by simp[insD]
 |y::l,h,hx=>by
  rw[List.pairwise_cons]at h
  simp only[List.mem_cons,not_or]at hx
  unfold insD
  split
  ·rename_i hlt
   rw[List.pairwise_cons]
   refine⟨λz hz=>?_,z1y h.2 hx.2⟩
   rcases zhs.1 hz with rfl |hz
   ·exact hlt
   ·exact h.1 z hz
  ·rename_i hlt
   rw[List.pairwise_cons,List.pairwise_cons]
   refine⟨λz hz=>?_,h⟩
   rcases List.mem_cons.1 hz with rfl |hz
   ·omega
   ·have:=h.1 z hz;omega
def za8(l:List Int):List Int:=l.foldl (λa x=>insD x a) []
theorem z4z{l:List Int}{j:Nat}(hj:j<l.length):za8 (l.take (j+1))=insD l[j] (za8 (l.take j)):=by
 unfold za8
 exact zfb (f:=λa x=>insD x a) hj
theorem ze7: ∀{l a:List Int},(l.foldl (λa x=>insD x a) a).length=a.length+l.length
 |[],a=>rfl
 |x::l,a=>by rw[List.foldl_cons,ze7,zx7,List.length_cons];omega
theorem zze: ∀{l a:List Int},l.Nodup->a.Pairwise (· < ·)->(∀x∈l,x∉a)->(l.foldl (λa x=>insD x a) a).Pairwise (· < ·)/\∀z,z∈l.foldl (λa x=>insD x a) a↔z∈a\/z∈l
 |[],a,_,h,_=>⟨h,by simp⟩
 |x::l,a,hn,h,hd=>by
  rw[List.nodup_cons]at hn
  rw[List.foldl_cons]
  obtain⟨r1,r2⟩:=zze (l:=l) (a:=insD x a) hn.2 (z1y h (hd x (by simp))) λy hy hm=>by
   rcases zhs.1 hm with rfl |hm
   ·exact hn.1 hy
   ·exact hd y (by simp[hy]) hm
  refine⟨r1,λz=>?_⟩
  rw[r2 z,zhs]
  simp only[List.mem_cons]
  exact⟨λh=>by rcases h with(h |h) |h<;>simp[h],λh=>by rcases h with h |h |h<;>simp[h]⟩
theorem zst{l:List Int}(hn:l.Nodup):za8 l=rise l:=by
 obtain⟨r1,r2⟩:=zze (a:=[]) hn (by simp) (by simp)
 exact zj2 r1 (zpk l) λz=>by
  rw[zmc]
  have:=r2 z
  simp only[List.not_mem_nil,false_or]at this
  exact this
theorem zi1(l:List Int)(hl:l.length<=10000000000000):bG 107 [is l] (.r (is (za8 l))):=by
 refine bT Tryz.func107 rfl ?_
 refine Vloop.mk' (λi:Nat=>{F:=[(0, .r (is l)),(3, .r (is (za8 (l.take i)))),(4, .r (I i))],O:=[],nx:=0}) (λi=>i<=l.length) (λi=>l.length-i) 0 (by omega)
  (zac [] rfl ⟨cr,Cv.nil 1,cr,trivial⟩ trivial) ?_
 intro i hi
 refine zh (λh=>zq ?_) (λh=>zt ?_)
 rotate_left
 ·simp only[zb]at h
  rw[List.take_of_length_le (by omega)]
  exact cr
 simp only[zb]at h
 have hi':i<l.length:=by omega
 have hst:=z4z hi'
 obtain⟨R,hR⟩: ∃R,R=za8 (l.take i):=⟨_,rfl⟩
 have hRl:R.length=i:=by rw[hR];unfold za8;rw[ze7,List.length_take];simp;omega
 rw[<-hR]at hst⊢
 refine Vloop.mk' (λk:Nat=>{F:=[(0, .r (is l)),(3, .r (is R)),(4, .r (I i)),(5, .own 0),(6, .r (I k))],O:=[(0,some (.ch 3 1 (R.take k).length ((R.take k).map I) true))],nx:=1}) (λk=>k<=R.length/\∀y∈R.take k,y<l[i]) (λk=>R.length-k) 0 ⟨by omega,by simp⟩
  ((zb7 5 3 1 rfl).trans (zac [(0,0)] rfl ⟨cr,cr,cr,rfl,cr,trivial⟩ ⟨⟨rfl,rfl,rfl,rfl,zn _⟩,trivial⟩)) ?_
 rintro k ⟨hk,hlt⟩
 have hend:(∀h:k<R.length,l[i]<=R[k])->R.take k++[l[i]]++R.drop k=za8 (l.take (i+1)):=λhh=>by rw[hst];exact z1x hk hlt hh
 have htl:(R.take k).length=k:=by rw[List.length_take];omega
 refine bV ?_
 refine zh (λh2=>?_) (λh2=>zt ?_)
 ·simp only[zb]at h2
  have hk':k<R.length:=by omega
  refine zm (by omega) (by omega) (zaj rfl hk') (zg rfl ?_)
  refine zm (by omega) (by omega) (zaj rfl hi') (zg rfl ?_)
  refine zh (λh3=>zq ?_) (λh3=>zt ?_)
  ·simp only[zb]at h3
   refine zm (by omega) (by omega) (zaj rfl hk') (zg rfl ?_)
   refine zy ?_
   have e:=zir hk'
   refine Vapp.mk' (j:=(R.take (k+1)).length) (zs:=(R.take (k+1)).map I) (by simp[maxLen];omega) (by simp;omega) (by rw[e,bL];rfl) (by rw[e,List.map_append];rfl) ?_
   refine zd (m:=((k+1:Nat):Int)) (by omega) (by omega) ?_
   exact⟨k+1,⟨hk',zmt (p:=λy=>y<l[i]) hk' hlt (by omega)⟩,by omega,zac [(0,_)] rfl ⟨cr,cr,cr,rfl,cr,trivial⟩ ⟨zau rfl,trivial⟩⟩
  ·simp only[zb]at h3
   have he:=hend λhh=>by omega
   refine zm (by omega) (by omega) (zaj rfl hi') (zg rfl ?_)
   refine zy ?_
   refine Vapp.mk' (j:=(R.take k++[l[i]]).length) (zs:=(R.take k++[l[i]]).map I) (by simp[maxLen];omega) (by simp;omega) (by simp) (by simp[zbl,cellsOf]) ?_
   refine⟨by omega,by omega,by omega,(R.drop k).length,(R.drop k).map I,?_,?_,?_⟩
   ·rw[List.length_drop];omega
   ·rw[Int.toNat_natCast,<-List.map_drop,List.take_of_length_le (by simp),Nat.mul_one]
   refine Vapp.mk' (j:=(za8 (l.take (i+1))).length) (zs:=(za8 (l.take (i+1))).map I) (by simp[maxLen];omega) (by simp;omega) (by rw[<-he];simp;omega) (by rw[<-he];simp) ?_
   refine zd (m:=((i+1:Nat):Int)) (by omega) (by omega) ?_
   exact⟨i+1,hi',by omega,zac [] rfl ⟨cr,cr,cr,trivial⟩ trivial⟩
 ·simp only[zb]at h2
  have he:=hend λhh=>by omega
  refine zm (by omega) (by omega) (zaj rfl hi') (zg rfl ?_)
  refine zy ?_
  refine Vapp.mk' (j:=(R.take k++[l[i]]).length) (zs:=(R.take k++[l[i]]).map I) (by simp[maxLen];omega) (by simp;omega) (by simp) (by simp[zbl,cellsOf]) ?_
  refine⟨by omega,by omega,by omega,(R.drop k).length,(R.drop k).map I,?_,?_,?_⟩
  ·rw[List.length_drop];omega
  ·rw[Int.toNat_natCast,<-List.map_drop,List.take_of_length_le (by simp),Nat.mul_one]
  refine Vapp.mk' (j:=(za8 (l.take (i+1))).length) (zs:=(za8 (l.take (i+1))).map I) (by simp[maxLen];omega) (by simp;omega) (by rw[<-he];simp;omega) (by rw[<-he];simp) ?_
  refine zd (m:=((i+1:Nat):Int)) (by omega) (by omega) ?_
  exact⟨i+1,hi',by omega,zac [] rfl ⟨cr,cr,cr,trivial⟩ trivial⟩
end Go.Proofs.YtoegdgbghdnnfaaGreat.Sx
