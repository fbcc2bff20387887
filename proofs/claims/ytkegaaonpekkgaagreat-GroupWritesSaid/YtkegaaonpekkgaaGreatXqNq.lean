import Derived.Test.YtkegaaonpekkgaaGreatXqKa
import Derived.Test.YtkegaaonpekkgaaGreatXqNx
import Derived.Test.YtkegaaonpekkgaaGreatXqSxY
namespace Go.Proofs.YtkegaaonpekkgaaGreat
def yX(n x:Nat):Nat:=x/2^n+x%2^n*2^(32-n)
def rj(e f g:Nat):Nat:=(e&&&f)^^^((4294967295-e)&&&g)
def tR(a b c:Nat):Nat:=((a&&&b)^^^(a&&&c))^^^(b&&&c)
def O6(a:Nat):Nat:=(yX 2 a^^^yX 13 a)^^^yX 22 a
def ai(e:Nat):Nat:=(yX 6 e^^^yX 11 e)^^^yX 25 e
def iJ(x:Nat):Nat:=(yX 7 x^^^yX 18 x)^^^(x/8)
def lB(x:Nat):Nat:=(yX 17 x^^^yX 19 x)^^^(x/1024)
theorem B6:(2:Nat)^32=4294967296:=rfl
theorem xM{n x:Nat}(hx:x<4294967296)(h1:1<=n)(h2:n<=31):yX n x<4294967296:=by
 unfold yX
 have hp:=yy n
 have hq:=yy (32-n)
 have e:2^(32-n)*2^n=4294967296:=by rw[<-Nat.pow_add,show 32-n+n=32 by omega]
 have hd:x/2^n<2^(32-n):=Nat.div_lt_of_lt_mul (by rw[Nat.mul_comm,e];exact hx)
 have hm:x%2^n<2^n:=Nat.mod_lt _ hp
 generalize x/2^n=d at*
 generalize x%2^n=m at*
 have:=Nat.mul_le_mul_right (2^(32-n)) (show m+1<=2^n from hm)
 rw[Nat.add_mul,Nat.mul_comm (2^n),e]at this
 omega
theorem wJ{a b:Nat}(ha:a<4294967296)(hb:b<4294967296):a^^^b<4294967296:=by
 rw[<-B6]at*;exact Nat.xor_lt_two_pow ha hb
theorem uU{a b:Nat}(ha:a<4294967296):a&&&b<4294967296:=Nat.lt_of_le_of_lt Nat.and_le_left ha
theorem FZ{e f g:Nat}(he:e<4294967296):rj e f g<4294967296:=wJ (uU he) (uU (by omega))
theorem GQ{a b c:Nat}(ha:a<4294967296)(hb:b<4294967296):tR a b c<4294967296:=wJ (wJ (uU ha) (uU ha)) (uU hb)
theorem FU{a:Nat}(ha:a<4294967296):O6 a<4294967296:=wJ (wJ (xM ha (by omega) (by omega)) (xM ha (by omega) (by omega))) (xM ha (by omega) (by omega))
theorem FV{a:Nat}(ha:a<4294967296):ai a<4294967296:=wJ (wJ (xM ha (by omega) (by omega)) (xM ha (by omega) (by omega))) (xM ha (by omega) (by omega))
theorem CI{a:Nat}(ha:a<4294967296):iJ a<4294967296:=wJ (wJ (xM ha (by omega) (by omega)) (xM ha (by omega) (by omega))) (by omega)
theorem CJ{a:Nat}(ha:a<4294967296):lB a<4294967296:=wJ (wJ (xM ha (by omega) (by omega)) (xM ha (by omega) (by omega))) (by omega)
structure H8 where
 a:Nat
 b:Nat
 c:Nat
 d:Nat
 e:Nat
 f:Nat
 g:Nat
 h:Nat
def H8.ok(s:H8):Prop:=s.a<4294967296/\s.b<4294967296/\s.c<4294967296/\s.d<4294967296/\s.e<4294967296/\s.f<4294967296/\s.g<4294967296/\s.h<4294967296
def H8.list(s:H8):List Nat:=[s.a,s.b,s.c,s.d,s.e,s.f,s.g,s.h]
def dl(b:List UInt8)(i:Nat):Nat:=(((b.getD i 0).toNat*256+(b.getD (i+1) 0).toNat)*256+(b.getD (i+2) 0).toNat)*256+(b.getD (i+3) 0).toNat
theorem H9(b:List UInt8)(i:Nat):dl b i<4294967296:=by
 unfold dl
 have h0:=(b.getD i 0).toNat_lt
 have h1:=(b.getD (i+1) 0).toNat_lt
 have h2:=(b.getD (i+2) 0).toNat_lt
 have h3:=(b.getD (i+3) 0).toNat_lt
 omega
def tD(b:List UInt8)(L:List Nat):Nat:=
 if L.length<16 then dl b (4*L.length)
 else(lB (L.getD (L.length-2) 0)+L.getD (L.length-7) 0+iJ (L.getD (L.length-15) 0)+L.getD (L.length-16) 0)%4294967296
def wk(b:List UInt8):Nat->List Nat
 |0=>[]
 |t+1=>wk b t++[tD b (wk b t)]
theorem vt(b:List UInt8): ∀t,(wk b t).length=t
 |0=>rfl
 |t+1=>by rw[wk,List.length_append,vt b t];rfl
theorem J2(b:List UInt8)(L:List Nat):tD b L<4294967296:=by
 unfold tD
 split
 ·exact H9 _ _
 ·exact Nat.mod_lt _ (by omega)
theorem La(b:List UInt8): ∀t,∀x∈wk b t,x<4294967296
 |0,x,h=>by cases h
 |t+1,x,h=>by
  rcases List.mem_append.1 h with h |h
  ·exact La b t x h
  ·rw[List.mem_singleton.1 h];exact J2 _ _
def kTab:List Nat:=[
 0x428a2f98,0x71374491,0xb5c0fbcf,0xe9b5dba5,0x3956c25b,0x59f111f1,0x923f82a4,0xab1c5ed5,
 0xd807aa98,0x12835b01,0x243185be,0x550c7dc3,0x72be5d74,0x80deb1fe,0x9bdc06a7,0xc19bf174,
 0xe49b69c1,0xefbe4786,0x0fc19dc6,0x240ca1cc,0x2de92c6f,0x4a7484aa,0x5cb0a9dc,0x76f988da,
 0x983e5152,0xa831c66d,0xb00327c8,0xbf597fc7,0xc6e00bf3,0xd5a79147,0x06ca6351,0x14292967,
 0x27b70a85,0x2e1b2138,0x4d2c6dfc,0x53380d13,0x650a7354,0x766a0abb,0x81c2c92e,0x92722c85,
 0xa2bfe8a1,0xa81a664b,0xc24b8b70,0xc76c51a3,0xd192e819,0xd6990624,0xf40e3585,0x106aa070,
 0x19a4c116,0x1e376c08,0x2748774c,0x34b0bcb5,0x391c0cb3,0x4ed8aa4a,0x5b9cca4f,0x682e6ff3,
 0x748f82ee,0x78a5636f,0x84c87814,0x8cc70208,0x90befffa,0xa4506ceb,0xbef9a3f7,0xc67178f2]
def h0Tab:H8:=⟨0x6a09e667,0xbb67ae85,0x3c6ef372,0xa54ff53a,0x510e527f,0x9b05688c,0x1f83d9ab,0x5be0cd19⟩
theorem dH:kTab.length=64:=rfl
theorem GI: ∀x∈kTab,x<4294967296:=by decide+kernel
theorem Rp(t:Nat):kTab.getD t 0<4294967296:=by
 rcases Nat.lt_or_ge t 64 with h |h
 ·have hl:t<kTab.length:=h
  rw[List.getD_eq_getElem?_getD,List.getElem?_eq_getElem hl]
  exact GI _ (List.getElem_mem hl)
 ·rw[List.getD_eq_getElem?_getD,List.getElem?_eq_none (by rw[dH];exact h)];decide
theorem rA(b:List UInt8)(n t:Nat):(wk b n).getD t 0<4294967296:=by
 rcases Nat.lt_or_ge t n with h |h
 ·have hl:t< (wk b n).length:=by rw[vt];exact h
  rw[List.getD_eq_getElem?_getD,List.getElem?_eq_getElem hl]
  exact La _ _ _ (List.getElem_mem hl)
 ·rw[List.getD_eq_getElem?_getD,List.getElem?_eq_none (by rw[vt];exact h)];decide
def T1(k w:Nat)(s:H8):Nat:=s.h+ai s.e+rj s.e s.f s.g+k+w
def Hv(s:H8):Nat:=O6 s.a+tR s.a s.b s.c
def Tl(k w:Nat)(s:H8):H8:=⟨(T1 k w s+Hv s)%4294967296,s.a,s.b,s.c,(s.d+T1 k w s)%4294967296,s.e,s.f,s.g⟩
theorem MJ{k w:Nat}{s:H8}(h:s.ok):(Tl k w s).ok:=by
 obtain⟨ha,hb,hc,hd,he,hf,hg,hh⟩:=h
 exact⟨Nat.mod_lt _ (by omega),ha,hb,hc,Nat.mod_lt _ (by omega),he,hf,hg⟩
def pK(b:List UInt8)(s:H8):Nat->H8
 |0=>s
 |t+1=>Tl (kTab.getD t 0) ((wk b 64).getD t 0) (pK b s t)
theorem iq{b:List UInt8}{s:H8}(h:s.ok): ∀t,(pK b s t).ok
 |0=>h
 |t+1=>MJ (iq h t)
def Vc(s x:H8):H8:=⟨(s.a+x.a)%4294967296,(s.b+x.b)%4294967296,(s.c+x.c)%4294967296,(s.d+x.d)%4294967296,(s.e+x.e)%4294967296,(s.f+x.f)%4294967296,(s.g+x.g)%4294967296,(s.h+x.h)%4294967296⟩
theorem H3(s x:H8):(Vc s x).ok:=⟨Nat.mod_lt _ (by omega),Nat.mod_lt _ (by omega),Nat.mod_lt _ (by omega),Nat.mod_lt _ (by omega),Nat.mod_lt _ (by omega),Nat.mod_lt _ (by omega),Nat.mod_lt _ (by omega),Nat.mod_lt _ (by omega)⟩
def i7(s:H8)(b:List UInt8):H8:=Vc s (pK b s 64)
def tV:Nat->H8->List UInt8->H8
 |0,s,_=>s
 |m+1,s,l=>tV m (i7 s (l.take 64)) (l.drop 64)
theorem eb: ∀(m:Nat) (s:H8) (l:List UInt8),s.ok->(tV m s l).ok
 |0,s,l,h=>h
 |m+1,s,l,h=>eb m _ _ (H3 _ _)
theorem gV: ∀(m:Nat) (s:H8) (l:List UInt8),tV (m+1) s l=i7 (tV m s l) ((l.drop (64*m)).take 64)
 |0,s,l=>by simp[tV]
 |m+1,s,l=>by
  rw[tV,gV m,tV,List.drop_drop,show 64+64*m=64*(m+1)by omega]
def wK(n:Nat):Nat:=(119-n%64)%64
def oB(n:Nat):List UInt8:=128::(List.replicate (wK n) 0++yg 8 (n*8))
theorem fp(n:Nat):(oB n).length=9+wK n:=by
 unfold oB
 rw[List.length_cons,List.length_append,List.length_replicate,yj];omega
theorem fC(n:Nat):wK n<64:=Nat.mod_lt _ (by omega)
theorem UN(n:Nat):(n+(9+wK n))%64=0:=by unfold wK;omega
def YX(s:H8):List UInt8:=s.list.flatMap (yg 4)
theorem KS(s:H8):(YX s).length=32:=by simp[YX,H8.list,yj]
def vk(l:List UInt8):List UInt8:=YX (tV ((l++oB l.length).length/64) h0Tab (l++oB l.length))
theorem wT(l:List UInt8):(vk l).length=32:=KS _
theorem QF:h0Tab.ok:=by unfold H8.ok;decide
end Go.Proofs.YtkegaaonpekkgaaGreat

namespace Go.Proofs.YtkegaaonpekkgaaGreat.Sx
open Go.RowKit
section
theorem qP{l:List UInt8}{i:Int}{j:Nat}(h:i=j)(hj:j<l.length):((l.map U8).drop (i.toNat*1)).take 1=[U8 (l.getD j 0)]:=by
 rw[xn h hj,List.getD_eq_getElem?_getD,List.getElem?_eq_getElem hj];rfl
abbrev xw(n:Nat):RV:= .i .u32 (n:Int)
theorem ji(n:Nat):((n%4294967296:Nat):Int)=IntKind.u32.wrap (n:Int):=by
 simp only[IntKind.wrap]
 simp[IntKind.bits,IntKind.signed]
theorem Vint.u32{e:Int}{K:Int->Prop}(n:Nat)(he:e=(n:Int))(h:n<4294967296)(hK:K (n:Int)):Vint .u32 e K:=
 ⟨n,by rw[he,<-ji,Nat.mod_eq_of_lt h],hK⟩
theorem Vint.m32{e:Int}{K:Int->Prop}(n:Nat)(he:e=(n:Int))(hK:K ((n%4294967296:Nat):Int)):Vint .u32 e K:=
 ⟨_,by rw[he,ji],hK⟩
theorem Yo{a:Nat}(h:a<4294967296):(BitVec.ofInt 32 (a:Int)).toNat=a:=by rw[BitVec.toNat_ofInt];omega
theorem Vbits.and32{a b:Int}{K:Int->Prop}(x y:Nat)(ha:a=(x:Int))(hb:b=(y:Int))(hx:x<4294967296)(hy:y<4294967296)(hK:K ((x&&&y:Nat):Int)):Vbits .u32 .and a b K:=by
 subst ha;subst hb
 refine⟨_,?_,hK⟩
 show _=IntKind.u32.wrap (((BitVec.ofInt 32 (x:Int)&&&BitVec.ofInt 32 (y:Int)).toNat:Nat):Int)
 rw[BitVec.toNat_and,Yo hx,Yo hy,<-ji,Nat.mod_eq_of_lt (uU hx)]
theorem Vbits.xor32{a b:Int}{K:Int->Prop}(x y:Nat)(ha:a=(x:Int))(hb:b=(y:Int))(hx:x<4294967296)(hy:y<4294967296)(hK:K ((x^^^y:Nat):Int)):Vbits .u32 .xor a b K:=by
 subst ha;subst hb
 refine⟨_,?_,hK⟩
 show _=IntKind.u32.wrap (((BitVec.ofInt 32 (x:Int)^^^BitVec.ofInt 32 (y:Int)).toNat:Nat):Int)
 rw[BitVec.toNat_xor,Yo hx,Yo hy,<-ji,Nat.mod_eq_of_lt (wJ hx hy)]
theorem Vbits.or32{a b:Int}{K:Int->Prop}(x y m:Nat)(ha:a=(x:Int))(hb:b=(y:Int))(hx:x<4294967296)(hy:y<4294967296)(hm:(x|||y)=m)(hK:K (m:Int)):Vbits .u32 .or a b K:=by
 subst ha;subst hb;subst hm
 refine⟨_,?_,hK⟩
 show _=IntKind.u32.wrap (((BitVec.ofInt 32 (x:Int)|||BitVec.ofInt 32 (y:Int)).toNat:Nat):Int)
 rw[BitVec.toNat_or,Yo hx,Yo hy,<-ji,Nat.mod_eq_of_lt (Nat.or_lt_two_pow (n:=32) hx hy)]
theorem not32{e:Nat}(h:e<4294967296):4294967295^^^e=4294967295-e:=by
 apply Nat.eq_of_testBit_eq
 intro i
 rw[Nat.testBit_xor,show 4294967295-e=2^32-(e+1)by omega,Nat.testBit_two_pow_sub_succ h,show(4294967295:Nat)=2^32-(0+1)from rfl,Nat.testBit_two_pow_sub_succ (by decide)]
 by_cases hi:i<32
 ·simp[hi]
 ·have:e.testBit i=false:=Nat.testBit_lt_two_pow (Nat.lt_of_lt_of_le h (Nat.pow_le_pow_right (n:=2) (by omega) (show 32<=i by omega)))
  simp[hi,this]
theorem Vshr.n32{a b:Int}{K:Int->Prop}(x n m:Nat)(ha:a=(x:Int))(hb:b=(n:Int))(hn:n<=32)(hm:x/2^n=m)(hK:K (m:Int)):Vshr .u32 a b K:=by
 subst ha;subst hb;subst hm
 have e:IntKind.u32.bits=32:=rfl
 refine⟨by omega,_,?_,hK⟩
 rw[Int.toNat_natCast,e,Nat.min_eq_left hn,Int.fdiv_eq_ediv_of_nonneg _ (Int.pow_nonneg (by omega))]
 norm_cast
theorem Vshl.n32{a b:Int}{K:Int->Prop}(x n m:Nat)(ha:a=(x:Int))(hb:b=(n:Int))(hn:n<=32)(hm:x*2^n%4294967296=m)(hK:K (m:Int)):Vshl .u32 a b K:=by
 subst ha;subst hb;subst hm
 have e:IntKind.u32.bits=32:=rfl
 refine⟨by omega,_,?_,hK⟩
 rw[Int.toNat_natCast,e,Nat.min_eq_left hn,show(x:Int)*2^n=((x*2^n:Nat):Int)by simp]
 exact ji _
theorem Kr(x n:Nat)(hx:x<4294967296)(hn:1<=n/\n<=31):aG 432 [xw x,I (-(n:Int))] (.r (xw (yX n x))):=by
 refine aT Tryz.func432 rfl ?_
 have e1:(UInt64.ofNat (18446744073709551616-n)).toNat=18446744073709551616-n:=by rw[UInt64.toNat_ofNat'];omega
 refine Vint.n ((UInt64.ofNat (18446744073709551616-n)).toNat:Int) (by rw[e1];simp only[IntKind.wrap];simp[IntKind.bits,IntKind.signed];omega) ?_
 refine Vbits.wand (UInt64.ofNat (18446744073709551616-n)) 31 rfl rfl ?_
 have e2:(UInt64.ofNat (18446744073709551616-n)&&&31).toNat=32-n:=by
  rw[UInt64.toNat_and,e1]
  have:=Nat.and_two_pow_sub_one_eq_mod (18446744073709551616-n) 5
  have e:(31:UInt64).toNat=2^5-1:=rfl
  rw[e,this]
  omega
 rw[e2]
 have hp:=yy n
 have hq:=yy (32-n)
 have e:2^(32-n)*2^n=4294967296:=by rw[<-Nat.pow_add,show 32-n+n=32 by omega]
 have e3:x*2^(32-n)%4294967296=x%2^n*2^(32-n):=by rw[<-e,Nat.mul_comm (2^(32-n)),Nat.mul_mod_mul_right]
 have hd:x/2^n<2^(32-n):=Nat.div_lt_of_lt_mul (by rw[Nat.mul_comm,e];exact hx)
 have e4:x%2^n*2^(32-n)|||x/2^n=yX n x:=by
  rw[nat_join (32-n) _ _ (Nat.mul_mod_left _ _) hd]
  unfold yX;omega
 have hr:=xM hx hn.1 hn.2
 refine Vshl.n32 x (32-n) _ rfl rfl (by omega) e3 ?_
 refine zF n (by omega) (by omega) ?_
 refine Vshr.n32 x n _ rfl rfl (by omega) rfl ?_
 refine Vbits.or32 _ _ (yX n x) rfl rfl (by unfold yX at hr;omega) (by unfold yX at hr;omega) e4 ?_
 exact cr
theorem ue(x n:Nat)(hx:x<4294967296)(hn:1<=n/\n<=31):aG 344 [xw x,I n] (.r (xw (yX n x))):=by
 refine aT Tryz.func344 rfl ?_
 refine zd (m:= -(n:Int)) (by omega) (by omega) ?_
 refine ze (Kr x n hx hn) ?_
 exact cr
abbrev jt(l:List Nat):Ow:= .box ((l.map xw).map .r)
def wZ(b:List UInt8)(t:Nat):List Nat:=wk b t++List.replicate (64-t) 0
theorem Lb(b:List UInt8){t:Nat}(ht:t<=64):(wZ b t).length=64:=by simp[wZ,vt];omega
theorem Lc(b:List UInt8){t:Nat}(ht:t<64):(wZ b t).set t (tD b (wk b t))=wZ b (t+1):=by
 unfold wZ
 rw[List.set_append_right _ _ (by rw[vt];omega),vt,Nat.sub_self,wk,List.append_assoc,show 64-t=(64-(t+1))+1 by omega,List.replicate_succ]
 rfl
theorem Yc(b:List UInt8){t j:Nat}(hj:j<t):(wZ b t).getD j 0=(wk b t).getD j 0:=by
 unfold wZ
 rw[List.getD_eq_getElem?_getD,List.getD_eq_getElem?_getD,List.getElem?_append_left (by rw[vt];exact hj)]
theorem CZ(b:List UInt8):wZ b 64=wk b 64:=by simp[wZ]
def J9(b:List UInt8)(t:Nat):St:={F:=[(0,.r (bs b)),(2,.own 0),(3,.own 1),(10,.r (I t))],O:=[(0,some (jt (List.replicate 64 0))),(1,some (jt (wZ b t)))],nx:=2}
def JA(b:List UInt8)(t:Nat):St:={F:=[(2,.own 0),(3,.own 1),(5,.r (I t))],O:=[(0,some (jt (List.replicate 64 0))),(1,some (jt (wZ b t)))],nx:=2}
theorem RR(b:List UInt8)(t:Nat):vB [(0,0),(1,1)] (J9 b t)=true:=by
 simp only[vB,J9,jt,List.all_cons,List.all_nil,uD,uV]
 rfl
theorem RT(b:List UInt8)(t:Nat):vB [(0,0),(1,1)] (JA b t)=true:=by
 simp only[vB,JA,jt,List.all_cons,List.all_nil,uD,uV]
 rfl
attribute [irreducible] wZ
set_option maxHeartbeats 1000000 in
theorem Pg(b:List UInt8)(hb:b.length=64):aG 342 [bs b] (.r (.ag ((wZ b 64).map xw))):=by
 refine aT Tryz.func342 rfl ?_
 have ez:wZ b 0=List.replicate 64 0:=by unfold wZ;rfl
 refine zy (J9 b) (λt=>t<=16) (λt=>16-t) 0 (by omega) (zX [(0,0),(1,1)] (RR b 0) ⟨cr,rfl,rfl,cr,trivial⟩ ⟨yh ((List.replicate 64 (0:Nat)).map xw),by rw[ez];exact yh ((List.replicate 64 (0:Nat)).map xw),trivial⟩) ?_
 intro t ht
 refine zh (λh=>zp ?_) (λh=>zq ?_)
 ·simp only[zb]at h
  have ht':t<16:=by omega
  have hl:=vt b t
  have hz:=Lb b (show t<=64 by omega)
  have h0:=(b.getD (4*t) 0).toNat_lt
  have h1:=(b.getD (4*t+1) 0).toNat_lt
  have h2:=(b.getD (4*t+2) 0).toNat_lt
  have h3:=(b.getD (4*t+3) 0).toNat_lt
  have hN:tD b (wk b t)=(((b.getD (4*t) 0).toNat*256+(b.getD (4*t+1) 0).toNat)*256+(b.getD (4*t+2) 0).toNat)*256+(b.getD (4*t+3) 0).toNat:=by
   unfold tD;rw[hl,if_pos ht'];rfl
  have hs:=Lc b (show t<64 by omega)
  rw[hN]at hs
  obtain⟨c0,e0⟩: ∃c,(b.getD (4*t) 0).toNat=c:=⟨_,rfl⟩
  obtain⟨c1,e1⟩: ∃c,(b.getD (4*t+1) 0).toNat=c:=⟨_,rfl⟩
  obtain⟨c2,e2⟩: ∃c,(b.getD (4*t+2) 0).toNat=c:=⟨_,rfl⟩
  obtain⟨c3,e3⟩: ∃c,(b.getD (4*t+3) 0).toNat=c:=⟨_,rfl⟩
  rw[e0,e1,e2,e3]at hs
  rw[e0]at h0
  rw[e1]at h1
  rw[e2]at h2
  rw[e3]at h3
  refine aV ?_
  refine zd (m:=((4*t:Nat):Int)) (by omega) (by omega) ?_
  refine zm (by omega) (by omega) (qP (j:=4*t) rfl (by omega)) (zg rfl ?_)
  refine Vint.u32 c0 (congrArg (λn:Nat=>(n:Int)) e0) (by omega) ?_
  refine Vshl.n32 c0 24 (c0*16777216) rfl rfl (by decide) (by omega) ?_
  refine zd (m:=((4*t:Nat):Int)) (by omega) (by omega) ?_
  refine zd (m:=((4*t+1:Nat):Int)) (by omega) (by omega) ?_
  refine zm (by omega) (by omega) (qP (j:=4*t+1) rfl (by omega)) (zg rfl ?_)
  refine Vint.u32 c1 (congrArg (λn:Nat=>(n:Int)) e1) (by omega) ?_
  refine Vshl.n32 c1 16 (c1*65536) rfl rfl (by decide) (by omega) ?_
  refine Vbits.or32 (c0*16777216) (c1*65536) (c0*16777216+c1*65536) rfl rfl (by omega) (by omega) (nat_join 24 _ _ (by omega) (by omega)) ?_
  refine zd (m:=((4*t:Nat):Int)) (by omega) (by omega) ?_
  refine zd (m:=((4*t+2:Nat):Int)) (by omega) (by omega) ?_
  refine zm (by omega) (by omega) (qP (j:=4*t+2) rfl (by omega)) (zg rfl ?_)
  refine Vint.u32 c2 (congrArg (λn:Nat=>(n:Int)) e2) (by omega) ?_
  refine Vshl.n32 c2 8 (c2*256) rfl rfl (by decide) (by omega) ?_
  refine Vbits.or32 (c0*16777216+c1*65536) (c2*256) (c0*16777216+c1*65536+c2*256) rfl rfl (by omega) (by omega) (nat_join 16 _ _ (by omega) (by omega)) ?_
  refine zd (m:=((4*t:Nat):Int)) (by omega) (by omega) ?_
  refine zd (m:=((4*t+3:Nat):Int)) (by omega) (by omega) ?_
  refine zm (by omega) (by omega) (qP (j:=4*t+3) rfl (by omega)) (zg rfl ?_)
  refine Vint.u32 c3 (congrArg (λn:Nat=>(n:Int)) e3) (by omega) ?_
  refine Vbits.or32 (c0*16777216+c1*65536+c2*256) c3 (((c0*256+c1)*256+c2)*256+c3) rfl rfl (by omega) (by omega) (by rw[nat_join 8 _ _ (by omega) (by omega)];omega) ?_
  (conv=>whnf)
  generalize hq:yR _ _ _ _ _=q
  obtain rfl:=hq.symm.trans (xG rfl rfl rfl)
  clear hq
  refine zD t rfl (by omega) ?_
  (conv=>whnf)
  generalize hq:(xk _&&_)=q
  obtain rfl:=hq.symm.trans (Yn (by rw[List.length_map,List.length_map,hz];omega))
  clear hq
  refine Ta (by rw[hz];omega) ?_
  rw[hs]
  refine zd (m:=((t+1:Nat):Int)) (by omega) (by omega) ?_
  exact⟨t+1,by omega,by omega,zX [(0,0),(1,1)] (RR b (t+1)) ⟨cr,rfl,rfl,cr,trivial⟩ ⟨yh ((List.replicate 64 (0:Nat)).map xw),yh ((wZ b (t+1)).map xw),trivial⟩⟩
 ·simp only[zb]at h
  obtain rfl:t=16:=by omega
  refine zy (JA b) (λt=>16<=t/\t<=64) (λt=>64-t) 16 (by omega) (zX [(0,0),(1,1)] (RT b 16) ⟨rfl,rfl,cr,trivial⟩ ⟨yh ((List.replicate 64 (0:Nat)).map xw),yh ((wZ b 16).map xw),trivial⟩) ?_
  rintro t ⟨h16,ht⟩
  have hz:=Lb b ht
  refine zh (λh=>zp ?_) (λh=>zq ?_)
  ·simp only[zb]at h
   have ht':t<64:=by omega
   have hs:=Lc b ht'
   have hN:tD b (wk b t)=(lB ((wk b t).getD (t-2) 0)+(wk b t).getD (t-7) 0+iJ ((wk b t).getD (t-15) 0)+(wk b t).getD (t-16) 0)%4294967296:=by
    unfold tD;rw[vt,if_neg (by omega)]
   rw[hN]at hs
   have g15:=Yc b (t:=t) (j:=t-15) (by omega)
   have g2:=Yc b (t:=t) (j:=t-2) (by omega)
   have g7:=Yc b (t:=t) (j:=t-7) (by omega)
   have g16:=Yc b (t:=t) (j:=t-16) (by omega)
   have l15:=rA b t (t-15)
   have l2:=rA b t (t-2)
   have l7:=rA b t (t-7)
   have l16:=rA b t (t-16)
   generalize (wk b t).getD (t-15) 0=x at*
   generalize (wk b t).getD (t-2) 0=y at*
   generalize (wk b t).getD (t-7) 0=p at*
   generalize (wk b t).getD (t-16) 0=q at*
   refine aV ?_
   refine zd (m:=((t-15:Nat):Int)) (by omega) (by omega) ?_
   (conv=>whnf)
   generalize hq:yR _ _ _ _ _=q
   obtain rfl:=hq.symm.trans (xG rfl rfl rfl)
   clear hq
   refine zD (t-15) rfl (by omega) ?_
   (conv=>whnf)
   generalize hq:yR _ _ _ _ _=q
   obtain rfl:=hq.symm.trans (xG rfl rfl rfl)
   clear hq
   (conv=>whnf)
   generalize hq:yp _ _=q
   obtain rfl:=hq.symm.trans (jF xw 0 (l:=wZ b t) (j:=t-15) (by rw[hz];omega))
   clear hq
   rw[g15]
   refine zd (m:=((t-2:Nat):Int)) (by omega) (by omega) ?_
   (conv=>whnf)
   generalize hq:yR _ _ _ _ _=q
   obtain rfl:=hq.symm.trans (xG rfl rfl rfl)
   clear hq
   refine zD (t-2) rfl (by omega) ?_
   (conv=>whnf)
   generalize hq:yR _ _ _ _ _=q
   obtain rfl:=hq.symm.trans (xG rfl rfl rfl)
   clear hq
   (conv=>whnf)
   generalize hq:yp _ _=q
   obtain rfl:=hq.symm.trans (jF xw 0 (l:=wZ b t) (j:=t-2) (by rw[hz];omega))
   clear hq
   rw[g2]
   have r7:=xM (n:=7) l15 (by decide) (by decide)
   have r18:=xM (n:=18) l15 (by decide) (by decide)
   have r17:=xM (n:=17) l2 (by decide) (by decide)
   have r19:=xM (n:=19) l2 (by decide) (by decide)
   refine ze (ue x 7 l15 (by decide)) ?_
   refine ze (ue x 18 l15 (by decide)) ?_
   refine Vbits.xor32 _ _ rfl rfl r7 r18 ?_
   refine Vshr.n32 x 3 (x/8) rfl rfl (by decide) rfl ?_
   refine Vbits.xor32 _ _ rfl rfl (wJ r7 r18) (by omega) ?_
   refine ze (ue y 17 l2 (by decide)) ?_
   refine ze (ue y 19 l2 (by decide)) ?_
   refine Vbits.xor32 _ _ rfl rfl r17 r19 ?_
   refine Vshr.n32 y 10 (y/1024) rfl rfl (by decide) rfl ?_
   refine Vbits.xor32 _ _ rfl rfl (wJ r17 r19) (by omega) ?_
   refine aV ?_
   refine zd (m:=((t-7:Nat):Int)) (by omega) (by omega) ?_
   (conv=>whnf)
   generalize hq:yR _ _ _ _ _=q
   obtain rfl:=hq.symm.trans (xG rfl rfl rfl)
   clear hq
   refine zD (t-7) rfl (by omega) ?_
   (conv=>whnf)
   generalize hq:yR _ _ _ _ _=q
   obtain rfl:=hq.symm.trans (xG rfl rfl rfl)
   clear hq
   (conv=>whnf)
   generalize hq:yp _ _=q
   obtain rfl:=hq.symm.trans (jF xw 0 (l:=wZ b t) (j:=t-7) (by rw[hz];omega))
   clear hq
   rw[g7]
   refine Vint.m32 (lB y+p) rfl ?_
   refine Vint.m32 ((lB y+p)%4294967296+iJ x) rfl ?_
   refine zd (m:=((t-16:Nat):Int)) (by omega) (by omega) ?_
   (conv=>whnf)
   generalize hq:yR _ _ _ _ _=q
   obtain rfl:=hq.symm.trans (xG rfl rfl rfl)
   clear hq
   refine zD (t-16) rfl (by omega) ?_
   (conv=>whnf)
   generalize hq:yR _ _ _ _ _=q
   obtain rfl:=hq.symm.trans (xG rfl rfl rfl)
   clear hq
   (conv=>whnf)
   generalize hq:yp _ _=q
   obtain rfl:=hq.symm.trans (jF xw 0 (l:=wZ b t) (j:=t-16) (by rw[hz];omega))
   clear hq
   rw[g16]
   refine Vint.m32 (((lB y+p)%4294967296+iJ x)%4294967296+q) rfl ?_
   rw[show(((lB y+p)%4294967296+iJ x)%4294967296+q)%4294967296=(lB y+p+iJ x+q)%4294967296 by omega]
   (conv=>whnf)
   generalize hq:yR _ _ _ _ _=q
   obtain rfl:=hq.symm.trans (xG rfl rfl rfl)
   clear hq
   refine zD t rfl (by omega) ?_
   (conv=>whnf)
   generalize hq:(xk _&&_)=q
   obtain rfl:=hq.symm.trans (Yn (by rw[List.length_map,List.length_map,hz];omega))
   clear hq
   refine Ta (by rw[hz];omega) ?_
   rw[hs]
   refine zd (m:=((t+1:Nat):Int)) (by omega) (by omega) ?_
   exact⟨t+1,by omega,by omega,zX [(0,0),(1,1)] (RT b (t+1)) ⟨rfl,rfl,cr,trivial⟩ ⟨yh ((List.replicate 64 (0:Nat)).map xw),yh ((wZ b (t+1)).map xw),trivial⟩⟩
  ·simp only[zb]at h
   obtain rfl:t=64:=by omega
   refine za (l:=((wZ b 64).map xw).map TF.r) (List.take_of_length_le (by simp[hz])) (by simp[hz]) ?_
   (conv=>whnf)
   generalize hq:St.rvs _ _=q
   obtain rfl:=hq.symm.trans (pO _ _)
   clear hq
   (conv=>whnf)
   generalize hq:(xk _&&_)=q
   obtain rfl:=hq.symm.trans (nj (l:=(wZ b 64).map xw) 64 (by rw[List.length_map,hz]) rfl)
   clear hq
   refine tA (by rw[List.length_map,List.length_map,List.length_map,hz];rfl) ?_
   refine za (l:=((wZ b 64).map xw).map TF.r) (List.take_of_length_le (by simp[hz])) (by simp[hz]) ?_
   (conv=>whnf)
   generalize hq:St.rvs _ _=q
   obtain rfl:=hq.symm.trans (pO _ _)
   clear hq
   exact cr
theorem NS(b:List UInt8)(hb:b.length=64):aG 342 [bs b] (.r (.ag ((wk b 64).map xw))):=by
 rw[<-CZ];exact Pg b hb
end
set_option maxRecDepth 100000 in
set_option maxHeartbeats 1000000 in
theorem QG:aG 343 [] (.r (.ag (kTab.map xw))):=by
 refine aT Tryz.func343 rfl ?_
 repeat' ((conv=>whnf);first|refine za rfl rfl ?_)
 exact zf (by kernel_rfl)
abbrev vH(s:H8):List RV:=[xw s.a,xw s.b,xw s.c,xw s.d,xw s.e,xw s.f,xw s.g,xw s.h]
abbrev bH(s:H8):Ow:= .box [.r (xw s.a),.r (xw s.b),.r (xw s.c),.r (xw s.d),.r (xw s.e),.r (xw s.f),.r (xw s.g),.r (xw s.h)]
theorem Ng:aG 236 [] (.r (.ag (vH h0Tab))):=by
 refine aT Tryz.func236 rfl ?_
 repeat' ((conv=>whnf);first|refine za rfl rfl ?_)
 exact cr
theorem Vint.add32{a b:Int}{K:Int->Prop}(x y:Nat)(ha:a=(x:Int))(hb:b=(y:Int))(hK:K (((x+y)%4294967296:Nat):Int)):Vint .u32 (a+b) K:=Vint.m32 (x+y) (by rw[ha,hb];rfl) hK
theorem Vbits.not32{a:Int}{K:Int->Prop}(x:Nat)(ha:a=(x:Int))(hx:x<4294967296)(hK:K ((4294967295-x:Nat):Int)):Vbits .u32 .xor 4294967295 a K:=Vbits.xor32 4294967295 x rfl ha (by decide) hx (by rw[Sx.not32 hx];exact hK)
def Jp(v:Value)(s:H8)(k w:List Nat)(x:H8)(j:Nat):St:={F:=[(0,.own 0),(4,.own 1),(5,.own 2),(6,.own 3),(19,.r (I j)),(1000000,.nm 0 v)],O:=[(0,some (bH s)),(1,some (jt w)),(2,some (jt k)),(3,some (bH x))],nx:=4}
theorem RL(v:Value)(s:H8)(k w:List Nat)(x:H8)(j:Nat):vB [(0,0),(1,1),(2,2),(3,3)] (Jp v s k w x j)=true:=by
 simp only[vB,Jp,jt,List.all_cons,List.all_nil,uD,uV]
 rfl
set_option maxHeartbeats 4000000 in
theorem Ua(v:Value)(s:H8)(b:List UInt8)(hs:s.ok)(hb:b.length=64):yz Tryz.prog 239 1 [(0,(bH s))] [.own 0,.r (bs b)] [(0,v)] 1 [(0,(bH (i7 s b)))] (.r (.tu [])):=by
 refine yk (T:=Tab) mixed Tab_ok Tryz.func239 rfl (by kernel_rfl) rfl ⟨⟨_,_,rfl,rfl,ym,ym⟩,trivial⟩ ?_
 have hw:=NS b hb
 have hk:=QG
 have lw:=vt b 64
 have bw:=rA b 64
 have lk:kTab.length=64:=rfl
 have bk:=Rp
 obtain⟨X,hX0,hXs,hXok,hXe⟩: ∃X:Nat->H8,X 0=s/\(∀j,X (j+1)=Tl (kTab.getD j 0) ((wk b 64).getD j 0) (X j))/\(∀j,(X j).ok)/\i7 s b=Vc s (X 64):=⟨pK b s,rfl,λ_=>rfl,iq hs,rfl⟩
 rw[hXe]
 generalize wk b 64=w at*
 generalize kTab=k at*
 refine ze hw ?_
 refine ze hk ?_
 (conv=>whnf)
 generalize hq:(xk _&&_)=q
 obtain rfl:=hq.symm.trans (nj (l:=w.map xw) 64 (by rw[List.length_map,lw]) rfl)
 clear hq
 refine tA (by rw[List.length_map,List.length_map,lw];rfl) ?_
 (conv=>whnf)
 generalize hq:(xk _&&_)=q
 obtain rfl:=hq.symm.trans (nj (l:=k.map xw) 64 (by rw[List.length_map,lk]) rfl)
 clear hq
 refine tA (by rw[List.length_map,List.length_map,lk];rfl) ?_
 refine za rfl rfl ?_
 refine zy (λj=>Jp v s k w (X j) j) (λj=>j<=64) (λj=>64-j) 0 (by omega) (zX [(0,0),(1,1),(2,2),(3,3)] (RL v s k w (X 0) 0) ⟨rfl,rfl,rfl,rfl,cr,⟨rfl,rfl⟩,trivial⟩ ⟨(aD aZ),yh (w.map xw),yh (k.map xw),by rw[hX0];exact⟨_,_,rfl,cr,_,_,rfl,cr,_,_,rfl,cr,_,_,rfl,cr,_,_,rfl,cr,_,_,rfl,cr,_,_,rfl,cr,_,_,rfl,cr,rfl⟩,trivial⟩) ?_
 intro j hj
 refine zh (λh=>zp ?_) (λh=>zq ?_)
 ·simp only[zb]at h
  have hj':j<64:=by omega
  have hx1:=hXs j
  obtain⟨oa,ob,oc,od,oe,of,og,oh⟩:=hXok j
  have bwj:=bw j
  have bkj:=bk j
  generalize hX:X j=x at*
  generalize hwj:w.getD j 0=wj at*
  generalize hkj:k.getD j 0=kj at*
  refine aV ?_
  refine zH (by decide) ?_
  refine zH (by decide) ?_
  have r6:=xM (n:=6) oe (by decide) (by decide)
  have r11:=xM (n:=11) oe (by decide) (by decide)
  have r25:=xM (n:=25) oe (by decide) (by decide)
  have r2:=xM (n:=2) oa (by decide) (by decide)
  have r13:=xM (n:=13) oa (by decide) (by decide)
  have r22:=xM (n:=22) oa (by decide) (by decide)
  refine aV ?_
  refine zH (by decide) ?_
  refine ze (ue _ 6 oe (by decide)) ?_
  refine ze (ue _ 11 oe (by decide)) ?_
  refine Vbits.xor32 _ _ rfl rfl r6 r11 ?_
  refine ze (ue _ 25 oe (by decide)) ?_
  refine Vbits.xor32 _ _ rfl rfl (wJ r6 r11) r25 ?_
  refine Vint.add32 x.h (ai x.e) rfl rfl ?_
  refine zH (by decide) ?_
  refine Vbits.and32 _ _ rfl rfl oe of ?_
  refine Vbits.not32 x.e rfl oe ?_
  refine zH (by decide) ?_
  refine Vbits.and32 _ _ rfl rfl (by omega) og ?_
  refine Vbits.xor32 _ _ rfl rfl (uU oe) (uU (by omega)) ?_
  refine Vint.add32 _ (rj x.e x.f x.g) rfl rfl ?_
  (conv=>whnf)
  generalize hq:yR _ _ _ _ _=q
  obtain rfl:=hq.symm.trans (xG rfl rfl rfl)
  clear hq
  refine zD j rfl (by omega) ?_
  (conv=>whnf)
  generalize hq:yR _ _ _ _ _=q
  obtain rfl:=hq.symm.trans (xG rfl rfl rfl)
  clear hq
  (conv=>whnf)
  generalize hq:yp _ _=q
  obtain rfl:=hq.symm.trans (jF xw 0 (l:=k) (j:=j) (by rw[lk];omega))
  clear hq
  rw[show k.getD j 0=kj from hkj]
  refine Vint.add32 _ kj rfl rfl ?_
  (conv=>whnf)
  generalize hq:yR _ _ _ _ _=q
  obtain rfl:=hq.symm.trans (xG rfl rfl rfl)
  clear hq
  refine zD j rfl (by omega) ?_
  (conv=>whnf)
  generalize hq:yR _ _ _ _ _=q
  obtain rfl:=hq.symm.trans (xG rfl rfl rfl)
  clear hq
  (conv=>whnf)
  generalize hq:yp _ _=q
  obtain rfl:=hq.symm.trans (jF xw 0 (l:=w) (j:=j) (by rw[lw];omega))
  clear hq
  rw[show w.getD j 0=wj from hwj]
  refine Vint.add32 _ wj rfl rfl ?_
  refine aV ?_
  refine ze (ue _ 2 oa (by decide)) ?_
  refine ze (ue _ 13 oa (by decide)) ?_
  refine Vbits.xor32 _ _ rfl rfl r2 r13 ?_
  refine ze (ue _ 22 oa (by decide)) ?_
  refine Vbits.xor32 _ _ rfl rfl (wJ r2 r13) r22 ?_
  refine zH (by decide) ?_
  refine Vbits.and32 _ _ rfl rfl oa ob ?_
  refine zH (by decide) ?_
  refine Vbits.and32 _ _ rfl rfl oa oc ?_
  refine Vbits.xor32 _ _ rfl rfl (uU oa) (uU oa) ?_
  refine zH (by decide) ?_
  refine zH (by decide) ?_
  refine Vbits.and32 _ _ rfl rfl ob oc ?_
  refine Vbits.xor32 _ _ rfl rfl (wJ (uU oa) (uU oa)) (uU ob) ?_
  refine Vint.add32 (O6 x.a) (tR x.a x.b x.c) rfl rfl ?_
  refine aV ?_
  refine Vcutn.mk' 1 7 rfl rfl (by decide) (by decide) ?_
  refine Vcutn.mk' 0 7 rfl rfl (by decide) (by decide) ?_
  refine Vstep.copyBox (n:=7) (m:=7) (ys:=[xw x.a,xw x.b,xw x.c,xw x.d,xw x.e,xw x.f,xw x.g]) (zs:=[.r (xw x.a),.r (xw x.a),.r (xw x.b),.r (xw x.c),.r (xw x.d),.r (xw x.e),.r (xw x.f),.r (xw x.g)]) Tab_ok rfl rfl rfl rfl rfl rfl rfl (by show 1*1+7<=8;decide) rfl (.inr ⟨0,rfl,by show 0+7<=8;decide,rfl⟩) rfl ?_
  refine zH (by decide) ?_
  refine Vint.add32 x.d _ rfl rfl ?_
  refine zH (by decide) ?_
  refine Vint.add32 _ _ rfl rfl ?_
  refine zH (by decide) ?_
  refine zd (m:=((j+1:Nat):Int)) (by omega) (by omega) ?_
  have ea:((((((x.h+ai x.e)%4294967296+rj x.e x.f x.g)%4294967296+kj)%4294967296+wj)%4294967296)+(O6 x.a+tR x.a x.b x.c)%4294967296)%4294967296=(T1 kj wj x+Hv x)%4294967296:=by unfold T1 Hv;omega
  have ee:(x.d+((((x.h+ai x.e)%4294967296+rj x.e x.f x.g)%4294967296+kj)%4294967296+wj)%4294967296)%4294967296=(x.d+T1 kj wj x)%4294967296:=by unfold T1;omega
  rw[ea,ee]
  exact⟨j+1,by omega,by omega,zX [(0,0),(1,1),(2,2),(3,3)] (RL v s k w (X (j+1)) (j+1)) ⟨rfl,rfl,rfl,rfl,cr,⟨rfl,rfl⟩,trivial⟩ ⟨(aD aZ),yh (w.map xw),yh (k.map xw),by rw[hx1];exact⟨_,_,rfl,cr,_,_,rfl,cr,_,_,rfl,cr,_,_,rfl,cr,_,_,rfl,cr,_,_,rfl,cr,_,_,rfl,cr,_,_,rfl,cr,rfl⟩,trivial⟩⟩
 ·simp only[zb]at h
  obtain rfl:j=64:=by omega
  generalize X 64=x
  refine zE 9 ?_
  repeat' ((conv=>whnf);first|refine zC mixed Tab_ok ?_|refine zt rfl (zp ?_)|refine zu rfl (zq ?_)|refine zH (by decide) ?_|refine Vint.any (k:= .i64) ?_|refine Vint.add32 _ _ rfl rfl ?_|refine za rfl rfl ?_|refine aV ?_)
  exact yr (.inr rfl) [(0,0)] [] [] rfl ⟨⟨rfl,rfl⟩,trivial⟩ ⟨(aD aZ),trivial⟩ ⟨⟨1000000,rfl⟩,trivial⟩ ⟨_,rfl,cr⟩
section
variable {P:Program} {T:TT} {S:St} {o:Oper}
theorem Vcode.scope2(hm:P.follows .mixedOrders=true)(hT:TOk P T){c1 c2 body:Code}{Q:Exit->St->Prop}(l:Nat){ι:Type}(inv:ι->St)(R:ι->Prop)(μ:ι->Nat)
  (hf:findLabel (.seq c1 (.seq c2 (.seq (.label l) body))) l=some (.seq .skip body))
  (first:vO P T c1 S (λe S'=>e= .normal/\vO P T c2 S' (λe S''=>e= .normal/\∃i,R i/\Sub S'' (inv i))))
  (pass: ∀i,R i->vO P T body (inv i) (om l (λS'=>∃i',R i'/\μ i'<μ i/\Sub S' (inv i')) Q)):Vcode P (.scope (.seq c1 (.seq c2 (.seq (.label l) body)))) S Q:=by
 refine⟨λB N a w k Q' hs hd hQ=>?_⟩
 have hd0:xf N (.seq c1 (.seq c2 (.seq (.label l) body)))=true:=by simpa only[xf]using hd
 have hd1:=hd0
 simp only[xf,Bool.and_eq_true,true_and]at hd1
 let J:Nat->Act->World->Prop:=λn a w=>∃i k,R i/\μ i=n/\yK B N (inv i) a w k
 refine wp_scope_jumps l (λa w=>∃n,J n a w) (λa w=>leastOf (λn=>J n a w)) hf ?_ ?_
 ·refine wp_seq (yP hm hT c1 S _ first B N a w k _ hs hd1.1 λe S1 a1 w1 k1 hq1 hs1=>?_)
  obtain⟨rfl,hq1⟩:=hq1
  refine wp_seq (yP hm hT c2 S1 _ hq1 B N a1 w1 k1 _ hs1 hd1.2.1 λe S2 a2 w2 k2 hq2 hs2=>?_)
  obtain⟨rfl,i,hR,hsub⟩:=hq2
  obtain⟨k3,hs3⟩:=hsub B N a2 w2 k2 hs2
  refine wp_seq (wp_label ?_)
  refine yP hm hT body (inv i) _ (pass i hR) B N a2 w2 k3 _ hs3 hd1.2.2 λe S' a' w' k' hq hs'=>?_
  cases e with
  |goto l'=>
   simp only[om]at hq
   split at hq
   ·rename_i hb
    obtain⟨i',hR',_,hsub⟩:=hq
    obtain⟨k2,hs2⟩:=hsub B N a' w' k' hs'
    exact⟨Nat.eq_of_beq_eq_true hb,μ i',i',k2,hR',rfl,hs2⟩
   ·exact hq.elim
  |_=>exact hQ _ S' a' w' k' hq hs'
 ·intro a1 w1 hJ
  obtain⟨i,k1,hR,hμ,hs1⟩:=(leastOf_spec hJ).1
  refine wp_seq (wp_skip ?_)
  refine yP hm hT body (inv i) _ (pass i hR) B N a1 w1 k1 _ hs1 hd1.2.2 λe S' a' w' k' hq hs'=>?_
  cases e with
  |goto l'=>
   simp only[om]at hq
   split at hq
   ·rename_i hb
    obtain⟨i',hR',hlt,hsub⟩:=hq
    obtain⟨k2,hs2⟩:=hsub B N a' w' k' hs'
    have hJ':J (μ i') a' w':=⟨i',k2,hR',rfl,hs2⟩
    refine⟨Nat.eq_of_beq_eq_true hb,⟨μ i',hJ'⟩,?_⟩
    exact Nat.lt_of_le_of_lt ((leastOf_spec ⟨_,hJ'⟩).2 _ hJ') (by rw[<-hμ];exact hlt)
   ·exact hq.elim
  |_=>exact hQ _ S' a' w' k' hq hs'
theorem Vcode.scope3(hm:P.follows .mixedOrders=true)(hT:TOk P T){c1 c2 c3 body:Code}{Q:Exit->St->Prop}(l:Nat){ι:Type}(inv:ι->St)(R:ι->Prop)(μ:ι->Nat)
  (hf:findLabel (.seq c1 (.seq c2 (.seq c3 (.seq (.label l) body)))) l=some (.seq .skip body))
  (first:vO P T c1 S (λe S'=>e= .normal/\vO P T c2 S' (λe S2=>e= .normal/\vO P T c3 S2 (λe S''=>e= .normal/\∃i,R i/\Sub S'' (inv i)))))
  (pass: ∀i,R i->vO P T body (inv i) (om l (λS'=>∃i',R i'/\μ i'<μ i/\Sub S' (inv i')) Q)):Vcode P (.scope (.seq c1 (.seq c2 (.seq c3 (.seq (.label l) body))))) S Q:=by
 refine⟨λB N a w k Q' hs hd hQ=>?_⟩
 have hd0:xf N (.seq c1 (.seq c2 (.seq c3 (.seq (.label l) body))))=true:=by simpa only[xf]using hd
 have hd1:=hd0
 simp only[xf,Bool.and_eq_true,true_and]at hd1
 let J:Nat->Act->World->Prop:=λn a w=>∃i k,R i/\μ i=n/\yK B N (inv i) a w k
 refine wp_scope_jumps l (λa w=>∃n,J n a w) (λa w=>leastOf (λn=>J n a w)) hf ?_ ?_
 ·refine wp_seq (yP hm hT c1 S _ first B N a w k _ hs hd1.1 λe S1 a1 w1 k1 hq1 hs1=>?_)
  obtain⟨rfl,hq1⟩:=hq1
  refine wp_seq (yP hm hT c2 S1 _ hq1 B N a1 w1 k1 _ hs1 hd1.2.1 λe S2 a2 w2 k2 hq2 hs2=>?_)
  obtain⟨rfl,hq2⟩:=hq2
  refine wp_seq (yP hm hT c3 S2 _ hq2 B N a2 w2 k2 _ hs2 hd1.2.2.1 λe S2 a2 w2 k2 hq2 hs2=>?_)
  obtain⟨rfl,i,hR,hsub⟩:=hq2
  obtain⟨k3,hs3⟩:=hsub B N a2 w2 k2 hs2
  refine wp_seq (wp_label ?_)
  refine yP hm hT body (inv i) _ (pass i hR) B N a2 w2 k3 _ hs3 hd1.2.2.2 λe S' a' w' k' hq hs'=>?_
  cases e with
  |goto l'=>
   simp only[om]at hq
   split at hq
   ·rename_i hb
    obtain⟨i',hR',_,hsub⟩:=hq
    obtain⟨k2,hs2⟩:=hsub B N a' w' k' hs'
    exact⟨Nat.eq_of_beq_eq_true hb,μ i',i',k2,hR',rfl,hs2⟩
   ·exact hq.elim
  |_=>exact hQ _ S' a' w' k' hq hs'
 ·intro a1 w1 hJ
  obtain⟨i,k1,hR,hμ,hs1⟩:=(leastOf_spec hJ).1
  refine wp_seq (wp_skip ?_)
  refine yP hm hT body (inv i) _ (pass i hR) B N a1 w1 k1 _ hs1 hd1.2.2.2 λe S' a' w' k' hq hs'=>?_
  cases e with
  |goto l'=>
   simp only[om]at hq
   split at hq
   ·rename_i hb
    obtain⟨i',hR',hlt,hsub⟩:=hq
    obtain⟨k2,hs2⟩:=hsub B N a' w' k' hs'
    have hJ':J (μ i') a' w':=⟨i',k2,hR',rfl,hs2⟩
    refine⟨Nat.eq_of_beq_eq_true hb,⟨μ i',hJ'⟩,?_⟩
    exact Nat.lt_of_le_of_lt ((leastOf_spec ⟨_,hJ'⟩).2 _ hJ') (by rw[<-hμ];exact hlt)
   ·exact hq.elim
  |_=>exact hQ _ S' a' w' k' hq hs'
theorem Vstep.boxPub{t e:TypeId}{ti te:TI}{x:Operand}{id n:Nat}{vs:List RV}{K:St->Prop}(hT:TOk P T)(hop:o.op= .slice t x none none none)(hti:yL T t=some ti)(hk:ti.k= .array n e)(hte:yL T e=some te)(hsz:te.sz=1)
  (hx:yv S x=some (.own id)) (ho:ye S.O id=some (.box (vs.map .r))) (hn:vs.length=n) (h0:0<n) (hn2:n<=1000000000) (hK:yI (S.set id none) o.dst (.r (.sl 1 n vs)) none K):Vstep P S o K:=by
 rw[yJ]at hK
 refine zI (λB N a w k Q ⟨g,hs⟩ hd=>?_) hK
 obtain⟨q,hq⟩:=hT.get hti
 obtain⟨d,hdd,hko,_⟩:=q.desc
 rw[hq]at hdd
 rw[hk]at hko
 simp only[u5]at hko
 subst hko
 obtain⟨qe,hqe⟩:=hT.get hte
 have hsize:=xq (w:=w) qe hqe
 have hxv:=(yi hs hx).2
 simp only[TF.at_]at hxv
 obtain⟨b,k',hg,hle,hb,hc,h⟩:=hs.pub ho
 have hrun:=mC (P:=P) (w:=w) (b:=b) (lo:=0) (hi:=(n:Int)) (vl:=none) (vh:=none) hdd hsize (Int.le_refl _) (by omega) (by omega) (by omega) (.inl ⟨rfl,rfl⟩) (.inl ⟨rfl,rfl⟩)
 simp only[Int.toNat_zero,Nat.zero_mul,Nat.add_zero,Nat.sub_zero,Int.toNat_natCast]at hrun
 have hev:a.eval x= .pointer (some ⟨b,0,none⟩):=by rw[hxv,hg]
 refine yG (v:= .slice (some ⟨b,0,none⟩) n n) (w':=w) (by simp[execOp,hop,hev,hrun]) ⟨k',g,h.put hd trivial ?_⟩
 simp only[TF.at_,RV.at_]
 exact⟨_,n,rfl,Nat.le_refl _,by simp only[maxLen];omega,by rw[Nat.mul_one];exact hn,λ_=>⟨b,0,rfl,hb,hc⟩⟩
theorem Vstep.boxCh{t e:TypeId}{ti te:TI}{x:Operand}{id n:Nat}{vs:List RV}{K:St->Prop}(hT:TOk P T)(hop:o.op= .slice t x none none none)(hti:yL T t=some ti)(hk:ti.k= .array n e)(hte:yL T e=some te)(hsz:te.sz=1)
  (hx:yv S x=some (.own id)) (ho:ye S.O id=some (.box (vs.map .r))) (hn:vs.length=n) (h0:0<n) (hn2:n<=1000000000) (hK:yI (S.set id none) o.dst (.own S.nx) (some (.ch e te.sz n vs true)) K):Vstep P S o K:=by
 rw[yJ]at hK
 refine zI (λB N a w k Q ⟨g,hs⟩ hd=>?_) hK
 obtain⟨q,hq⟩:=hT.get hti
 obtain⟨d,hdd,hko,_⟩:=q.desc
 rw[hq]at hdd
 rw[hk]at hko
 simp only[u5]at hko
 subst hko
 obtain⟨qe,hqe⟩:=hT.get hte
 have hsize:=xq (w:=w) qe hqe
 have hxv:=(yi hs hx).2
 simp only[TF.at_]at hxv
 obtain⟨b,k',hg,hle,hb,hc,h⟩:=hs.pub ho
 have hrun:=mC (P:=P) (w:=w) (b:=b) (lo:=0) (hi:=(n:Int)) (vl:=none) (vh:=none) hdd hsize (Int.le_refl _) (by omega) (by omega) (by omega) (.inl ⟨rfl,rfl⟩) (.inl ⟨rfl,rfl⟩)
 simp only[Int.toNat_zero,Nat.zero_mul,Nat.add_zero,Nat.sub_zero,Int.toNat_natCast]at hrun
 have hev:a.eval x= .pointer (some ⟨b,0,none⟩):=by rw[hxv,hg]
 refine yG (v:= .slice (some ⟨b,0,none⟩) n n) (w':=w) (by simp[execOp,hop,hev,hrun]) ⟨k',_,h.adopt (dst:=o.dst) hd (o:= .ch e te.sz n vs true) (vb:=(.slice (some ⟨b,0,none⟩) n n,none)) trivial ⟨by rw[hsz,Nat.mul_one];exact hn,.inl ⟨rfl,.inr ⟨h0,rfl,b,0,rfl,by simp only[maxLen];omega,hb,hc⟩⟩⟩ (λb hb=>by cases hb) (λi o' b _ hb=>by cases hb)⟩
end
end Go.Proofs.YtkegaaonpekkgaaGreat.Sx
