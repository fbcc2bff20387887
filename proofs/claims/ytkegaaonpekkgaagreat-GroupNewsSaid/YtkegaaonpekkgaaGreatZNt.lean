import Derived.Test.YtkegaaonpekkgaaGreatZSxBx
import Derived.Test.YtkegaaonpekkgaaGreatZBytes
import Derived.Test.YtkegaaonpekkgaaGreatZKd
import Derived.Test.YtkegaaonpekkgaaGreatZSxY
namespace Go.Proofs.YtkegaaonpekkgaaGreat.Sx
open Go.RowKit
theorem zlt{α:Type}(f:α->RV)(d:α){l:List α}{j:Nat}(h:j<l.length):lget ((l.map f).map TF.r) (j*1)=some (TF.r (f (l.getD j d))):=by
 rw[zat,Nat.mul_one,List.getElem?_map,List.getElem?_map,List.getElem?_eq_getElem h,List.getD_eq_getElem?_getD,List.getElem?_eq_getElem h]
 rfl
theorem zy9{α:Type}{f:α->RV}{l:List α}{j:Nat}{x:α}{K:List TF->Prop}(h:j<l.length)(hK:K (((l.set j x).map f).map TF.r)):putK ((l.map f).map TF.r) (j*1) [TF.r (f x)] K:=by
 rw[Nat.mul_one,zej _ _ _ _ (by simp;omega)]
 have e:((l.map f).map TF.r).take j++[TF.r (f x)]++((l.map f).map TF.r).drop (j+1)=((l.set j x).map f).map TF.r:=by
  rw[List.set_eq_take_append_cons_drop,if_pos h]
  simp[List.map_take,List.map_drop]
 simp only[List.length_cons,List.length_nil,Nat.zero_add]
 rw[e]
 exact hK
theorem zg4(S:St): ∀l:List RV,S.rvs (l.map .r)=some l
 |[]=>rfl
 |x::r=>by simp only[List.map_cons,St.rvs,zg4 S r,St.rv]
theorem zt3: ∀l:List RV,(l.map TF.r).flatMap zaj=[]
 |[]=>rfl
 |x::r=>by rw[List.map_cons,List.flatMap_cons,zt3 r];rfl
theorem zbf{S:St}{o:Oper}{n0:Nat}{cr:List (Nat×Nat)}{w:List Nat}{id:Nat}{l:List RV}(h:ids1 S o=[id])(ho:oget S.O id=some (.box (l.map .r)))(hn:Nat.blt id n0=true):za0 S o n0 cr w=true:=by
 have e:zav S o=[id]:=by
  rw[zav,h,ids2,List.flatMap_cons,ho,List.flatMap_nil]
  simp only[zt3,List.append_nil]
 rw[za0,e]
 simp only[allB,hn,Bool.and_true]
theorem zss{k:IntKind}{x:Int}{c:List TF}{j:Nat}(h:j<c.length):(za8 (.i k x)&&(Nat.beq (cellsOf (.i k x)).length 1&&Nat.ble (j*1+1) c.length))=true:=by
 have e:Nat.ble (j*1+1) c.length=true:=by
  rw[Nat.ble_eq]
  omega
 rw[e]
 rfl
theorem zh0{l:List RV}{cells:List TF}(n:Nat)(hl:l.length=n)(hc:cells.length=n):(za8 (.ag l)&&(Nat.beq (cellsOf (.ag l)).length n&&Nat.ble (0+n) cells.length))=true:=by
 have e1:(cellsOf (.ag l)).length=n:=hl
 have e2:za8 (.ag l)=true:=rfl
 rw[e1,e2,hc,Nat.zero_add,Nat.ble_eq.mpr (Nat.le_refl _)]
 simp
theorem zeb{l:List RV}{cells:List TF}{K:List TF->Prop}(h:cells.length=l.length)(hK:K (l.map .r)):putK cells 0 ((cellsOf (.ag l)).map .r) K:=by
 have e:cellsOf (.ag l)=l:=rfl
 rw[zej _ _ _ _ (by rw[e,List.length_map];omega),e,List.take_zero,List.nil_append,List.drop_eq_nil_of_le (by rw[List.length_map];omega),List.append_nil]
 exact hK
end Go.Proofs.YtkegaaonpekkgaaGreat.Sx

namespace Go.Proofs.YtkegaaonpekkgaaGreat
def rotr(n x:Nat):Nat:=x/2^n+x%2^n*2^(32-n)
def chN(e f g:Nat):Nat:=(e&&&f)^^^((4294967295-e)&&&g)
def majN(a b c:Nat):Nat:=((a&&&b)^^^(a&&&c))^^^(b&&&c)
def bs0(a:Nat):Nat:=(rotr 2 a^^^rotr 13 a)^^^rotr 22 a
def bs1(e:Nat):Nat:=(rotr 6 e^^^rotr 11 e)^^^rotr 25 e
def ss0(x:Nat):Nat:=(rotr 7 x^^^rotr 18 x)^^^(x/8)
def ss1(x:Nat):Nat:=(rotr 17 x^^^rotr 19 x)^^^(x/1024)
theorem znkb:(2:Nat)^32=4294967296:=rfl
theorem zbj{n x:Nat}(hx:x<4294967296)(h1:1<=n)(h2:n<=31):rotr n x<4294967296:=by
 unfold rotr
 have hp:=zal n
 have hq:=zal (32-n)
 have e:2^(32-n)*2^n=4294967296:=by rw[<-Nat.pow_add,show 32-n+n=32 by omega]
 have hd:x/2^n<2^(32-n):=Nat.div_lt_of_lt_mul (by rw[Nat.mul_comm,e];exact hx)
 have hm:x%2^n<2^n:=Nat.mod_lt _ hp
 generalize x/2^n=d at*
 generalize x%2^n=m at*
 have:=Nat.mul_le_mul_right (2^(32-n)) (show m+1<=2^n from hm)
 rw[Nat.add_mul,Nat.mul_comm (2^n),e]at this
 omega
theorem zb6{a b:Nat}(ha:a<4294967296)(hb:b<4294967296):a^^^b<4294967296:=by
 rw[<-znkb]at*;exact Nat.xor_lt_two_pow ha hb
theorem zdy{a b:Nat}(ha:a<4294967296):a&&&b<4294967296:=Nat.lt_of_le_of_lt Nat.and_le_left ha
theorem ziwb{e f g:Nat}(he:e<4294967296):chN e f g<4294967296:=zb6 (zdy he) (zdy (by omega))
theorem zg9b{a b c:Nat}(ha:a<4294967296)(hb:b<4294967296):majN a b c<4294967296:=zb6 (zb6 (zdy ha) (zdy ha)) (zdy hb)
theorem zisb{a:Nat}(ha:a<4294967296):bs0 a<4294967296:=zb6 (zb6 (zbj ha (by omega) (by omega)) (zbj ha (by omega) (by omega))) (zbj ha (by omega) (by omega))
theorem zitb{a:Nat}(ha:a<4294967296):bs1 a<4294967296:=zb6 (zb6 (zbj ha (by omega) (by omega)) (zbj ha (by omega) (by omega))) (zbj ha (by omega) (by omega))
theorem zmmb{a:Nat}(ha:a<4294967296):ss0 a<4294967296:=zb6 (zb6 (zbj ha (by omega) (by omega)) (zbj ha (by omega) (by omega))) (by omega)
theorem zmnb{a:Nat}(ha:a<4294967296):ss1 a<4294967296:=zb6 (zb6 (zbj ha (by omega) (by omega)) (zbj ha (by omega) (by omega))) (by omega)
structure H8 where
 a:Nat
 b:Nat
 c:Nat
 d:Nat
 e:Nat
 f:Nat
 g:Nat
 h:Nat
def H8.ok(s:H8):Prop:=s.a<4294967296/\s.b<4294967296/\s.c<4294967296/\s.d<4294967296/\s.e<4294967296/\s.f<4294967296/\s.g<4294967296/\s.h<4294967296
def H8.list(s:H8):List Nat:=[s.a,s.b,s.c,s.d,s.e,s.f,s.g,s.h]
def be32(b:List UInt8)(i:Nat):Nat:=(((b.getD i 0).toNat*256+(b.getD (i+1) 0).toNat)*256+(b.getD (i+2) 0).toNat)*256+(b.getD (i+3) 0).toNat
theorem zfhb(b:List UInt8)(i:Nat):be32 b i<4294967296:=by
 unfold be32
 have h0:=(b.getD i 0).toNat_lt
 have h1:=(b.getD (i+1) 0).toNat_lt
 have h2:=(b.getD (i+2) 0).toNat_lt
 have h3:=(b.getD (i+3) 0).toNat_lt
 omega
def zee(b:List UInt8)(L:List Nat):Nat:=
 if L.length<16 then be32 b (4*L.length)
 else(ss1 (L.getD (L.length-2) 0)+L.getD (L.length-7) 0+ss0 (L.getD (L.length-15) 0)+L.getD (L.length-16) 0)%4294967296
def wTo(b:List UInt8):Nat->List Nat
 |0=>[]
 |t+1=>wTo b t++[zee b (wTo b t)]
theorem zcr(b:List UInt8): ∀t,(wTo b t).length=t
 |0=>rfl
 |t+1=>by rw[wTo,List.length_append,zcr b t];rfl
theorem zd6b(b:List UInt8)(L:List Nat):zee b L<4294967296:=by
 unfold zee
 split
 ·exact zfhb _ _
 ·exact Nat.mod_lt _ (by omega)
theorem zasb(b:List UInt8): ∀t,∀x∈wTo b t,x<4294967296
 |0,x,h=>by cases h
 |t+1,x,h=>by
  rcases List.mem_append.1 h with h |h
  ·exact zasb b t x h
  ·rw[List.mem_singleton.1 h];exact zd6b _ _
def kTab:List Nat:=[
 0x428a2f98,0x71374491,0xb5c0fbcf,0xe9b5dba5,0x3956c25b,0x59f111f1,0x923f82a4,0xab1c5ed5,
 0xd807aa98,0x12835b01,0x243185be,0x550c7dc3,0x72be5d74,0x80deb1fe,0x9bdc06a7,0xc19bf174,
 0xe49b69c1,0xefbe4786,0x0fc19dc6,0x240ca1cc,0x2de92c6f,0x4a7484aa,0x5cb0a9dc,0x76f988da,
 0x983e5152,0xa831c66d,0xb00327c8,0xbf597fc7,0xc6e00bf3,0xd5a79147,0x06ca6351,0x14292967,
 0x27b70a85,0x2e1b2138,0x4d2c6dfc,0x53380d13,0x650a7354,0x766a0abb,0x81c2c92e,0x92722c85,
 0xa2bfe8a1,0xa81a664b,0xc24b8b70,0xc76c51a3,0xd192e819,0xd6990624,0xf40e3585,0x106aa070,
 0x19a4c116,0x1e376c08,0x2748774c,0x34b0bcb5,0x391c0cb3,0x4ed8aa4a,0x5b9cca4f,0x682e6ff3,
 0x748f82ee,0x78a5636f,0x84c87814,0x8cc70208,0x90befffa,0xa4506ceb,0xbef9a3f7,0xc67178f2]
def h0Tab:H8:=⟨0x6a09e667,0xbb67ae85,0x3c6ef372,0xa54ff53a,0x510e527f,0x9b05688c,0x1f83d9ab,0x5be0cd19⟩
theorem zqd:kTab.length=64:=rfl
theorem zg5b: ∀x∈kTab,x<4294967296:=by decide+kernel
theorem z2a(t:Nat):kTab.getD t 0<4294967296:=by
 rcases Nat.lt_or_ge t 64 with h |h
 ·have hl:t<kTab.length:=h
  rw[List.getD_eq_getElem?_getD,List.getElem?_eq_getElem hl]
  exact zg5b _ (List.getElem_mem hl)
 ·rw[List.getD_eq_getElem?_getD,List.getElem?_eq_none (by rw[zqd];exact h)];decide
theorem zfo(b:List UInt8)(n t:Nat):(wTo b n).getD t 0<4294967296:=by
 rcases Nat.lt_or_ge t n with h |h
 ·have hl:t< (wTo b n).length:=by rw[zcr];exact h
  rw[List.getD_eq_getElem?_getD,List.getElem?_eq_getElem hl]
  exact zasb _ _ _ (List.getElem_mem hl)
 ·rw[List.getD_eq_getElem?_getD,List.getElem?_eq_none (by rw[zcr];exact h)];decide
def t1N(k w:Nat)(s:H8):Nat:=s.h+bs1 s.e+chN s.e s.f s.g+k+w
def t2N(s:H8):Nat:=bs0 s.a+majN s.a s.b s.c
def zzj(k w:Nat)(s:H8):H8:=⟨(t1N k w s+t2N s)%4294967296,s.a,s.b,s.c,(s.d+t1N k w s)%4294967296,s.e,s.f,s.g⟩
theorem zaab{k w:Nat}{s:H8}(h:s.ok):(zzj k w s).ok:=by
 obtain⟨ha,hb,hc,hd,he,hf,hg,hh⟩:=h
 exact⟨Nat.mod_lt _ (by omega),ha,hb,hc,Nat.mod_lt _ (by omega),he,hf,hg⟩
def zg1(b:List UInt8)(s:H8):Nat->H8
 |0=>s
 |t+1=>zzj (kTab.getD t 0) ((wTo b 64).getD t 0) (zg1 b s t)
theorem zmh{b:List UInt8}{s:H8}(h:s.ok): ∀t,(zg1 b s t).ok
 |0=>h
 |t+1=>zaab (zmh h t)
def addH(s x:H8):H8:=⟨(s.a+x.a)%4294967296,(s.b+x.b)%4294967296,(s.c+x.c)%4294967296,(s.d+x.d)%4294967296,(s.e+x.e)%4294967296,(s.f+x.f)%4294967296,(s.g+x.g)%4294967296,(s.h+x.h)%4294967296⟩
theorem zfdb(s x:H8):(addH s x).ok:=⟨Nat.mod_lt _ (by omega),Nat.mod_lt _ (by omega),Nat.mod_lt _ (by omega),Nat.mod_lt _ (by omega),Nat.mod_lt _ (by omega),Nat.mod_lt _ (by omega),Nat.mod_lt _ (by omega),Nat.mod_lt _ (by omega)⟩
def zmm(s:H8)(b:List UInt8):H8:=addH s (zg1 b s 64)
def runH:Nat->H8->List UInt8->H8
 |0,s,_=>s
 |m+1,s,l=>runH m (zmm s (l.take 64)) (l.drop 64)
theorem zo6: ∀(m:Nat) (s:H8) (l:List UInt8),s.ok->(runH m s l).ok
 |0,s,l,h=>h
 |m+1,s,l,h=>zo6 m _ _ (zfdb _ _)
theorem zn5: ∀(m:Nat) (s:H8) (l:List UInt8),runH (m+1) s l=zmm (runH m s l) ((l.drop (64*m)).take 64)
 |0,s,l=>by simp[runH]
 |m+1,s,l=>by
  rw[runH,zn5 m,runH,List.drop_drop,show 64+64*m=64*(m+1)by omega]
def zb7(n:Nat):Nat:=(119-n%64)%64
def zhk(n:Nat):List UInt8:=128::(List.replicate (zb7 n) 0++beB 8 (n*8))
theorem zof(n:Nat):(zhk n).length=9+zb7 n:=by
 unfold zhk
 rw[List.length_cons,List.length_append,List.length_replicate,zak];omega
theorem zoj(n:Nat):zb7 n<64:=Nat.mod_lt _ (by omega)
theorem zyx(n:Nat):(n+(9+zb7 n))%64=0:=by unfold zb7;omega
def outH(s:H8):List UInt8:=s.list.flatMap (beB 4)
theorem zdfb(s:H8):(outH s).length=32:=by simp[outH,H8.list,zak]
def shaB(l:List UInt8):List UInt8:=outH (runH ((l++zhk l.length).length/64) h0Tab (l++zhk l.length))
theorem zcd(l:List UInt8):(shaB l).length=32:=zdfb _
theorem z4l:h0Tab.ok:=by unfold H8.ok;decide
end Go.Proofs.YtkegaaonpekkgaaGreat

namespace Go.Proofs.YtkegaaonpekkgaaGreat.Sx
open Go.RowKit
section
theorem zi5{l:List UInt8}{i:Int}{j:Nat}(h:i=j)(hj:j<l.length):((l.map U8).drop (i.toNat*1)).take 1=[U8 (l.getD j 0)]:=by
 rw[za3 h hj,List.getD_eq_getElem?_getD,List.getElem?_eq_getElem hj];rfl
abbrev U32(n:Nat):RV:= .i .u32 (n:Int)
theorem zla(n:Nat):((n%4294967296:Nat):Int)=IntKind.u32.wrap (n:Int):=by
 simp only[IntKind.wrap]
 simp[IntKind.bits,IntKind.signed]
theorem Vint.u32{e:Int}{K:Int->Prop}(n:Nat)(he:e=(n:Int))(h:n<4294967296)(hK:K (n:Int)):Vint .u32 e K:=
 ⟨n,by rw[he,<-zla,Nat.mod_eq_of_lt h],hK⟩
theorem Vint.m32{e:Int}{K:Int->Prop}(n:Nat)(he:e=(n:Int))(hK:K ((n%4294967296:Nat):Int)):Vint .u32 e K:=
 ⟨_,by rw[he,zla],hK⟩
theorem bv32{a:Nat}(h:a<4294967296):(BitVec.ofInt 32 (a:Int)).toNat=a:=by rw[BitVec.toNat_ofInt];omega
theorem Vbits.and32{a b:Int}{K:Int->Prop}(x y:Nat)(ha:a=(x:Int))(hb:b=(y:Int))(hx:x<4294967296)(hy:y<4294967296)(hK:K ((x&&&y:Nat):Int)):Vbits .u32 .and a b K:=by
 subst ha;subst hb
 refine⟨_,?_,hK⟩
 show _=IntKind.u32.wrap (((BitVec.ofInt 32 (x:Int)&&&BitVec.ofInt 32 (y:Int)).toNat:Nat):Int)
 rw[BitVec.toNat_and,bv32 hx,bv32 hy,<-zla,Nat.mod_eq_of_lt (zdy hx)]
theorem Vbits.xor32{a b:Int}{K:Int->Prop}(x y:Nat)(ha:a=(x:Int))(hb:b=(y:Int))(hx:x<4294967296)(hy:y<4294967296)(hK:K ((x^^^y:Nat):Int)):Vbits .u32 .xor a b K:=by
 subst ha;subst hb
 refine⟨_,?_,hK⟩
 show _=IntKind.u32.wrap (((BitVec.ofInt 32 (x:Int)^^^BitVec.ofInt 32 (y:Int)).toNat:Nat):Int)
 rw[BitVec.toNat_xor,bv32 hx,bv32 hy,<-zla,Nat.mod_eq_of_lt (zb6 hx hy)]
theorem Vbits.or32{a b:Int}{K:Int->Prop}(x y m:Nat)(ha:a=(x:Int))(hb:b=(y:Int))(hx:x<4294967296)(hy:y<4294967296)(hm:(x|||y)=m)(hK:K (m:Int)):Vbits .u32 .or a b K:=by
 subst ha;subst hb;subst hm
 refine⟨_,?_,hK⟩
 show _=IntKind.u32.wrap (((BitVec.ofInt 32 (x:Int)|||BitVec.ofInt 32 (y:Int)).toNat:Nat):Int)
 rw[BitVec.toNat_or,bv32 hx,bv32 hy,<-zla,Nat.mod_eq_of_lt (Nat.or_lt_two_pow (n:=32) hx hy)]
theorem not32{e:Nat}(h:e<4294967296):4294967295^^^e=4294967295-e:=by
 apply Nat.eq_of_testBit_eq
 intro i
 rw[Nat.testBit_xor,show 4294967295-e=2^32-(e+1)by omega,Nat.testBit_two_pow_sub_succ h,show(4294967295:Nat)=2^32-(0+1)from rfl,Nat.testBit_two_pow_sub_succ (by decide)]
 by_cases hi:i<32
 ·simp[hi]
 ·have:e.testBit i=false:=Nat.testBit_lt_two_pow (Nat.lt_of_lt_of_le h (Nat.pow_le_pow_right (n:=2) (by omega) (show 32<=i by omega)))
  simp[hi,this]
theorem Vshr.n32{a b:Int}{K:Int->Prop}(x n m:Nat)(ha:a=(x:Int))(hb:b=(n:Int))(hn:n<=32)(hm:x/2^n=m)(hK:K (m:Int)):Vshr .u32 a b K:=by
 subst ha;subst hb;subst hm
 have e:IntKind.u32.bits=32:=rfl
 refine⟨by omega,_,?_,hK⟩
 rw[Int.toNat_natCast,e,Nat.min_eq_left hn,Int.fdiv_eq_ediv_of_nonneg _ (Int.pow_nonneg (by omega))]
 norm_cast
theorem Vshl.n32{a b:Int}{K:Int->Prop}(x n m:Nat)(ha:a=(x:Int))(hb:b=(n:Int))(hn:n<=32)(hm:x*2^n%4294967296=m)(hK:K (m:Int)):Vshl .u32 a b K:=by
 subst ha;subst hb;subst hm
 have e:IntKind.u32.bits=32:=rfl
 refine⟨by omega,_,?_,hK⟩
 rw[Int.toNat_natCast,e,Nat.min_eq_left hn,show(x:Int)*2^n=((x*2^n:Nat):Int)by simp]
 exact zla _
theorem zcmb(x n:Nat)(hx:x<4294967296)(hn:1<=n/\n<=31):aG 432 [U32 x,I (-(n:Int))] (.r (U32 (rotr n x))):=by
 refine aT Tryz.func432 rfl ?_
 have e1:(UInt64.ofNat (18446744073709551616-n)).toNat=18446744073709551616-n:=by rw[UInt64.toNat_ofNat'];omega
 refine Vint.n ((UInt64.ofNat (18446744073709551616-n)).toNat:Int) (by rw[e1];simp only[IntKind.wrap];simp[IntKind.bits,IntKind.signed];omega) ?_
 refine Vbits.wand (UInt64.ofNat (18446744073709551616-n)) 31 rfl rfl ?_
 have e2:(UInt64.ofNat (18446744073709551616-n)&&&31).toNat=32-n:=by
  rw[UInt64.toNat_and,e1]
  have:=Nat.and_two_pow_sub_one_eq_mod (18446744073709551616-n) 5
  have e:(31:UInt64).toNat=2^5-1:=rfl
  rw[e,this]
  omega
 rw[e2]
 have hp:=zal n
 have hq:=zal (32-n)
 have e:2^(32-n)*2^n=4294967296:=by rw[<-Nat.pow_add,show 32-n+n=32 by omega]
 have e3:x*2^(32-n)%4294967296=x%2^n*2^(32-n):=by rw[<-e,Nat.mul_comm (2^(32-n)),Nat.mul_mod_mul_right]
 have hd:x/2^n<2^(32-n):=Nat.div_lt_of_lt_mul (by rw[Nat.mul_comm,e];exact hx)
 have e4:x%2^n*2^(32-n)|||x/2^n=rotr n x:=by
  rw[nat_join (32-n) _ _ (Nat.mul_mod_left _ _) hd]
  unfold rotr;omega
 have hr:=zbj hx hn.1 hn.2
 refine Vshl.n32 x (32-n) _ rfl rfl (by omega) e3 ?_
 refine Vint.u64 n (by omega) (by omega) ?_
 refine Vshr.n32 x n _ rfl rfl (by omega) rfl ?_
 refine Vbits.or32 _ _ (rotr n x) rfl rfl (by unfold rotr at hr;omega) (by unfold rotr at hr;omega) e4 ?_
 exact cr
theorem zc9(x n:Nat)(hx:x<4294967296)(hn:1<=n/\n<=31):aG 344 [U32 x,I n] (.r (U32 (rotr n x))):=by
 refine aT Tryz.func344 rfl ?_
 refine zd (m:= -(n:Int)) (by omega) (by omega) ?_
 refine ze (zcmb x n hx hn) ?_
 exact cr
abbrev boxU(l:List Nat):Ow:= .box ((l.map U32).map .r)
def wZ(b:List UInt8)(t:Nat):List Nat:=wTo b t++List.replicate (64-t) 0
theorem zatb(b:List UInt8){t:Nat}(ht:t<=64):(wZ b t).length=64:=by simp[wZ,zcr];omega
theorem zaub(b:List UInt8){t:Nat}(ht:t<64):(wZ b t).set t (zee b (wTo b t))=wZ b (t+1):=by
 unfold wZ
 rw[List.set_append_right _ _ (by rw[zcr];omega),zcr,Nat.sub_self,wTo,List.append_assoc,show 64-t=(64-(t+1))+1 by omega,List.replicate_succ]
 rfl
theorem zsm(b:List UInt8){t j:Nat}(hj:j<t):(wZ b t).getD j 0=(wTo b t).getD j 0:=by
 unfold wZ
 rw[List.getD_eq_getElem?_getD,List.getD_eq_getElem?_getD,List.getElem?_append_left (by rw[zcr];exact hj)]
theorem zmyb(b:List UInt8):wZ b 64=wTo b 64:=by simp[wZ]
def woA3(b:List UInt8)(t:Nat):St:={F:=[(0, .r (bs b)),(2, .own 0),(3, .own 1),(10, .r (I t))],O:=[(0,some (boxU (List.replicate 64 0))),(1,some (boxU (wZ b t)))],nx:=2}
def woB3(b:List UInt8)(t:Nat):St:={F:=[(2, .own 0),(3, .own 1),(5, .r (I t))],O:=[(0,some (boxU (List.replicate 64 0))),(1,some (boxU (wZ b t)))],nx:=2}
theorem z3i(b:List UInt8)(t:Nat):stOk [(0,0),(1,1)] (woA3 b t)=true:=by
 simp only[stOk,woA3,boxU,List.all_cons,List.all_nil,zdq,zdz]
 rfl
theorem z3j(b:List UInt8)(t:Nat):stOk [(0,0),(1,1)] (woB3 b t)=true:=by
 simp only[stOk,woB3,boxU,List.all_cons,List.all_nil,zdq,zdz]
 rfl
attribute [irreducible] wZ
set_option maxHeartbeats 1000000 in
theorem z5a(b:List UInt8)(hb:b.length=64):aG 342 [bs b] (.r (.ag ((wZ b 64).map U32))):=by
 refine aT Tryz.func342 rfl ?_
 have ez:wZ b 0=List.replicate 64 0:=by unfold wZ;rfl
 refine zy (woA3 b) (λt=>t<=16) (λt=>16-t) 0 (by omega) (zac [(0,0),(1,1)] (z3i b 0) ⟨cr,rfl,rfl,cr,trivial⟩ ⟨zae ((List.replicate 64 (0:Nat)).map U32),by rw[ez];exact zae ((List.replicate 64 (0:Nat)).map U32),trivial⟩) ?_
 intro t ht
 refine zh (λh=>zp ?_) (λh=>zq ?_)
 ·simp only[zb]at h
  have ht':t<16:=by omega
  have hl:=zcr b t
  have hz:=zatb b (show t<=64 by omega)
  have h0:=(b.getD (4*t) 0).toNat_lt
  have h1:=(b.getD (4*t+1) 0).toNat_lt
  have h2:=(b.getD (4*t+2) 0).toNat_lt
  have h3:=(b.getD (4*t+3) 0).toNat_lt
  have hN:zee b (wTo b t)=(((b.getD (4*t) 0).toNat*256+(b.getD (4*t+1) 0).toNat)*256+(b.getD (4*t+2) 0).toNat)*256+(b.getD (4*t+3) 0).toNat:=by
   unfold zee;rw[hl,if_pos ht'];rfl
  have hs:=zaub b (show t<64 by omega)
  rw[hN]at hs
  obtain⟨c0,e0⟩: ∃c,(b.getD (4*t) 0).toNat=c:=⟨_,rfl⟩
  obtain⟨c1,e1⟩: ∃c,(b.getD (4*t+1) 0).toNat=c:=⟨_,rfl⟩
  obtain⟨c2,e2⟩: ∃c,(b.getD (4*t+2) 0).toNat=c:=⟨_,rfl⟩
  obtain⟨c3,e3⟩: ∃c,(b.getD (4*t+3) 0).toNat=c:=⟨_,rfl⟩
  rw[e0,e1,e2,e3]at hs
  rw[e0]at h0
  rw[e1]at h1
  rw[e2]at h2
  rw[e3]at h3
  refine aV ?_
  refine zd (m:=((4*t:Nat):Int)) (by omega) (by omega) ?_
  refine zm (by omega) (by omega) (zi5 (j:=4*t) rfl (by omega)) (zg rfl ?_)
  refine Vint.u32 c0 (congrArg (λn:Nat=>(n:Int)) e0) (by omega) ?_
  refine Vshl.n32 c0 24 (c0*16777216) rfl rfl (by decide) (by omega) ?_
  refine zd (m:=((4*t:Nat):Int)) (by omega) (by omega) ?_
  refine zd (m:=((4*t+1:Nat):Int)) (by omega) (by omega) ?_
  refine zm (by omega) (by omega) (zi5 (j:=4*t+1) rfl (by omega)) (zg rfl ?_)
  refine Vint.u32 c1 (congrArg (λn:Nat=>(n:Int)) e1) (by omega) ?_
  refine Vshl.n32 c1 16 (c1*65536) rfl rfl (by decide) (by omega) ?_
  refine Vbits.or32 (c0*16777216) (c1*65536) (c0*16777216+c1*65536) rfl rfl (by omega) (by omega) (nat_join 24 _ _ (by omega) (by omega)) ?_
  refine zd (m:=((4*t:Nat):Int)) (by omega) (by omega) ?_
  refine zd (m:=((4*t+2:Nat):Int)) (by omega) (by omega) ?_
  refine zm (by omega) (by omega) (zi5 (j:=4*t+2) rfl (by omega)) (zg rfl ?_)
  refine Vint.u32 c2 (congrArg (λn:Nat=>(n:Int)) e2) (by omega) ?_
  refine Vshl.n32 c2 8 (c2*256) rfl rfl (by decide) (by omega) ?_
  refine Vbits.or32 (c0*16777216+c1*65536) (c2*256) (c0*16777216+c1*65536+c2*256) rfl rfl (by omega) (by omega) (nat_join 16 _ _ (by omega) (by omega)) ?_
  refine zd (m:=((4*t:Nat):Int)) (by omega) (by omega) ?_
  refine zd (m:=((4*t+3:Nat):Int)) (by omega) (by omega) ?_
  refine zm (by omega) (by omega) (zi5 (j:=4*t+3) rfl (by omega)) (zg rfl ?_)
  refine Vint.u32 c3 (congrArg (λn:Nat=>(n:Int)) e3) (by omega) ?_
  refine Vbits.or32 (c0*16777216+c1*65536+c2*256) c3 (((c0*256+c1)*256+c2)*256+c3) rfl rfl (by omega) (by omega) (by rw[nat_join 8 _ _ (by omega) (by omega)];omega) ?_
  (conv=>whnf)
  generalize hq:za0 _ _ _ _ _=q
  obtain rfl:=hq.symm.trans (zbf rfl rfl rfl)
  clear hq
  refine Vadr.mk' t rfl (by omega) ?_
  (conv=>whnf)
  generalize hq:(za8 _&&_)=q
  obtain rfl:=hq.symm.trans (zss (by rw[List.length_map,List.length_map,hz];omega))
  clear hq
  refine zy9 (by rw[hz];omega) ?_
  rw[hs]
  refine zd (m:=((t+1:Nat):Int)) (by omega) (by omega) ?_
  exact⟨t+1,by omega,by omega,zac [(0,0),(1,1)] (z3i b (t+1)) ⟨cr,rfl,rfl,cr,trivial⟩ ⟨zae ((List.replicate 64 (0:Nat)).map U32),zae ((wZ b (t+1)).map U32),trivial⟩⟩
 ·simp only[zb]at h
  obtain rfl:t=16:=by omega
  refine zy (woB3 b) (λt=>16<=t/\t<=64) (λt=>64-t) 16 (by omega) (zac [(0,0),(1,1)] (z3j b 16) ⟨rfl,rfl,cr,trivial⟩ ⟨zae ((List.replicate 64 (0:Nat)).map U32),zae ((wZ b 16).map U32),trivial⟩) ?_
  rintro t ⟨h16,ht⟩
  have hz:=zatb b ht
  refine zh (λh=>zp ?_) (λh=>zq ?_)
  ·simp only[zb]at h
   have ht':t<64:=by omega
   have hs:=zaub b ht'
   have hN:zee b (wTo b t)=(ss1 ((wTo b t).getD (t-2) 0)+(wTo b t).getD (t-7) 0+ss0 ((wTo b t).getD (t-15) 0)+(wTo b t).getD (t-16) 0)%4294967296:=by
    unfold zee;rw[zcr,if_neg (by omega)]
   rw[hN]at hs
   have g15:=zsm b (t:=t) (j:=t-15) (by omega)
   have g2:=zsm b (t:=t) (j:=t-2) (by omega)
   have g7:=zsm b (t:=t) (j:=t-7) (by omega)
   have g16:=zsm b (t:=t) (j:=t-16) (by omega)
   have l15:=zfo b t (t-15)
   have l2:=zfo b t (t-2)
   have l7:=zfo b t (t-7)
   have l16:=zfo b t (t-16)
   generalize (wTo b t).getD (t-15) 0=x at*
   generalize (wTo b t).getD (t-2) 0=y at*
   generalize (wTo b t).getD (t-7) 0=p at*
   generalize (wTo b t).getD (t-16) 0=q at*
   refine aV ?_
   refine zd (m:=((t-15:Nat):Int)) (by omega) (by omega) ?_
   (conv=>whnf)
   generalize hq:za0 _ _ _ _ _=q
   obtain rfl:=hq.symm.trans (zbf rfl rfl rfl)
   clear hq
   refine Vadr.mk' (t-15) rfl (by omega) ?_
   (conv=>whnf)
   generalize hq:za0 _ _ _ _ _=q
   obtain rfl:=hq.symm.trans (zbf rfl rfl rfl)
   clear hq
   (conv=>whnf)
   generalize hq:lget _ _=q
   obtain rfl:=hq.symm.trans (zlt U32 0 (l:=wZ b t) (j:=t-15) (by rw[hz];omega))
   clear hq
   rw[g15]
   refine zd (m:=((t-2:Nat):Int)) (by omega) (by omega) ?_
   (conv=>whnf)
   generalize hq:za0 _ _ _ _ _=q
   obtain rfl:=hq.symm.trans (zbf rfl rfl rfl)
   clear hq
   refine Vadr.mk' (t-2) rfl (by omega) ?_
   (conv=>whnf)
   generalize hq:za0 _ _ _ _ _=q
   obtain rfl:=hq.symm.trans (zbf rfl rfl rfl)
   clear hq
   (conv=>whnf)
   generalize hq:lget _ _=q
   obtain rfl:=hq.symm.trans (zlt U32 0 (l:=wZ b t) (j:=t-2) (by rw[hz];omega))
   clear hq
   rw[g2]
   have r7:=zbj (n:=7) l15 (by decide) (by decide)
   have r18:=zbj (n:=18) l15 (by decide) (by decide)
   have r17:=zbj (n:=17) l2 (by decide) (by decide)
   have r19:=zbj (n:=19) l2 (by decide) (by decide)
   refine ze (zc9 x 7 l15 (by decide)) ?_
   refine ze (zc9 x 18 l15 (by decide)) ?_
   refine Vbits.xor32 _ _ rfl rfl r7 r18 ?_
   refine Vshr.n32 x 3 (x/8) rfl rfl (by decide) rfl ?_
   refine Vbits.xor32 _ _ rfl rfl (zb6 r7 r18) (by omega) ?_
   refine ze (zc9 y 17 l2 (by decide)) ?_
   refine ze (zc9 y 19 l2 (by decide)) ?_
   refine Vbits.xor32 _ _ rfl rfl r17 r19 ?_
   refine Vshr.n32 y 10 (y/1024) rfl rfl (by decide) rfl ?_
   refine Vbits.xor32 _ _ rfl rfl (zb6 r17 r19) (by omega) ?_
   refine aV ?_
   refine zd (m:=((t-7:Nat):Int)) (by omega) (by omega) ?_
   (conv=>whnf)
   generalize hq:za0 _ _ _ _ _=q
   obtain rfl:=hq.symm.trans (zbf rfl rfl rfl)
   clear hq
   refine Vadr.mk' (t-7) rfl (by omega) ?_
   (conv=>whnf)
   generalize hq:za0 _ _ _ _ _=q
   obtain rfl:=hq.symm.trans (zbf rfl rfl rfl)
   clear hq
   (conv=>whnf)
   generalize hq:lget _ _=q
   obtain rfl:=hq.symm.trans (zlt U32 0 (l:=wZ b t) (j:=t-7) (by rw[hz];omega))
   clear hq
   rw[g7]
   refine Vint.m32 (ss1 y+p) rfl ?_
   refine Vint.m32 ((ss1 y+p)%4294967296+ss0 x) rfl ?_
   refine zd (m:=((t-16:Nat):Int)) (by omega) (by omega) ?_
   (conv=>whnf)
   generalize hq:za0 _ _ _ _ _=q
   obtain rfl:=hq.symm.trans (zbf rfl rfl rfl)
   clear hq
   refine Vadr.mk' (t-16) rfl (by omega) ?_
   (conv=>whnf)
   generalize hq:za0 _ _ _ _ _=q
   obtain rfl:=hq.symm.trans (zbf rfl rfl rfl)
   clear hq
   (conv=>whnf)
   generalize hq:lget _ _=q
   obtain rfl:=hq.symm.trans (zlt U32 0 (l:=wZ b t) (j:=t-16) (by rw[hz];omega))
   clear hq
   rw[g16]
   refine Vint.m32 (((ss1 y+p)%4294967296+ss0 x)%4294967296+q) rfl ?_
   rw[show(((ss1 y+p)%4294967296+ss0 x)%4294967296+q)%4294967296=(ss1 y+p+ss0 x+q)%4294967296 by omega]
   (conv=>whnf)
   generalize hq:za0 _ _ _ _ _=q
   obtain rfl:=hq.symm.trans (zbf rfl rfl rfl)
   clear hq
   refine Vadr.mk' t rfl (by omega) ?_
   (conv=>whnf)
   generalize hq:(za8 _&&_)=q
   obtain rfl:=hq.symm.trans (zss (by rw[List.length_map,List.length_map,hz];omega))
   clear hq
   refine zy9 (by rw[hz];omega) ?_
   rw[hs]
   refine zd (m:=((t+1:Nat):Int)) (by omega) (by omega) ?_
   exact⟨t+1,by omega,by omega,zac [(0,0),(1,1)] (z3j b (t+1)) ⟨rfl,rfl,cr,trivial⟩ ⟨zae ((List.replicate 64 (0:Nat)).map U32),zae ((wZ b (t+1)).map U32),trivial⟩⟩
  ·simp only[zb]at h
   obtain rfl:t=64:=by omega
   refine za (l:=((wZ b 64).map U32).map TF.r) (List.take_of_length_le (by simp[hz])) (by simp[hz]) ?_
   (conv=>whnf)
   generalize hq:St.rvs _ _=q
   obtain rfl:=hq.symm.trans (zg4 _ _)
   clear hq
   (conv=>whnf)
   generalize hq:(za8 _&&_)=q
   obtain rfl:=hq.symm.trans (zh0 (l:=(wZ b 64).map U32) 64 (by rw[List.length_map,hz]) rfl)
   clear hq
   refine zeb (by rw[List.length_map,List.length_map,List.length_map,hz];rfl) ?_
   refine za (l:=((wZ b 64).map U32).map TF.r) (List.take_of_length_le (by simp[hz])) (by simp[hz]) ?_
   (conv=>whnf)
   generalize hq:St.rvs _ _=q
   obtain rfl:=hq.symm.trans (zg4 _ _)
   clear hq
   exact cr
theorem z8v(b:List UInt8)(hb:b.length=64):aG 342 [bs b] (.r (.ag ((wTo b 64).map U32))):=by
 rw[<-zmyb];exact z5a b hb
end
set_option maxRecDepth 100000 in
set_option maxHeartbeats 1000000 in
theorem z4m:aG 343 [] (.r (.ag (kTab.map U32))):=by
 refine aT Tryz.func343 rfl ?_
 repeat' ((conv=>whnf);first|refine za rfl rfl ?_)
 exact zf (by kernel_rfl)
abbrev vH(s:H8):List RV:=[U32 s.a,U32 s.b,U32 s.c,U32 s.d,U32 s.e,U32 s.f,U32 s.g,U32 s.h]
abbrev bH(s:H8):Ow:= .box [.r (U32 s.a), .r (U32 s.b), .r (U32 s.c), .r (U32 s.d), .r (U32 s.e), .r (U32 s.f), .r (U32 s.g), .r (U32 s.h)]
theorem z7u:aG 236 [] (.r (.ag (vH h0Tab))):=by
 refine aT Tryz.func236 rfl ?_
 repeat' ((conv=>whnf);first|refine za rfl rfl ?_)
 exact cr
theorem Vint.add32{a b:Int}{K:Int->Prop}(x y:Nat)(ha:a=(x:Int))(hb:b=(y:Int))(hK:K (((x+y)%4294967296:Nat):Int)):Vint .u32 (a+b) K:=Vint.m32 (x+y) (by rw[ha,hb];rfl) hK
theorem Vbits.not32{a:Int}{K:Int->Prop}(x:Nat)(ha:a=(x:Int))(hx:x<4294967296)(hK:K ((4294967295-x:Nat):Int)):Vbits .u32 .xor 4294967295 a K:=Vbits.xor32 4294967295 x rfl ha (by decide) hx (by rw[Sx.not32 hx];exact hK)
def stI3(v:Value)(s:H8)(k w:List Nat)(x:H8)(j:Nat):St:={F:=[(0, .own 0),(4, .own 1),(5, .own 2),(6, .own 3),(19, .r (I j)),(1000000, .nm 0 v)],O:=[(0,some (bH s)),(1,some (boxU w)),(2,some (boxU k)),(3,some (bH x))],nx:=4}
theorem z3c(v:Value)(s:H8)(k w:List Nat)(x:H8)(j:Nat):stOk [(0,0),(1,1),(2,2),(3,3)] (stI3 v s k w x j)=true:=by
 simp only[stOk,stI3,boxU,List.all_cons,List.all_nil,zdq,zdz]
 rfl
set_option maxHeartbeats 4000000 in
theorem zxy(v:Value)(s:H8)(b:List UInt8)(hs:s.ok)(hb:b.length=64):Acts Tryz.prog 239 1 [(0,(bH s))] [.own 0, .r (bs b)] [(0,v)] 1 [(0,(bH (zmm s b)))] (.r (.tu [])):=by
 refine zah (T:=Tab) mixed Tab_ok Tryz.func239 rfl (by kernel_rfl) rfl ⟨⟨_,_,rfl,rfl,zai,zai⟩,trivial⟩ ?_
 have hw:=z8v b hb
 have hk:=z4m
 have lw:=zcr b 64
 have bw:=zfo b 64
 have lk:kTab.length=64:=rfl
 have bk:=z2a
 obtain⟨X,hX0,hXs,hXok,hXe⟩: ∃X:Nat->H8,X 0=s/\(∀j,X (j+1)=zzj (kTab.getD j 0) ((wTo b 64).getD j 0) (X j))/\(∀j,(X j).ok)/\zmm s b=addH s (X 64):=⟨zg1 b s,rfl,λ_=>rfl,zmh hs,rfl⟩
 rw[hXe]
 generalize wTo b 64=w at*
 generalize kTab=k at*
 refine ze hw ?_
 refine ze hk ?_
 (conv=>whnf)
 generalize hq:(za8 _&&_)=q
 obtain rfl:=hq.symm.trans (zh0 (l:=w.map U32) 64 (by rw[List.length_map,lw]) rfl)
 clear hq
 refine zeb (by rw[List.length_map,List.length_map,lw];rfl) ?_
 (conv=>whnf)
 generalize hq:(za8 _&&_)=q
 obtain rfl:=hq.symm.trans (zh0 (l:=k.map U32) 64 (by rw[List.length_map,lk]) rfl)
 clear hq
 refine zeb (by rw[List.length_map,List.length_map,lk];rfl) ?_
 refine za rfl rfl ?_
 refine zy (λj=>stI3 v s k w (X j) j) (λj=>j<=64) (λj=>64-j) 0 (by omega) (zac [(0,0),(1,1),(2,2),(3,3)] (z3c v s k w (X 0) 0) ⟨rfl,rfl,rfl,rfl,cr,⟨rfl,rfl⟩,trivial⟩ ⟨(aD aZ),zae (w.map U32),zae (k.map U32),by rw[hX0];exact⟨_,_,rfl,cr,_,_,rfl,cr,_,_,rfl,cr,_,_,rfl,cr,_,_,rfl,cr,_,_,rfl,cr,_,_,rfl,cr,_,_,rfl,cr,rfl⟩,trivial⟩) ?_
 intro j hj
 refine zh (λh=>zp ?_) (λh=>zq ?_)
 ·simp only[zb]at h
  have hj':j<64:=by omega
  have hx1:=hXs j
  obtain⟨oa,ob,oc,od,oe,of,og,oh⟩:=hXok j
  have bwj:=bw j
  have bkj:=bk j
  generalize hX:X j=x at*
  generalize hwj:w.getD j 0=wj at*
  generalize hkj:k.getD j 0=kj at*
  refine aV ?_
  refine Vadr.any (by decide) ?_
  refine Vadr.any (by decide) ?_
  have r6:=zbj (n:=6) oe (by decide) (by decide)
  have r11:=zbj (n:=11) oe (by decide) (by decide)
  have r25:=zbj (n:=25) oe (by decide) (by decide)
  have r2:=zbj (n:=2) oa (by decide) (by decide)
  have r13:=zbj (n:=13) oa (by decide) (by decide)
  have r22:=zbj (n:=22) oa (by decide) (by decide)
  refine aV ?_
  refine Vadr.any (by decide) ?_
  refine ze (zc9 _ 6 oe (by decide)) ?_
  refine ze (zc9 _ 11 oe (by decide)) ?_
  refine Vbits.xor32 _ _ rfl rfl r6 r11 ?_
  refine ze (zc9 _ 25 oe (by decide)) ?_
  refine Vbits.xor32 _ _ rfl rfl (zb6 r6 r11) r25 ?_
  refine Vint.add32 x.h (bs1 x.e) rfl rfl ?_
  refine Vadr.any (by decide) ?_
  refine Vbits.and32 _ _ rfl rfl oe of ?_
  refine Vbits.not32 x.e rfl oe ?_
  refine Vadr.any (by decide) ?_
  refine Vbits.and32 _ _ rfl rfl (by omega) og ?_
  refine Vbits.xor32 _ _ rfl rfl (zdy oe) (zdy (by omega)) ?_
  refine Vint.add32 _ (chN x.e x.f x.g) rfl rfl ?_
  (conv=>whnf)
  generalize hq:za0 _ _ _ _ _=q
  obtain rfl:=hq.symm.trans (zbf rfl rfl rfl)
  clear hq
  refine Vadr.mk' j rfl (by omega) ?_
  (conv=>whnf)
  generalize hq:za0 _ _ _ _ _=q
  obtain rfl:=hq.symm.trans (zbf rfl rfl rfl)
  clear hq
  (conv=>whnf)
  generalize hq:lget _ _=q
  obtain rfl:=hq.symm.trans (zlt U32 0 (l:=k) (j:=j) (by rw[lk];omega))
  clear hq
  rw[show k.getD j 0=kj from hkj]
  refine Vint.add32 _ kj rfl rfl ?_
  (conv=>whnf)
  generalize hq:za0 _ _ _ _ _=q
  obtain rfl:=hq.symm.trans (zbf rfl rfl rfl)
  clear hq
  refine Vadr.mk' j rfl (by omega) ?_
  (conv=>whnf)
  generalize hq:za0 _ _ _ _ _=q
  obtain rfl:=hq.symm.trans (zbf rfl rfl rfl)
  clear hq
  (conv=>whnf)
  generalize hq:lget _ _=q
  obtain rfl:=hq.symm.trans (zlt U32 0 (l:=w) (j:=j) (by rw[lw];omega))
  clear hq
  rw[show w.getD j 0=wj from hwj]
  refine Vint.add32 _ wj rfl rfl ?_
  refine aV ?_
  refine ze (zc9 _ 2 oa (by decide)) ?_
  refine ze (zc9 _ 13 oa (by decide)) ?_
  refine Vbits.xor32 _ _ rfl rfl r2 r13 ?_
  refine ze (zc9 _ 22 oa (by decide)) ?_
  refine Vbits.xor32 _ _ rfl rfl (zb6 r2 r13) r22 ?_
  refine Vadr.any (by decide) ?_
  refine Vbits.and32 _ _ rfl rfl oa ob ?_
  refine Vadr.any (by decide) ?_
  refine Vbits.and32 _ _ rfl rfl oa oc ?_
  refine Vbits.xor32 _ _ rfl rfl (zdy oa) (zdy oa) ?_
  refine Vadr.any (by decide) ?_
  refine Vadr.any (by decide) ?_
  refine Vbits.and32 _ _ rfl rfl ob oc ?_
  refine Vbits.xor32 _ _ rfl rfl (zb6 (zdy oa) (zdy oa)) (zdy ob) ?_
  refine Vint.add32 (bs0 x.a) (majN x.a x.b x.c) rfl rfl ?_
  refine aV ?_
  refine Vcutn.mk' 1 7 rfl rfl (by decide) (by decide) ?_
  refine Vcutn.mk' 0 7 rfl rfl (by decide) (by decide) ?_
  refine Vstep.copyBox (n:=7) (m:=7) (ys:=[U32 x.a,U32 x.b,U32 x.c,U32 x.d,U32 x.e,U32 x.f,U32 x.g]) (zs:=[.r (U32 x.a), .r (U32 x.a), .r (U32 x.b), .r (U32 x.c), .r (U32 x.d), .r (U32 x.e), .r (U32 x.f), .r (U32 x.g)]) Tab_ok rfl rfl rfl rfl rfl rfl rfl (by show 1*1+7<=8;decide) rfl (.inr ⟨0,rfl,by show 0+7<=8;decide,rfl⟩) rfl ?_
  refine Vadr.any (by decide) ?_
  refine Vint.add32 x.d _ rfl rfl ?_
  refine Vadr.any (by decide) ?_
  refine Vint.add32 _ _ rfl rfl ?_
  refine Vadr.any (by decide) ?_
  refine zd (m:=((j+1:Nat):Int)) (by omega) (by omega) ?_
  have ea:((((((x.h+bs1 x.e)%4294967296+chN x.e x.f x.g)%4294967296+kj)%4294967296+wj)%4294967296)+(bs0 x.a+majN x.a x.b x.c)%4294967296)%4294967296=(t1N kj wj x+t2N x)%4294967296:=by unfold t1N t2N;omega
  have ee:(x.d+((((x.h+bs1 x.e)%4294967296+chN x.e x.f x.g)%4294967296+kj)%4294967296+wj)%4294967296)%4294967296=(x.d+t1N kj wj x)%4294967296:=by unfold t1N;omega
  rw[ea,ee]
  exact⟨j+1,by omega,by omega,zac [(0,0),(1,1),(2,2),(3,3)] (z3c v s k w (X (j+1)) (j+1)) ⟨rfl,rfl,rfl,rfl,cr,⟨rfl,rfl⟩,trivial⟩ ⟨(aD aZ),zae (w.map U32),zae (k.map U32),by rw[hx1];exact⟨_,_,rfl,cr,_,_,rfl,cr,_,_,rfl,cr,_,_,rfl,cr,_,_,rfl,cr,_,_,rfl,cr,_,_,rfl,cr,_,_,rfl,cr,rfl⟩,trivial⟩⟩
 ·simp only[zb]at h
  obtain rfl:j=64:=by omega
  generalize X 64=x
  refine Vloop.rounds 9 ?_
  repeat' ((conv=>whnf);first|refine Vrounds.step mixed Tab_ok ?_|refine zt rfl (zp ?_)|refine zu rfl (zq ?_)|refine Vadr.any (by decide) ?_|refine Vint.any (k:= .i64) ?_|refine Vint.add32 _ _ rfl rfl ?_|refine za rfl rfl ?_|refine aV ?_)
  exact zan (.inr rfl) [(0,0)] [] [] rfl ⟨⟨rfl,rfl⟩,trivial⟩ ⟨(aD aZ),trivial⟩ ⟨⟨1000000,rfl⟩,trivial⟩ ⟨_,rfl,cr⟩
end Go.Proofs.YtkegaaonpekkgaaGreat.Sx
