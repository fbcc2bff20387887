import Derived.Test.YtpcfoglfakeimaaGreatZVa
import Derived.Laws.Externs
import Derived.Test.YtpcfoglfakeimaaGreatZNa
import Derived.Test.YtpcfoglfakeimaaGreatZNx
namespace Go.Proofs.YtpcfoglfakeimaaGreat.Sx
open Go.RowKit
abbrev W(x:UInt64):RV:= .i .u64 (x.toNat:Int)
def shrW(x:UInt64)(n:Nat):UInt64:=UInt64.ofNat (x.toNat/2^n)
def shlW(x:UInt64)(n:Nat):UInt64:=UInt64.ofNat (x.toNat*2^n)
def carW(x y c:UInt64):UInt64:=UInt64.ofNat ((x.toNat+y.toNat+c.toNat)/18446744073709551616)
def borW(x y c:UInt64):UInt64:=UInt64.ofNat (if x.toNat<y.toNat+c.toNat then 1 else 0)
theorem zza{x y c:UInt64}(h:c.toNat<=1):(carW x y c).toNat<=1:=by
 have hx:=x.toNat_lt
 have hy:=y.toNat_lt
 unfold carW
 rw[UInt64.toNat_ofNat']
 omega
theorem z94{x y c:UInt64}:(borW x y c).toNat<=1:=by
 unfold borW
 rw[UInt64.toNat_ofNat']
 split<;>omega
theorem Vadr.any{i:Int}{n:Nat}{K:Nat->Prop}(h:0<=i/\i< (n:Int))(hK:K i.toNat):Vadr i n K:=⟨h.1,h.2,hK⟩
theorem Vrem.any{a b:Int}{K:Int->Prop}(h:b≠0)(hK:K (a.tmod b)):Vrem a b K:=⟨h,_,rfl,hK⟩
theorem znp(n:Nat):IntKind.u64.wrap (n:Int)=((UInt64.ofNat n).toNat:Int):=by
 rw[UInt64.toNat_ofNat']
 simp only[IntKind.wrap]
 simp[IntKind.bits,IntKind.signed]
theorem zckb(x y:UInt64):IntKind.u64.wrap ((x.toNat:Int)-(y.toNat:Int))=((x-y).toNat:Int):=by
 rw[UInt64.toNat_sub]
 have hx:=x.toNat_lt
 have hy:=y.toNat_lt
 simp only[IntKind.wrap]
 simp[IntKind.bits,IntKind.signed]
 omega
theorem Vint.w{e:Int}{K:Int->Prop}(n:Nat)(he:e=(n:Int))(hK:K ((UInt64.ofNat n).toNat:Int)):Vint .u64 e K:=⟨_,by rw[he,znp],hK⟩
theorem Vint.wadd{a b:Int}{K:Int->Prop}(x y:UInt64)(ha:a=(x.toNat:Int))(hb:b=(y.toNat:Int))(hK:K ((x+y).toNat:Int)):Vint .u64 (a+b) K:=
 ⟨_,by subst ha;subst hb;rw[<-Int.natCast_add,znp,UInt64.ofNat_add];simp,hK⟩
theorem Vint.wmul{a b:Int}{K:Int->Prop}(x y:UInt64)(ha:a=(x.toNat:Int))(hb:b=(y.toNat:Int))(hK:K ((x*y).toNat:Int)):Vint .u64 (a*b) K:=
 ⟨_,by subst ha;subst hb;rw[<-Int.natCast_mul,znp,UInt64.ofNat_mul];simp,hK⟩
theorem Vint.wsub{a b:Int}{K:Int->Prop}(x y:UInt64)(ha:a=(x.toNat:Int))(hb:b=(y.toNat:Int))(hK:K ((x-y).toNat:Int)):Vint .u64 (a-b) K:=
 ⟨_,by subst ha;subst hb;rw[zckb],hK⟩
theorem bv_w(x:UInt64):BitVec.ofInt 64 (x.toNat:Int)=x.toBitVec:=by
 rw[BitVec.ofInt_natCast]
 simp
theorem zsk(x:UInt64):IntKind.u64.wrap (x.toNat:Int)=(x.toNat:Int):=by rw[znp];simp
theorem Vbits.wand{a b:Int}{K:Int->Prop}(x y:UInt64)(ha:a=(x.toNat:Int))(hb:b=(y.toNat:Int))(hK:K ((x&&&y).toNat:Int)):Vbits .u64 .and a b K:=by
 subst ha;subst hb
 refine⟨_,?_,hK⟩
 show _=IntKind.u64.wrap (((BitVec.ofInt 64 (x.toNat:Int)&&&BitVec.ofInt 64 (y.toNat:Int)).toNat:Nat):Int)
 rw[bv_w,bv_w,<-zsk]
 rfl
theorem Vbits.wor{a b:Int}{K:Int->Prop}(x y:UInt64)(ha:a=(x.toNat:Int))(hb:b=(y.toNat:Int))(hK:K ((x|||y).toNat:Int)):Vbits .u64 .or a b K:=by
 subst ha;subst hb
 refine⟨_,?_,hK⟩
 show _=IntKind.u64.wrap (((BitVec.ofInt 64 (x.toNat:Int)|||BitVec.ofInt 64 (y.toNat:Int)).toNat:Nat):Int)
 rw[bv_w,bv_w,<-zsk]
 rfl
theorem Vbits.wxor{a b:Int}{K:Int->Prop}(x y:UInt64)(ha:a=(x.toNat:Int))(hb:b=(y.toNat:Int))(hK:K ((x^^^y).toNat:Int)):Vbits .u64 .xor a b K:=by
 subst ha;subst hb
 refine⟨_,?_,hK⟩
 show _=IntKind.u64.wrap (((BitVec.ofInt 64 (x.toNat:Int)^^^BitVec.ofInt 64 (y.toNat:Int)).toNat:Nat):Int)
 rw[bv_w,bv_w,<-zsk]
 rfl
theorem Vshr.w{a b:Int}{K:Int->Prop}(x:UInt64)(n:Nat)(ha:a=(x.toNat:Int))(hb:b=(n:Int))(hK:K ((shrW x n).toNat:Int)):Vshr .u64 a b K:=by
 subst ha;subst hb
 refine⟨by omega,_,?_,hK⟩
 have hx:=x.toNat_lt
 have h1:(shrW x n).toNat=x.toNat/2^n:=by
  unfold shrW
  rw[UInt64.toNat_ofNat']
  exact Nat.mod_eq_of_lt (Nat.lt_of_le_of_lt (Nat.div_le_self _ _) hx)
 rw[h1,Int.toNat_natCast]
 have h2:x.toNat/2^n=x.toNat/2^(min n IntKind.u64.bits):=by
  rcases Nat.le_total n IntKind.u64.bits with h |h
  ·rw[Nat.min_eq_left h]
  ·rw[Nat.min_eq_right h]
   have hb:IntKind.u64.bits=64:=rfl
   rw[hb]at h⊢
   have h64:(2:Nat)^64<=2^n:=Nat.pow_le_pow_right (by omega) h
   rw[Nat.div_eq_of_lt (by omega),Nat.div_eq_of_lt (by omega)]
 rw[h2,Int.fdiv_eq_ediv_of_nonneg _ (Int.pow_nonneg (by omega))]
 norm_cast
theorem Vshl.w{a b:Int}{K:Int->Prop}(x:UInt64)(n:Nat)(ha:a=(x.toNat:Int))(hb:b=(n:Int))(hn:n<=64)(hK:K ((shlW x n).toNat:Int)):Vshl .u64 a b K:=by
 subst ha;subst hb
 refine⟨by omega,_,?_,hK⟩
 have hb:IntKind.u64.bits=64:=rfl
 rw[Int.toNat_natCast,hb,Nat.min_eq_left hn]
 unfold shlW
 rw[<-znp]
 norm_cast
theorem Extn.add{P:Program}{f:FuncId}(hrun: ∀(us:Array Value) (w:World),(callFunc f us).run P w=((add64Entry us).run P w).andThen λv w=> .ok (.value v) w)(x y c:UInt64)(hc:c.toNat<=1):Extn P f [W x,W y,W c] (.r (.tu [W (x+y+c),W (carW x y c)])):=by
 intro w k vs h
 simp only[RV.partsAt,RV.at_]at h
 obtain⟨_,_,rfl,rfl,_,_,rfl,rfl,_,_,rfl,rfl,rfl⟩:=h
 refine⟨.tuple #[.int .u64 (((x.toNat:Int)+(y.toNat:Int)+(c.toNat:Int))%18446744073709551616), .int .u64 (((x.toNat:Int)+(y.toNat:Int)+(c.toNat:Int))/18446744073709551616)],w,?_,Ext.refl w,k,λ_ _=>rfl,?_⟩
 ·rw[hrun]
  show((add64Entry #[.int .u64 (x.toNat:Int), .int .u64 (y.toNat:Int), .int .u64 (c.toNat:Int)]).run P w).andThen _=_
  rw[run_add64 _ _ _ (by omega) (by omega) (by omega) (by omega)]
  rfl
 ·simp only[Res.at_,RV.at_,RV.partsAt]
  have hx:=x.toNat_lt
  have hy:=y.toNat_lt
  refine⟨_,rfl,_,_,rfl,?_,_,_,rfl,?_,rfl⟩
  ·congr 1
   rw[UInt64.toNat_add,UInt64.toNat_add]
   omega
  ·unfold carW
   rw[UInt64.toNat_ofNat']
   congr 1
   omega
def zxz:Array Value->Sem Value:=λargs=>do
 let(x,y,b)<-Extern.MathBitsCarry.three "Sub64" args
 pure (Extern.MathBitsCarry.pair ((x+Extern.MathBitsCarry.m64-y-b)%Extern.MathBitsCarry.m64) (if x<y+b then 1 else 0))
theorem z2a{P:Program}(x y b:Nat)(hb:b<=1)(w:World):
  (zxz #[.int .u64 x, .int .u64 y, .int .u64 b]).run P w=
   .ok (.tuple #[.int .u64 (((x+18446744073709551616-y-b)%18446744073709551616:Nat):Int), .int .u64 ((if x<y+b then 1 else 0:Nat):Int)]) w:=by
 have:b=0\/b=1:=by omega
 rcases this with rfl |rfl<;>rfl
theorem Extn.sub{P:Program}{f:FuncId}(hrun: ∀(us:Array Value) (w:World),(callFunc f us).run P w=((zxz us).run P w).andThen λv w=> .ok (.value v) w)(x y c:UInt64)(hc:c.toNat<=1):Extn P f [W x,W y,W c] (.r (.tu [W (x-y-c),W (borW x y c)])):=by
 intro w k vs h
 simp only[RV.partsAt,RV.at_]at h
 obtain⟨_,_,rfl,rfl,_,_,rfl,rfl,_,_,rfl,rfl,rfl⟩:=h
 refine⟨.tuple #[.int .u64 (((x.toNat+18446744073709551616-y.toNat-c.toNat)%18446744073709551616:Nat):Int), .int .u64 ((if x.toNat<y.toNat+c.toNat then 1 else 0:Nat):Int)],w,(hrun _ _).trans ?_,Ext.refl w,k,λ_ _=>rfl,?_⟩
 ·exact congrArg (λr:Result Value=>r.andThen λv w=>Result.ok (Next.value v) w) (z2a x.toNat y.toNat c.toNat hc w)
 ·simp only[Res.at_,RV.at_,RV.partsAt]
  have hx:=x.toNat_lt
  have hy:=y.toNat_lt
  refine⟨_,rfl,_,_,rfl,?_,_,_,rfl,?_,rfl⟩
  ·congr 1
   rw[UInt64.toNat_sub,UInt64.toNat_sub]
   omega
  ·unfold borW
   rw[UInt64.toNat_ofNat']
   split<;>rfl
end Go.Proofs.YtpcfoglfakeimaaGreat.Sx

namespace Go.Proofs.YtpcfoglfakeimaaGreat
def rotr(n x:Nat):Nat:=x/2^n+x%2^n*2^(32-n)
def chN(e f g:Nat):Nat:=(e&&&f)^^^((4294967295-e)&&&g)
def majN(a b c:Nat):Nat:=((a&&&b)^^^(a&&&c))^^^(b&&&c)
def bs0(a:Nat):Nat:=(rotr 2 a^^^rotr 13 a)^^^rotr 22 a
def bs1(e:Nat):Nat:=(rotr 6 e^^^rotr 11 e)^^^rotr 25 e
def ss0(x:Nat):Nat:=(rotr 7 x^^^rotr 18 x)^^^(x/8)
def ss1(x:Nat):Nat:=(rotr 17 x^^^rotr 19 x)^^^(x/1024)
theorem zfob:(2:Nat)^32=4294967296:=rfl
theorem zd0{n x:Nat}(hx:x<4294967296)(h1:1<=n)(h2:n<=31):rotr n x<4294967296:=by
 unfold rotr
 have hp:=zai n
 have hq:=zai (32-n)
 have e:2^(32-n)*2^n=4294967296:=by rw[<-Nat.pow_add,show 32-n+n=32 by omega]
 have hd:x/2^n<2^(32-n):=Nat.div_lt_of_lt_mul (by rw[Nat.mul_comm,e];exact hx)
 have hm:x%2^n<2^n:=Nat.mod_lt _ hp
 generalize x/2^n=d at*
 generalize x%2^n=m at*
 have:=Nat.mul_le_mul_right (2^(32-n)) (show m+1<=2^n from hm)
 rw[Nat.add_mul,Nat.mul_comm (2^n),e]at this
 omega
theorem zkk{a b:Nat}(ha:a<4294967296)(hb:b<4294967296):a^^^b<4294967296:=by
 rw[<-zfob]at*;exact Nat.xor_lt_two_pow ha hb
theorem zhh{a b:Nat}(ha:a<4294967296):a&&&b<4294967296:=Nat.lt_of_le_of_lt Nat.and_le_left ha
structure H8 where
 a:Nat
 b:Nat
 c:Nat
 d:Nat
 e:Nat
 f:Nat
 g:Nat
 h:Nat
def H8.ok(s:H8):Prop:=s.a<4294967296/\s.b<4294967296/\s.c<4294967296/\s.d<4294967296/\s.e<4294967296/\s.f<4294967296/\s.g<4294967296/\s.h<4294967296
def H8.list(s:H8):List Nat:=[s.a,s.b,s.c,s.d,s.e,s.f,s.g,s.h]
def be32(b:List UInt8)(i:Nat):Nat:=(((b.getD i 0).toNat*256+(b.getD (i+1) 0).toNat)*256+(b.getD (i+2) 0).toNat)*256+(b.getD (i+3) 0).toNat
theorem z91(b:List UInt8)(i:Nat):be32 b i<4294967296:=by
 unfold be32
 have h0:=(b.getD i 0).toNat_lt
 have h1:=(b.getD (i+1) 0).toNat_lt
 have h2:=(b.getD (i+2) 0).toNat_lt
 have h3:=(b.getD (i+3) 0).toNat_lt
 omega
def zjl(b:List UInt8)(L:List Nat):Nat:=
 if L.length<16 then be32 b (4*L.length)
 else(ss1 (L.getD (L.length-2) 0)+L.getD (L.length-7) 0+ss0 (L.getD (L.length-15) 0)+L.getD (L.length-16) 0)%4294967296
def wTo(b:List UInt8):Nat->List Nat
 |0=>[]
 |t+1=>wTo b t++[zjl b (wTo b t)]
theorem zeh(b:List UInt8): ∀t,(wTo b t).length=t
 |0=>rfl
 |t+1=>by rw[wTo,List.length_append,zeh b t];rfl
theorem z84(b:List UInt8)(L:List Nat):zjl b L<4294967296:=by
 unfold zjl
 split
 ·exact z91 _ _
 ·exact Nat.mod_lt _ (by omega)
theorem z50(b:List UInt8): ∀t,∀x∈wTo b t,x<4294967296
 |0,x,h=>by cases h
 |t+1,x,h=>by
  rcases List.mem_append.1 h with h |h
  ·exact z50 b t x h
  ·rw[List.mem_singleton.1 h];exact z84 _ _
def kTab:List Nat:=[
 0x428a2f98,0x71374491,0xb5c0fbcf,0xe9b5dba5,0x3956c25b,0x59f111f1,0x923f82a4,0xab1c5ed5,
 0xd807aa98,0x12835b01,0x243185be,0x550c7dc3,0x72be5d74,0x80deb1fe,0x9bdc06a7,0xc19bf174,
 0xe49b69c1,0xefbe4786,0x0fc19dc6,0x240ca1cc,0x2de92c6f,0x4a7484aa,0x5cb0a9dc,0x76f988da,
 0x983e5152,0xa831c66d,0xb00327c8,0xbf597fc7,0xc6e00bf3,0xd5a79147,0x06ca6351,0x14292967,
 0x27b70a85,0x2e1b2138,0x4d2c6dfc,0x53380d13,0x650a7354,0x766a0abb,0x81c2c92e,0x92722c85,
 0xa2bfe8a1,0xa81a664b,0xc24b8b70,0xc76c51a3,0xd192e819,0xd6990624,0xf40e3585,0x106aa070,
 0x19a4c116,0x1e376c08,0x2748774c,0x34b0bcb5,0x391c0cb3,0x4ed8aa4a,0x5b9cca4f,0x682e6ff3,
 0x748f82ee,0x78a5636f,0x84c87814,0x8cc70208,0x90befffa,0xa4506ceb,0xbef9a3f7,0xc67178f2]
def h0Tab:H8:=⟨0x6a09e667,0xbb67ae85,0x3c6ef372,0xa54ff53a,0x510e527f,0x9b05688c,0x1f83d9ab,0x5be0cd19⟩
theorem z7y:kTab.length=64:=rfl
theorem zbib: ∀x∈kTab,x<4294967296:=by decide+kernel
theorem zbhb(t:Nat):kTab.getD t 0<4294967296:=by
 rcases Nat.lt_or_ge t 64 with h |h
 ·have hl:t<kTab.length:=h
  rw[List.getD_eq_getElem?_getD,List.getElem?_eq_getElem hl]
  exact zbib _ (List.getElem_mem hl)
 ·rw[List.getD_eq_getElem?_getD,List.getElem?_eq_none (by rw[z7y];exact h)];decide
theorem znn(b:List UInt8)(n t:Nat):(wTo b n).getD t 0<4294967296:=by
 rcases Nat.lt_or_ge t n with h |h
 ·have hl:t< (wTo b n).length:=by rw[zeh];exact h
  rw[List.getD_eq_getElem?_getD,List.getElem?_eq_getElem hl]
  exact z50 _ _ _ (List.getElem_mem hl)
 ·rw[List.getD_eq_getElem?_getD,List.getElem?_eq_none (by rw[zeh];exact h)];decide
def t1N(k w:Nat)(s:H8):Nat:=s.h+bs1 s.e+chN s.e s.f s.g+k+w
def t2N(s:H8):Nat:=bs0 s.a+majN s.a s.b s.c
def zxo(k w:Nat)(s:H8):H8:=⟨(t1N k w s+t2N s)%4294967296,s.a,s.b,s.c,(s.d+t1N k w s)%4294967296,s.e,s.f,s.g⟩
theorem z5k{k w:Nat}{s:H8}(h:s.ok):(zxo k w s).ok:=by
 obtain⟨ha,hb,hc,hd,he,hf,hg,hh⟩:=h
 exact⟨Nat.mod_lt _ (by omega),ha,hb,hc,Nat.mod_lt _ (by omega),he,hf,hg⟩
def zoa(b:List UInt8)(s:H8):Nat->H8
 |0=>s
 |t+1=>zxo (kTab.getD t 0) ((wTo b 64).getD t 0) (zoa b s t)
theorem zrc{b:List UInt8}{s:H8}(h:s.ok): ∀t,(zoa b s t).ok
 |0=>h
 |t+1=>z5k (zrc h t)
def addH(s x:H8):H8:=⟨(s.a+x.a)%4294967296,(s.b+x.b)%4294967296,(s.c+x.c)%4294967296,(s.d+x.d)%4294967296,(s.e+x.e)%4294967296,(s.f+x.f)%4294967296,(s.g+x.g)%4294967296,(s.h+x.h)%4294967296⟩
theorem z9y(s x:H8):(addH s x).ok:=⟨Nat.mod_lt _ (by omega),Nat.mod_lt _ (by omega),Nat.mod_lt _ (by omega),Nat.mod_lt _ (by omega),Nat.mod_lt _ (by omega),Nat.mod_lt _ (by omega),Nat.mod_lt _ (by omega),Nat.mod_lt _ (by omega)⟩
def zrf(s:H8)(b:List UInt8):H8:=addH s (zoa b s 64)
def runH:Nat->H8->List UInt8->H8
 |0,s,_=>s
 |m+1,s,l=>runH m (zrf s (l.take 64)) (l.drop 64)
theorem zsi: ∀(m:Nat) (s:H8) (l:List UInt8),s.ok->(runH m s l).ok
 |0,s,l,h=>h
 |m+1,s,l,h=>zsi m _ _ (z9y _ _)
theorem zt3: ∀(m:Nat) (s:H8) (l:List UInt8),runH (m+1) s l=zrf (runH m s l) ((l.drop (64*m)).take 64)
 |0,s,l=>by simp[runH]
 |m+1,s,l=>by
  rw[runH,zt3 m,runH,List.drop_drop,show 64+64*m=64*(m+1)by omega]
def zd1(n:Nat):Nat:=(119-n%64)%64
def zjh(n:Nat):List UInt8:=128::(List.replicate (zd1 n) 0++beB 8 (n*8))
theorem zt6(n:Nat):(zjh n).length=9+zd1 n:=by
 unfold zjh
 rw[List.length_cons,List.length_append,List.length_replicate,za9];omega
theorem zub(n:Nat):zd1 n<64:=Nat.mod_lt _ (by omega)
theorem z8f(n:Nat):(n+(9+zd1 n))%64=0:=by unfold zd1;omega
def outH(s:H8):List UInt8:=s.list.flatMap (beB 4)
theorem z8d(s:H8):(outH s).length=32:=by simp[outH,H8.list,za9]
def shaB(l:List UInt8):List UInt8:=outH (runH ((l++zjh l.length).length/64) h0Tab (l++zjh l.length))
theorem zls(l:List UInt8):(shaB l).length=32:=z8d _
theorem z9h:h0Tab.ok:=by unfold H8.ok;decide
end Go.Proofs.YtpcfoglfakeimaaGreat

namespace Go.Proofs.YtpcfoglfakeimaaGreat.Sx
open Go.RowKit
section
theorem zqu{l:List UInt8}{i:Int}{j:Nat}(h:i=j)(hj:j<l.length):((l.map U8).drop (i.toNat*1)).take 1=[U8 (l.getD j 0)]:=by
 rw[zan h hj,List.getD_eq_getElem?_getD,List.getElem?_eq_getElem hj];rfl
abbrev U32(n:Nat):RV:= .i .u32 (n:Int)
theorem zkj(n:Nat):((n%4294967296:Nat):Int)=IntKind.u32.wrap (n:Int):=by
 simp only[IntKind.wrap]
 simp[IntKind.bits,IntKind.signed]
theorem Vint.u32{e:Int}{K:Int->Prop}(n:Nat)(he:e=(n:Int))(h:n<4294967296)(hK:K (n:Int)):Vint .u32 e K:=
 ⟨n,by rw[he,<-zkj,Nat.mod_eq_of_lt h],hK⟩
theorem Vint.m32{e:Int}{K:Int->Prop}(n:Nat)(he:e=(n:Int))(hK:K ((n%4294967296:Nat):Int)):Vint .u32 e K:=
 ⟨_,by rw[he,zkj],hK⟩
theorem bv32{a:Nat}(h:a<4294967296):(BitVec.ofInt 32 (a:Int)).toNat=a:=by rw[BitVec.toNat_ofInt];omega
theorem Vbits.and32{a b:Int}{K:Int->Prop}(x y:Nat)(ha:a=(x:Int))(hb:b=(y:Int))(hx:x<4294967296)(hy:y<4294967296)(hK:K ((x&&&y:Nat):Int)):Vbits .u32 .and a b K:=by
 subst ha;subst hb
 refine⟨_,?_,hK⟩
 show _=IntKind.u32.wrap (((BitVec.ofInt 32 (x:Int)&&&BitVec.ofInt 32 (y:Int)).toNat:Nat):Int)
 rw[BitVec.toNat_and,bv32 hx,bv32 hy,<-zkj,Nat.mod_eq_of_lt (zhh hx)]
theorem Vbits.xor32{a b:Int}{K:Int->Prop}(x y:Nat)(ha:a=(x:Int))(hb:b=(y:Int))(hx:x<4294967296)(hy:y<4294967296)(hK:K ((x^^^y:Nat):Int)):Vbits .u32 .xor a b K:=by
 subst ha;subst hb
 refine⟨_,?_,hK⟩
 show _=IntKind.u32.wrap (((BitVec.ofInt 32 (x:Int)^^^BitVec.ofInt 32 (y:Int)).toNat:Nat):Int)
 rw[BitVec.toNat_xor,bv32 hx,bv32 hy,<-zkj,Nat.mod_eq_of_lt (zkk hx hy)]
theorem Vbits.or32{a b:Int}{K:Int->Prop}(x y m:Nat)(ha:a=(x:Int))(hb:b=(y:Int))(hx:x<4294967296)(hy:y<4294967296)(hm:(x|||y)=m)(hK:K (m:Int)):Vbits .u32 .or a b K:=by
 subst ha;subst hb;subst hm
 refine⟨_,?_,hK⟩
 show _=IntKind.u32.wrap (((BitVec.ofInt 32 (x:Int)|||BitVec.ofInt 32 (y:Int)).toNat:Nat):Int)
 rw[BitVec.toNat_or,bv32 hx,bv32 hy,<-zkj,Nat.mod_eq_of_lt (Nat.or_lt_two_pow (n:=32) hx hy)]
theorem not32{e:Nat}(h:e<4294967296):4294967295^^^e=4294967295-e:=by
 apply Nat.eq_of_testBit_eq
 intro i
 rw[Nat.testBit_xor,show 4294967295-e=2^32-(e+1)by omega,Nat.testBit_two_pow_sub_succ h,show(4294967295:Nat)=2^32-(0+1)from rfl,Nat.testBit_two_pow_sub_succ (by decide)]
 by_cases hi:i<32
 ·simp[hi]
 ·have:e.testBit i=false:=Nat.testBit_lt_two_pow (Nat.lt_of_lt_of_le h (Nat.pow_le_pow_right (n:=2) (by omega) (show 32<=i by omega)))
  simp[hi,this]
theorem Vshr.n32{a b:Int}{K:Int->Prop}(x n m:Nat)(ha:a=(x:Int))(hb:b=(n:Int))(hn:n<=32)(hm:x/2^n=m)(hK:K (m:Int)):Vshr .u32 a b K:=by
 subst ha;subst hb;subst hm
 have e:IntKind.u32.bits=32:=rfl
 refine⟨by omega,_,?_,hK⟩
 rw[Int.toNat_natCast,e,Nat.min_eq_left hn,Int.fdiv_eq_ediv_of_nonneg _ (Int.pow_nonneg (by omega))]
 norm_cast
theorem Vshl.n32{a b:Int}{K:Int->Prop}(x n m:Nat)(ha:a=(x:Int))(hb:b=(n:Int))(hn:n<=32)(hm:x*2^n%4294967296=m)(hK:K (m:Int)):Vshl .u32 a b K:=by
 subst ha;subst hb;subst hm
 have e:IntKind.u32.bits=32:=rfl
 refine⟨by omega,_,?_,hK⟩
 rw[Int.toNat_natCast,e,Nat.min_eq_left hn,show(x:Int)*2^n=((x*2^n:Nat):Int)by simp]
 exact zkj _
theorem z7l(x n:Nat)(hx:x<4294967296)(hn:1<=n/\n<=31):aG 395 [U32 x,I (-(n:Int))] (.r (U32 (rotr n x))):=by
 refine aT Tryz.func395 rfl ?_
 have e1:(UInt64.ofNat (18446744073709551616-n)).toNat=18446744073709551616-n:=by rw[UInt64.toNat_ofNat'];omega
 refine Vint.n ((UInt64.ofNat (18446744073709551616-n)).toNat:Int) (by rw[e1];simp only[IntKind.wrap];simp[IntKind.bits,IntKind.signed];omega) ?_
 refine Vbits.wand (UInt64.ofNat (18446744073709551616-n)) 31 rfl rfl ?_
 have e2:(UInt64.ofNat (18446744073709551616-n)&&&31).toNat=32-n:=by
  rw[UInt64.toNat_and,e1]
  have:=Nat.and_two_pow_sub_one_eq_mod (18446744073709551616-n) 5
  have e:(31:UInt64).toNat=2^5-1:=rfl
  rw[e,this]
  omega
 rw[e2]
 have hp:=zai n
 have hq:=zai (32-n)
 have e:2^(32-n)*2^n=4294967296:=by rw[<-Nat.pow_add,show 32-n+n=32 by omega]
 have e3:x*2^(32-n)%4294967296=x%2^n*2^(32-n):=by rw[<-e,Nat.mul_comm (2^(32-n)),Nat.mul_mod_mul_right]
 have hd:x/2^n<2^(32-n):=Nat.div_lt_of_lt_mul (by rw[Nat.mul_comm,e];exact hx)
 have e4:x%2^n*2^(32-n)|||x/2^n=rotr n x:=by
  rw[nat_join (32-n) _ _ (Nat.mul_mod_left _ _) hd]
  unfold rotr;omega
 have hr:=zd0 hx hn.1 hn.2
 refine Vshl.n32 x (32-n) _ rfl rfl (by omega) e3 ?_
 refine Vint.u64 n (by omega) (by omega) ?_
 refine Vshr.n32 x n _ rfl rfl (by omega) rfl ?_
 refine Vbits.or32 _ _ (rotr n x) rfl rfl (by unfold rotr at hr;omega) (by unfold rotr at hr;omega) e4 ?_
 exact cr
theorem zcz(x n:Nat)(hx:x<4294967296)(hn:1<=n/\n<=31):aG 370 [U32 x,I n] (.r (U32 (rotr n x))):=by
 refine aT Tryz.func370 rfl ?_
 refine zd (m:= -(n:Int)) (by omega) (by omega) ?_
 refine ze (z7l x n hx hn) ?_
 exact cr
abbrev boxU(l:List Nat):Ow:= .box ((l.map U32).map .r)
def wZ(b:List UInt8)(t:Nat):List Nat:=wTo b t++List.replicate (64-t) 0
theorem z51(b:List UInt8){t:Nat}(ht:t<=64):(wZ b t).length=64:=by simp[wZ,zeh];omega
theorem z52(b:List UInt8){t:Nat}(ht:t<64):(wZ b t).set t (zjl b (wTo b t))=wZ b (t+1):=by
 unfold wZ
 rw[List.set_append_right _ _ (by rw[zeh];omega),zeh,Nat.sub_self,wTo,List.append_assoc,show 64-t=(64-(t+1))+1 by omega,List.replicate_succ]
 rfl
theorem zro(b:List UInt8){t j:Nat}(hj:j<t):(wZ b t).getD j 0=(wTo b t).getD j 0:=by
 unfold wZ
 rw[List.getD_eq_getElem?_getD,List.getD_eq_getElem?_getD,List.getElem?_append_left (by rw[zeh];exact hj)]
theorem ze8b(b:List UInt8):wZ b 64=wTo b 64:=by simp[wZ]
def woA3(b:List UInt8)(t:Nat):St:={F:=[(0, .r (bs b)),(2, .own 0),(3, .own 1),(10, .r (I t))],O:=[(0,some (boxU (List.replicate 64 0))),(1,some (boxU (wZ b t)))],nx:=2}
def woB3(b:List UInt8)(t:Nat):St:={F:=[(2, .own 0),(3, .own 1),(5, .r (I t))],O:=[(0,some (boxU (List.replicate 64 0))),(1,some (boxU (wZ b t)))],nx:=2}
theorem z0g(b:List UInt8)(t:Nat):stOk [(0,0),(1,1)] (woA3 b t)=true:=by
 simp only[stOk,woA3,boxU,List.all_cons,List.all_nil,zdl,zdw]
 rfl
theorem z0h(b:List UInt8)(t:Nat):stOk [(0,0),(1,1)] (woB3 b t)=true:=by
 simp only[stOk,woB3,boxU,List.all_cons,List.all_nil,zdl,zdw]
 rfl
attribute [irreducible] wZ
set_option maxHeartbeats 1000000 in
theorem z1o(b:List UInt8)(hb:b.length=64):aG 368 [bs b] (.r (.ag ((wZ b 64).map U32))):=by
 refine aT Tryz.func368 rfl ?_
 have ez:wZ b 0=List.replicate 64 0:=by unfold wZ;rfl
 refine Vloop.mk' (woA3 b) (λt=>t<=16) (λt=>16-t) 0 (by omega) (zac [(0,0),(1,1)] (z0g b 0) ⟨cr,rfl,rfl,cr,trivial⟩ ⟨zad ((List.replicate 64 (0:Nat)).map U32),by rw[ez];exact zad ((List.replicate 64 (0:Nat)).map U32),trivial⟩) ?_
 intro t ht
 refine zh (λh=>zq ?_) (λh=>zt ?_)
 ·simp only[zb]at h
  have ht':t<16:=by omega
  have hl:=zeh b t
  have hz:=z51 b (show t<=64 by omega)
  have h0:=(b.getD (4*t) 0).toNat_lt
  have h1:=(b.getD (4*t+1) 0).toNat_lt
  have h2:=(b.getD (4*t+2) 0).toNat_lt
  have h3:=(b.getD (4*t+3) 0).toNat_lt
  have hN:zjl b (wTo b t)=(((b.getD (4*t) 0).toNat*256+(b.getD (4*t+1) 0).toNat)*256+(b.getD (4*t+2) 0).toNat)*256+(b.getD (4*t+3) 0).toNat:=by
   unfold zjl;rw[hl,if_pos ht'];rfl
  have hs:=z52 b (show t<64 by omega)
  rw[hN]at hs
  obtain⟨c0,e0⟩: ∃c,(b.getD (4*t) 0).toNat=c:=⟨_,rfl⟩
  obtain⟨c1,e1⟩: ∃c,(b.getD (4*t+1) 0).toNat=c:=⟨_,rfl⟩
  obtain⟨c2,e2⟩: ∃c,(b.getD (4*t+2) 0).toNat=c:=⟨_,rfl⟩
  obtain⟨c3,e3⟩: ∃c,(b.getD (4*t+3) 0).toNat=c:=⟨_,rfl⟩
  rw[e0,e1,e2,e3]at hs
  rw[e0]at h0
  rw[e1]at h1
  rw[e2]at h2
  rw[e3]at h3
  refine aV ?_
  refine zd (m:=((4*t:Nat):Int)) (by omega) (by omega) ?_
  refine zm (by omega) (by omega) (zqu (j:=4*t) rfl (by omega)) (zg rfl ?_)
  refine Vint.u32 c0 (congrArg (λn:Nat=>(n:Int)) e0) (by omega) ?_
  refine Vshl.n32 c0 24 (c0*16777216) rfl rfl (by decide) (by omega) ?_
  refine zd (m:=((4*t:Nat):Int)) (by omega) (by omega) ?_
  refine zd (m:=((4*t+1:Nat):Int)) (by omega) (by omega) ?_
  refine zm (by omega) (by omega) (zqu (j:=4*t+1) rfl (by omega)) (zg rfl ?_)
  refine Vint.u32 c1 (congrArg (λn:Nat=>(n:Int)) e1) (by omega) ?_
  refine Vshl.n32 c1 16 (c1*65536) rfl rfl (by decide) (by omega) ?_
  refine Vbits.or32 (c0*16777216) (c1*65536) (c0*16777216+c1*65536) rfl rfl (by omega) (by omega) (nat_join 24 _ _ (by omega) (by omega)) ?_
  refine zd (m:=((4*t:Nat):Int)) (by omega) (by omega) ?_
  refine zd (m:=((4*t+2:Nat):Int)) (by omega) (by omega) ?_
  refine zm (by omega) (by omega) (zqu (j:=4*t+2) rfl (by omega)) (zg rfl ?_)
  refine Vint.u32 c2 (congrArg (λn:Nat=>(n:Int)) e2) (by omega) ?_
  refine Vshl.n32 c2 8 (c2*256) rfl rfl (by decide) (by omega) ?_
  refine Vbits.or32 (c0*16777216+c1*65536) (c2*256) (c0*16777216+c1*65536+c2*256) rfl rfl (by omega) (by omega) (nat_join 16 _ _ (by omega) (by omega)) ?_
  refine zd (m:=((4*t:Nat):Int)) (by omega) (by omega) ?_
  refine zd (m:=((4*t+3:Nat):Int)) (by omega) (by omega) ?_
  refine zm (by omega) (by omega) (zqu (j:=4*t+3) rfl (by omega)) (zg rfl ?_)
  refine Vint.u32 c3 (congrArg (λn:Nat=>(n:Int)) e3) (by omega) ?_
  refine Vbits.or32 (c0*16777216+c1*65536+c2*256) c3 (((c0*256+c1)*256+c2)*256+c3) rfl rfl (by omega) (by omega) (by rw[nat_join 8 _ _ (by omega) (by omega)];omega) ?_
  (conv=>whnf)
  generalize hq:zaz _ _ _ _ _=q
  obtain rfl:=hq.symm.trans (zbc rfl rfl rfl)
  clear hq
  refine Vadr.mk' t rfl (by omega) ?_
  (conv=>whnf)
  generalize hq:(za4 _&&_)=q
  obtain rfl:=hq.symm.trans (zrx (by rw[List.length_map,List.length_map,hz];omega))
  clear hq
  refine zxg (by rw[hz];omega) ?_
  rw[hs]
  refine zd (m:=((t+1:Nat):Int)) (by omega) (by omega) ?_
  exact⟨t+1,by omega,by omega,zac [(0,0),(1,1)] (z0g b (t+1)) ⟨cr,rfl,rfl,cr,trivial⟩ ⟨zad ((List.replicate 64 (0:Nat)).map U32),zad ((wZ b (t+1)).map U32),trivial⟩⟩
 ·simp only[zb]at h
  obtain rfl:t=16:=by omega
  refine Vloop.mk' (woB3 b) (λt=>16<=t/\t<=64) (λt=>64-t) 16 (by omega) (zac [(0,0),(1,1)] (z0h b 16) ⟨rfl,rfl,cr,trivial⟩ ⟨zad ((List.replicate 64 (0:Nat)).map U32),zad ((wZ b 16).map U32),trivial⟩) ?_
  rintro t ⟨h16,ht⟩
  have hz:=z51 b ht
  refine zh (λh=>zq ?_) (λh=>zt ?_)
  ·simp only[zb]at h
   have ht':t<64:=by omega
   have hs:=z52 b ht'
   have hN:zjl b (wTo b t)=(ss1 ((wTo b t).getD (t-2) 0)+(wTo b t).getD (t-7) 0+ss0 ((wTo b t).getD (t-15) 0)+(wTo b t).getD (t-16) 0)%4294967296:=by
    unfold zjl;rw[zeh,if_neg (by omega)]
   rw[hN]at hs
   have g15:=zro b (t:=t) (j:=t-15) (by omega)
   have g2:=zro b (t:=t) (j:=t-2) (by omega)
   have g7:=zro b (t:=t) (j:=t-7) (by omega)
   have g16:=zro b (t:=t) (j:=t-16) (by omega)
   have l15:=znn b t (t-15)
   have l2:=znn b t (t-2)
   have l7:=znn b t (t-7)
   have l16:=znn b t (t-16)
   generalize (wTo b t).getD (t-15) 0=x at*
   generalize (wTo b t).getD (t-2) 0=y at*
   generalize (wTo b t).getD (t-7) 0=p at*
   generalize (wTo b t).getD (t-16) 0=q at*
   refine aV ?_
   refine zd (m:=((t-15:Nat):Int)) (by omega) (by omega) ?_
   (conv=>whnf)
   generalize hq:zaz _ _ _ _ _=q
   obtain rfl:=hq.symm.trans (zbc rfl rfl rfl)
   clear hq
   refine Vadr.mk' (t-15) rfl (by omega) ?_
   (conv=>whnf)
   generalize hq:zaz _ _ _ _ _=q
   obtain rfl:=hq.symm.trans (zbc rfl rfl rfl)
   clear hq
   (conv=>whnf)
   generalize hq:lget _ _=q
   obtain rfl:=hq.symm.trans (zk4 U32 0 (l:=wZ b t) (j:=t-15) (by rw[hz];omega))
   clear hq
   rw[g15]
   refine zd (m:=((t-2:Nat):Int)) (by omega) (by omega) ?_
   (conv=>whnf)
   generalize hq:zaz _ _ _ _ _=q
   obtain rfl:=hq.symm.trans (zbc rfl rfl rfl)
   clear hq
   refine Vadr.mk' (t-2) rfl (by omega) ?_
   (conv=>whnf)
   generalize hq:zaz _ _ _ _ _=q
   obtain rfl:=hq.symm.trans (zbc rfl rfl rfl)
   clear hq
   (conv=>whnf)
   generalize hq:lget _ _=q
   obtain rfl:=hq.symm.trans (zk4 U32 0 (l:=wZ b t) (j:=t-2) (by rw[hz];omega))
   clear hq
   rw[g2]
   have r7:=zd0 (n:=7) l15 (by decide) (by decide)
   have r18:=zd0 (n:=18) l15 (by decide) (by decide)
   have r17:=zd0 (n:=17) l2 (by decide) (by decide)
   have r19:=zd0 (n:=19) l2 (by decide) (by decide)
   refine ze (zcz x 7 l15 (by decide)) ?_
   refine ze (zcz x 18 l15 (by decide)) ?_
   refine Vbits.xor32 _ _ rfl rfl r7 r18 ?_
   refine Vshr.n32 x 3 (x/8) rfl rfl (by decide) rfl ?_
   refine Vbits.xor32 _ _ rfl rfl (zkk r7 r18) (by omega) ?_
   refine ze (zcz y 17 l2 (by decide)) ?_
   refine ze (zcz y 19 l2 (by decide)) ?_
   refine Vbits.xor32 _ _ rfl rfl r17 r19 ?_
   refine Vshr.n32 y 10 (y/1024) rfl rfl (by decide) rfl ?_
   refine Vbits.xor32 _ _ rfl rfl (zkk r17 r19) (by omega) ?_
   refine aV ?_
   refine zd (m:=((t-7:Nat):Int)) (by omega) (by omega) ?_
   (conv=>whnf)
   generalize hq:zaz _ _ _ _ _=q
   obtain rfl:=hq.symm.trans (zbc rfl rfl rfl)
   clear hq
   refine Vadr.mk' (t-7) rfl (by omega) ?_
   (conv=>whnf)
   generalize hq:zaz _ _ _ _ _=q
   obtain rfl:=hq.symm.trans (zbc rfl rfl rfl)
   clear hq
   (conv=>whnf)
   generalize hq:lget _ _=q
   obtain rfl:=hq.symm.trans (zk4 U32 0 (l:=wZ b t) (j:=t-7) (by rw[hz];omega))
   clear hq
   rw[g7]
   refine Vint.m32 (ss1 y+p) rfl ?_
   refine Vint.m32 ((ss1 y+p)%4294967296+ss0 x) rfl ?_
   refine zd (m:=((t-16:Nat):Int)) (by omega) (by omega) ?_
   (conv=>whnf)
   generalize hq:zaz _ _ _ _ _=q
   obtain rfl:=hq.symm.trans (zbc rfl rfl rfl)
   clear hq
   refine Vadr.mk' (t-16) rfl (by omega) ?_
   (conv=>whnf)
   generalize hq:zaz _ _ _ _ _=q
   obtain rfl:=hq.symm.trans (zbc rfl rfl rfl)
   clear hq
   (conv=>whnf)
   generalize hq:lget _ _=q
   obtain rfl:=hq.symm.trans (zk4 U32 0 (l:=wZ b t) (j:=t-16) (by rw[hz];omega))
   clear hq
   rw[g16]
   refine Vint.m32 (((ss1 y+p)%4294967296+ss0 x)%4294967296+q) rfl ?_
   rw[show(((ss1 y+p)%4294967296+ss0 x)%4294967296+q)%4294967296=(ss1 y+p+ss0 x+q)%4294967296 by omega]
   (conv=>whnf)
   generalize hq:zaz _ _ _ _ _=q
   obtain rfl:=hq.symm.trans (zbc rfl rfl rfl)
   clear hq
   refine Vadr.mk' t rfl (by omega) ?_
   (conv=>whnf)
   generalize hq:(za4 _&&_)=q
   obtain rfl:=hq.symm.trans (zrx (by rw[List.length_map,List.length_map,hz];omega))
   clear hq
   refine zxg (by rw[hz];omega) ?_
   rw[hs]
   refine zd (m:=((t+1:Nat):Int)) (by omega) (by omega) ?_
   exact⟨t+1,by omega,by omega,zac [(0,0),(1,1)] (z0h b (t+1)) ⟨rfl,rfl,cr,trivial⟩ ⟨zad ((List.replicate 64 (0:Nat)).map U32),zad ((wZ b (t+1)).map U32),trivial⟩⟩
  ·simp only[zb]at h
   obtain rfl:t=64:=by omega
   refine za (l:=((wZ b 64).map U32).map TF.r) (List.take_of_length_le (by simp[hz])) (by simp[hz]) ?_
   (conv=>whnf)
   generalize hq:St.rvs _ _=q
   obtain rfl:=hq.symm.trans (zgv _ _)
   clear hq
   (conv=>whnf)
   generalize hq:(za4 _&&_)=q
   obtain rfl:=hq.symm.trans (zht (l:=(wZ b 64).map U32) 64 (by rw[List.length_map,hz]) rfl)
   clear hq
   refine zd7 (by rw[List.length_map,List.length_map,List.length_map,hz];rfl) ?_
   refine za (l:=((wZ b 64).map U32).map TF.r) (List.take_of_length_le (by simp[hz])) (by simp[hz]) ?_
   (conv=>whnf)
   generalize hq:St.rvs _ _=q
   obtain rfl:=hq.symm.trans (zgv _ _)
   clear hq
   exact cr
theorem z4f(b:List UInt8)(hb:b.length=64):aG 368 [bs b] (.r (.ag ((wTo b 64).map U32))):=by
 rw[<-ze8b];exact z1o b hb
end
set_option maxRecDepth 100000 in
set_option maxHeartbeats 1000000 in
theorem z07:aG 369 [] (.r (.ag (kTab.map U32))):=by
 refine aT Tryz.func369 rfl ?_
 repeat' ((conv=>whnf);first|refine za rfl rfl ?_)
 exact zf (by kernel_rfl)
abbrev vH(s:H8):List RV:=[U32 s.a,U32 s.b,U32 s.c,U32 s.d,U32 s.e,U32 s.f,U32 s.g,U32 s.h]
abbrev bH(s:H8):Ow:= .box [.r (U32 s.a), .r (U32 s.b), .r (U32 s.c), .r (U32 s.d), .r (U32 s.e), .r (U32 s.f), .r (U32 s.g), .r (U32 s.h)]
theorem z3p:aG 333 [] (.r (.ag (vH h0Tab))):=by
 refine aT Tryz.func333 rfl ?_
 repeat' ((conv=>whnf);first|refine za rfl rfl ?_)
 exact cr
theorem Vint.add32{a b:Int}{K:Int->Prop}(x y:Nat)(ha:a=(x:Int))(hb:b=(y:Int))(hK:K (((x+y)%4294967296:Nat):Int)):Vint .u32 (a+b) K:=Vint.m32 (x+y) (by rw[ha,hb];rfl) hK
theorem Vbits.not32{a:Int}{K:Int->Prop}(x:Nat)(ha:a=(x:Int))(hx:x<4294967296)(hK:K ((4294967295-x:Nat):Int)):Vbits .u32 .xor 4294967295 a K:=Vbits.xor32 4294967295 x rfl ha (by decide) hx (by rw[Sx.not32 hx];exact hK)
def stI3(v:Value)(s:H8)(k w:List Nat)(x:H8)(j:Nat):St:={F:=[(0, .own 0),(4, .own 1),(5, .own 2),(6, .own 3),(19, .r (I j)),(1000000, .nm 0 v)],O:=[(0,some (bH s)),(1,some (boxU w)),(2,some (boxU k)),(3,some (bH x))],nx:=4}
theorem z0c(v:Value)(s:H8)(k w:List Nat)(x:H8)(j:Nat):stOk [(0,0),(1,1),(2,2),(3,3)] (stI3 v s k w x j)=true:=by
 simp only[stOk,stI3,boxU,List.all_cons,List.all_nil,zdl,zdw]
 rfl
set_option maxHeartbeats 4000000 in
theorem zv6(v:Value)(s:H8)(b:List UInt8)(hs:s.ok)(hb:b.length=64):Acts Tryz.prog 335 1 [(0,(bH s))] [.own 0, .r (bs b)] [(0,v)] 1 [(0,(bH (zrf s b)))] (.r (.tu [])):=by
 refine zb6 (T:=Tab) mixed Tab_ok Tryz.func335 rfl (by kernel_rfl) rfl ⟨⟨_,_,rfl,rfl,zbw,zbw⟩,trivial⟩ ?_
 have hw:=z4f b hb
 have hk:=z07
 have lw:=zeh b 64
 have bw:=znn b 64
 have lk:kTab.length=64:=rfl
 have bk:=zbhb
 obtain⟨X,hX0,hXs,hXok,hXe⟩: ∃X:Nat->H8,X 0=s/\(∀j,X (j+1)=zxo (kTab.getD j 0) ((wTo b 64).getD j 0) (X j))/\(∀j,(X j).ok)/\zrf s b=addH s (X 64):=⟨zoa b s,rfl,λ_=>rfl,zrc hs,rfl⟩
 rw[hXe]
 generalize wTo b 64=w at*
 generalize kTab=k at*
 refine ze hw ?_
 refine ze hk ?_
 (conv=>whnf)
 generalize hq:(za4 _&&_)=q
 obtain rfl:=hq.symm.trans (zht (l:=w.map U32) 64 (by rw[List.length_map,lw]) rfl)
 clear hq
 refine zd7 (by rw[List.length_map,List.length_map,lw];rfl) ?_
 (conv=>whnf)
 generalize hq:(za4 _&&_)=q
 obtain rfl:=hq.symm.trans (zht (l:=k.map U32) 64 (by rw[List.length_map,lk]) rfl)
 clear hq
 refine zd7 (by rw[List.length_map,List.length_map,lk];rfl) ?_
 refine za rfl rfl ?_
 refine Vloop.mk' (λj=>stI3 v s k w (X j) j) (λj=>j<=64) (λj=>64-j) 0 (by omega) (zac [(0,0),(1,1),(2,2),(3,3)] (z0c v s k w (X 0) 0) ⟨rfl,rfl,rfl,rfl,cr,⟨rfl,rfl⟩,trivial⟩ ⟨(aD aZ),zad (w.map U32),zad (k.map U32),by rw[hX0];exact⟨_,_,rfl,cr,_,_,rfl,cr,_,_,rfl,cr,_,_,rfl,cr,_,_,rfl,cr,_,_,rfl,cr,_,_,rfl,cr,_,_,rfl,cr,rfl⟩,trivial⟩) ?_
 intro j hj
 refine zh (λh=>zq ?_) (λh=>zt ?_)
 ·simp only[zb]at h
  have hj':j<64:=by omega
  have hx1:=hXs j
  obtain⟨oa,ob,oc,od,oe,of,og,oh⟩:=hXok j
  have bwj:=bw j
  have bkj:=bk j
  generalize hX:X j=x at*
  generalize hwj:w.getD j 0=wj at*
  generalize hkj:k.getD j 0=kj at*
  refine aV ?_
  refine Vadr.any (by decide) ?_
  refine Vadr.any (by decide) ?_
  have r6:=zd0 (n:=6) oe (by decide) (by decide)
  have r11:=zd0 (n:=11) oe (by decide) (by decide)
  have r25:=zd0 (n:=25) oe (by decide) (by decide)
  have r2:=zd0 (n:=2) oa (by decide) (by decide)
  have r13:=zd0 (n:=13) oa (by decide) (by decide)
  have r22:=zd0 (n:=22) oa (by decide) (by decide)
  refine aV ?_
  refine Vadr.any (by decide) ?_
  refine ze (zcz _ 6 oe (by decide)) ?_
  refine ze (zcz _ 11 oe (by decide)) ?_
  refine Vbits.xor32 _ _ rfl rfl r6 r11 ?_
  refine ze (zcz _ 25 oe (by decide)) ?_
  refine Vbits.xor32 _ _ rfl rfl (zkk r6 r11) r25 ?_
  refine Vint.add32 x.h (bs1 x.e) rfl rfl ?_
  refine Vadr.any (by decide) ?_
  refine Vbits.and32 _ _ rfl rfl oe of ?_
  refine Vbits.not32 x.e rfl oe ?_
  refine Vadr.any (by decide) ?_
  refine Vbits.and32 _ _ rfl rfl (by omega) og ?_
  refine Vbits.xor32 _ _ rfl rfl (zhh oe) (zhh (by omega)) ?_
  refine Vint.add32 _ (chN x.e x.f x.g) rfl rfl ?_
  (conv=>whnf)
  generalize hq:zaz _ _ _ _ _=q
  obtain rfl:=hq.symm.trans (zbc rfl rfl rfl)
  clear hq
  refine Vadr.mk' j rfl (by omega) ?_
  (conv=>whnf)
  generalize hq:zaz _ _ _ _ _=q
  obtain rfl:=hq.symm.trans (zbc rfl rfl rfl)
  clear hq
  (conv=>whnf)
  generalize hq:lget _ _=q
  obtain rfl:=hq.symm.trans (zk4 U32 0 (l:=k) (j:=j) (by rw[lk];omega))
  clear hq
  rw[show k.getD j 0=kj from hkj]
  refine Vint.add32 _ kj rfl rfl ?_
  (conv=>whnf)
  generalize hq:zaz _ _ _ _ _=q
  obtain rfl:=hq.symm.trans (zbc rfl rfl rfl)
  clear hq
  refine Vadr.mk' j rfl (by omega) ?_
  (conv=>whnf)
  generalize hq:zaz _ _ _ _ _=q
  obtain rfl:=hq.symm.trans (zbc rfl rfl rfl)
  clear hq
  (conv=>whnf)
  generalize hq:lget _ _=q
  obtain rfl:=hq.symm.trans (zk4 U32 0 (l:=w) (j:=j) (by rw[lw];omega))
  clear hq
  rw[show w.getD j 0=wj from hwj]
  refine Vint.add32 _ wj rfl rfl ?_
  refine aV ?_
  refine ze (zcz _ 2 oa (by decide)) ?_
  refine ze (zcz _ 13 oa (by decide)) ?_
  refine Vbits.xor32 _ _ rfl rfl r2 r13 ?_
  refine ze (zcz _ 22 oa (by decide)) ?_
  refine Vbits.xor32 _ _ rfl rfl (zkk r2 r13) r22 ?_
  refine Vadr.any (by decide) ?_
  refine Vbits.and32 _ _ rfl rfl oa ob ?_
  refine Vadr.any (by decide) ?_
  refine Vbits.and32 _ _ rfl rfl oa oc ?_
  refine Vbits.xor32 _ _ rfl rfl (zhh oa) (zhh oa) ?_
  refine Vadr.any (by decide) ?_
  refine Vadr.any (by decide) ?_
  refine Vbits.and32 _ _ rfl rfl ob oc ?_
  refine Vbits.xor32 _ _ rfl rfl (zkk (zhh oa) (zhh oa)) (zhh ob) ?_
  refine Vint.add32 (bs0 x.a) (majN x.a x.b x.c) rfl rfl ?_
  refine aV ?_
  refine Vcutn.mk' 1 7 rfl rfl (by decide) (by decide) ?_
  refine Vcutn.mk' 0 7 rfl rfl (by decide) (by decide) ?_
  refine Vstep.copyBox (n:=7) (m:=7) (ys:=[U32 x.a,U32 x.b,U32 x.c,U32 x.d,U32 x.e,U32 x.f,U32 x.g]) (zs:=[.r (U32 x.a), .r (U32 x.a), .r (U32 x.b), .r (U32 x.c), .r (U32 x.d), .r (U32 x.e), .r (U32 x.f), .r (U32 x.g)]) Tab_ok rfl rfl rfl rfl rfl rfl rfl (by show 1*1+7<=8;decide) rfl (.inr ⟨0,rfl,by show 0+7<=8;decide,rfl⟩) rfl ?_
  refine Vadr.any (by decide) ?_
  refine Vint.add32 x.d _ rfl rfl ?_
  refine Vadr.any (by decide) ?_
  refine Vint.add32 _ _ rfl rfl ?_
  refine Vadr.any (by decide) ?_
  refine zd (m:=((j+1:Nat):Int)) (by omega) (by omega) ?_
  have ea:((((((x.h+bs1 x.e)%4294967296+chN x.e x.f x.g)%4294967296+kj)%4294967296+wj)%4294967296)+(bs0 x.a+majN x.a x.b x.c)%4294967296)%4294967296=(t1N kj wj x+t2N x)%4294967296:=by unfold t1N t2N;omega
  have ee:(x.d+((((x.h+bs1 x.e)%4294967296+chN x.e x.f x.g)%4294967296+kj)%4294967296+wj)%4294967296)%4294967296=(x.d+t1N kj wj x)%4294967296:=by unfold t1N;omega
  rw[ea,ee]
  exact⟨j+1,by omega,by omega,zac [(0,0),(1,1),(2,2),(3,3)] (z0c v s k w (X (j+1)) (j+1)) ⟨rfl,rfl,rfl,rfl,cr,⟨rfl,rfl⟩,trivial⟩ ⟨(aD aZ),zad (w.map U32),zad (k.map U32),by rw[hx1];exact⟨_,_,rfl,cr,_,_,rfl,cr,_,_,rfl,cr,_,_,rfl,cr,_,_,rfl,cr,_,_,rfl,cr,_,_,rfl,cr,_,_,rfl,cr,rfl⟩,trivial⟩⟩
 ·simp only[zb]at h
  obtain rfl:j=64:=by omega
  generalize X 64=x
  refine Vloop.rounds 9 ?_
  repeat' ((conv=>whnf);first|refine Vrounds.step mixed Tab_ok ?_|refine zu rfl (zq ?_)|refine zw rfl (zt ?_)|refine Vadr.any (by decide) ?_|refine Vint.any (k:= .i64) ?_|refine Vint.add32 _ _ rfl rfl ?_|refine za rfl rfl ?_|refine aV ?_)
  exact zfc (.inr rfl) [(0,0)] [] [] rfl ⟨⟨rfl,rfl⟩,trivial⟩ ⟨(aD aZ),trivial⟩ ⟨⟨1000000,rfl⟩,trivial⟩ ⟨_,rfl,cr⟩
end Go.Proofs.YtpcfoglfakeimaaGreat.Sx
