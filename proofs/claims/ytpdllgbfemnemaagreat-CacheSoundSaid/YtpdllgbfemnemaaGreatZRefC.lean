import Derived.Test.YtpdllgbfemnemaaGreatZOnes
namespace Go.Proofs.YtpdllgbfemnemaaGreat
set_option linter.unusedVariables false
section
def rotr(n x:Nat):Nat:=x/2^n+x%2^n*2^(32-n)
def chN(e f g:Nat):Nat:=(e&&&f)^^^((4294967295-e)&&&g)
def majN(a b c:Nat):Nat:=((a&&&b)^^^(a&&&c))^^^(b&&&c)
def bs0(a:Nat):Nat:=(rotr 2 a^^^rotr 13 a)^^^rotr 22 a
def bs1(e:Nat):Nat:=(rotr 6 e^^^rotr 11 e)^^^rotr 25 e
def ss0(x:Nat):Nat:=(rotr 7 x^^^rotr 18 x)^^^(x/8)
def ss1(x:Nat):Nat:=(rotr 17 x^^^rotr 19 x)^^^(x/1024)
theorem zgmb:(2:Nat)^32=4294967296:=rfl
theorem zcr{n x:Nat}(hx:x<4294967296)(h1:1<=n)(h2:n<=31):rotr n x<4294967296:=by
 unfold rotr
 have hp:=zag n
 have hq:=zag (32-n)
 have e:2^(32-n)*2^n=4294967296:=by rw[<-Nat.pow_add,show 32-n+n=32 by omega]
 have hd:x/2^n<2^(32-n):=Nat.div_lt_of_lt_mul (by rw[Nat.mul_comm,e];exact hx)
 have hm:x%2^n<2^n:=Nat.mod_lt _ hp
 generalize x/2^n=d at*
 generalize x%2^n=m at*
 have:=Nat.mul_le_mul_right (2^(32-n)) (show m+1<=2^n from hm)
 rw[Nat.add_mul,Nat.mul_comm (2^n),e]at this
 omega
theorem zdy{a b:Nat}(ha:a<4294967296)(hb:b<4294967296):a^^^b<4294967296:=by
 rw[<-zgmb]at*;exact Nat.xor_lt_two_pow ha hb
theorem zf0{a b:Nat}(ha:a<4294967296):a&&&b<4294967296:=Nat.lt_of_le_of_lt Nat.and_le_left ha
theorem zfqb{e f g:Nat}(he:e<4294967296):chN e f g<4294967296:=zdy (zf0 he) (zf0 (by omega))
theorem zetb{a b c:Nat}(ha:a<4294967296)(hb:b<4294967296):majN a b c<4294967296:=zdy (zdy (zf0 ha) (zf0 ha)) (zf0 hb)
theorem zfjb{a:Nat}(ha:a<4294967296):bs0 a<4294967296:=zdy (zdy (zcr ha (by omega) (by omega)) (zcr ha (by omega) (by omega))) (zcr ha (by omega) (by omega))
theorem zf1b{a:Nat}(ha:a<4294967296):bs1 a<4294967296:=zdy (zdy (zcr ha (by omega) (by omega)) (zcr ha (by omega) (by omega))) (zcr ha (by omega) (by omega))
theorem zfcb{a:Nat}(ha:a<4294967296):ss0 a<4294967296:=zdy (zdy (zcr ha (by omega) (by omega)) (zcr ha (by omega) (by omega))) (by omega)
theorem zflb{a:Nat}(ha:a<4294967296):ss1 a<4294967296:=zdy (zdy (zcr ha (by omega) (by omega)) (zcr ha (by omega) (by omega))) (by omega)
structure H8 where
 a:Nat
 b:Nat
 c:Nat
 d:Nat
 e:Nat
 f:Nat
 g:Nat
 h:Nat
def H8.ok(s:H8):Prop:=s.a<4294967296/\s.b<4294967296/\s.c<4294967296/\s.d<4294967296/\s.e<4294967296/\s.f<4294967296/\s.g<4294967296/\s.h<4294967296
def H8.list(s:H8):List Nat:=[s.a,s.b,s.c,s.d,s.e,s.f,s.g,s.h]
def be32(b:List UInt8)(i:Nat):Nat:=(((b.getD i 0).toNat*256+(b.getD (i+1) 0).toNat)*256+(b.getD (i+2) 0).toNat)*256+(b.getD (i+3) 0).toNat
theorem zdvb(b:List UInt8)(i:Nat):be32 b i<4294967296:=by
 unfold be32
 have h0:=(b.getD i 0).toNat_lt
 have h1:=(b.getD (i+1) 0).toNat_lt
 have h2:=(b.getD (i+2) 0).toNat_lt
 have h3:=(b.getD (i+3) 0).toNat_lt
 omega
def zga(b:List UInt8)(L:List Nat):Nat:=
 if L.length<16 then be32 b (4*L.length)
 else(ss1 (L.getD (L.length-2) 0)+L.getD (L.length-7) 0+ss0 (L.getD (L.length-15) 0)+L.getD (L.length-16) 0)%4294967296
def wTo(b:List UInt8):Nat->List Nat
 |0=>[]
 |t+1=>wTo b t++[zga b (wTo b t)]
theorem zcl(b:List UInt8): ∀t,(wTo b t).length=t
 |0=>rfl
 |t+1=>by rw[wTo,List.length_append,zcl b t];rfl
theorem zb5b(b:List UInt8)(L:List Nat):zga b L<4294967296:=by
 unfold zga
 split
 ·exact zdvb _ _
 ·exact Nat.mod_lt _ (by omega)
theorem z9h(b:List UInt8): ∀t,∀x∈wTo b t,x<4294967296
 |0,x,h=>by cases h
 |t+1,x,h=>by
  rcases List.mem_append.1 h with h |h
  ·exact z9h b t x h
  ·rw[List.mem_singleton.1 h];exact zb5b _ _
def kTab:List Nat:=[
 0x428a2f98,0x71374491,0xb5c0fbcf,0xe9b5dba5,0x3956c25b,0x59f111f1,0x923f82a4,0xab1c5ed5,
 0xd807aa98,0x12835b01,0x243185be,0x550c7dc3,0x72be5d74,0x80deb1fe,0x9bdc06a7,0xc19bf174,
 0xe49b69c1,0xefbe4786,0x0fc19dc6,0x240ca1cc,0x2de92c6f,0x4a7484aa,0x5cb0a9dc,0x76f988da,
 0x983e5152,0xa831c66d,0xb00327c8,0xbf597fc7,0xc6e00bf3,0xd5a79147,0x06ca6351,0x14292967,
 0x27b70a85,0x2e1b2138,0x4d2c6dfc,0x53380d13,0x650a7354,0x766a0abb,0x81c2c92e,0x92722c85,
 0xa2bfe8a1,0xa81a664b,0xc24b8b70,0xc76c51a3,0xd192e819,0xd6990624,0xf40e3585,0x106aa070,
 0x19a4c116,0x1e376c08,0x2748774c,0x34b0bcb5,0x391c0cb3,0x4ed8aa4a,0x5b9cca4f,0x682e6ff3,
 0x748f82ee,0x78a5636f,0x84c87814,0x8cc70208,0x90befffa,0xa4506ceb,0xbef9a3f7,0xc67178f2]
def h0Tab:H8:=⟨0x6a09e667,0xbb67ae85,0x3c6ef372,0xa54ff53a,0x510e527f,0x9b05688c,0x1f83d9ab,0x5be0cd19⟩
theorem zs1:kTab.length=64:=rfl
theorem zc6b: ∀x∈kTab,x<4294967296:=by decide+kernel
theorem zenb(t:Nat):kTab.getD t 0<4294967296:=by
 rcases Nat.lt_or_ge t 64 with h |h
 ·have hl:t<kTab.length:=h
  rw[List.getD_eq_getElem?_getD,List.getElem?_eq_getElem hl]
  exact zc6b _ (List.getElem_mem hl)
 ·rw[List.getD_eq_getElem?_getD,List.getElem?_eq_none (by rw[zs1];exact h)];decide
theorem zlb(b:List UInt8)(n t:Nat):(wTo b n).getD t 0<4294967296:=by
 rcases Nat.lt_or_ge t n with h |h
 ·have hl:t< (wTo b n).length:=by rw[zcl];exact h
  rw[List.getD_eq_getElem?_getD,List.getElem?_eq_getElem hl]
  exact z9h _ _ _ (List.getElem_mem hl)
 ·rw[List.getD_eq_getElem?_getD,List.getElem?_eq_none (by rw[zcl];exact h)];decide
def t1N(k w:Nat)(s:H8):Nat:=s.h+bs1 s.e+chN s.e s.f s.g+k+w
def t2N(s:H8):Nat:=bs0 s.a+majN s.a s.b s.c
def zuv(k w:Nat)(s:H8):H8:=⟨(t1N k w s+t2N s)%4294967296,s.a,s.b,s.c,(s.d+t1N k w s)%4294967296,s.e,s.f,s.g⟩
theorem z8k{k w:Nat}{s:H8}(h:s.ok):(zuv k w s).ok:=by
 obtain⟨ha,hb,hc,hd,he,hf,hg,hh⟩:=h
 exact⟨Nat.mod_lt _ (by omega),ha,hb,hc,Nat.mod_lt _ (by omega),he,hf,hg⟩
def zek(b:List UInt8)(s:H8):Nat->H8
 |0=>s
 |t+1=>zuv (kTab.getD t 0) ((wTo b 64).getD t 0) (zek b s t)
theorem zol{b:List UInt8}{s:H8}(h:s.ok): ∀t,(zek b s t).ok
 |0=>h
 |t+1=>z8k (zol h t)
def addH(s x:H8):H8:=⟨(s.a+x.a)%4294967296,(s.b+x.b)%4294967296,(s.c+x.c)%4294967296,(s.d+x.d)%4294967296,(s.e+x.e)%4294967296,(s.f+x.f)%4294967296,(s.g+x.g)%4294967296,(s.h+x.h)%4294967296⟩
theorem zezb(s x:H8):(addH s x).ok:=⟨Nat.mod_lt _ (by omega),Nat.mod_lt _ (by omega),Nat.mod_lt _ (by omega),Nat.mod_lt _ (by omega),Nat.mod_lt _ (by omega),Nat.mod_lt _ (by omega),Nat.mod_lt _ (by omega),Nat.mod_lt _ (by omega)⟩
def zmc(s:H8)(b:List UInt8):H8:=addH s (zek b s 64)
def runH:Nat->H8->List UInt8->H8
 |0,s,_=>s
 |m+1,s,l=>runH m (zmc s (l.take 64)) (l.drop 64)
theorem zra: ∀(m:Nat) (s:H8) (l:List UInt8),s.ok->(runH m s l).ok
 |0,s,l,h=>h
 |m+1,s,l,h=>zra m _ _ (zezb _ _)
theorem zph: ∀(m:Nat) (s:H8) (l:List UInt8),runH (m+1) s l=zmc (runH m s l) ((l.drop (64*m)).take 64)
 |0,s,l=>by simp[runH]
 |m+1,s,l=>by
  rw[runH,zph m,runH,List.drop_drop,show 64+64*m=64*(m+1)by omega]
def zdb(n:Nat):Nat:=(119-n%64)%64
def zjo(n:Nat):List UInt8:=128::(List.replicate (zdb n) 0++beB 8 (n*8))
theorem zqz(n:Nat):(zjo n).length=9+zdb n:=by
 unfold zjo
 rw[List.length_cons,List.length_append,List.length_replicate,zaw];omega
theorem zmg(n:Nat):zdb n<64:=Nat.mod_lt _ (by omega)
theorem z1g(n:Nat):(n+(9+zdb n))%64=0:=by unfold zdb;omega
def outH(s:H8):List UInt8:=s.list.flatMap (beB 4)
theorem zhs(s:H8):(outH s).length=32:=by simp[outH,H8.list,zaw]
def shaB(l:List UInt8):List UInt8:=outH (runH ((l++zjo l.length).length/64) h0Tab (l++zjo l.length))
theorem zff(l:List UInt8):(shaB l).length=32:=zhs _
theorem z4o:h0Tab.ok:=by unfold H8.ok;decide
end
section
theorem zkc(x t:Nat):x/2^t%2=(x.testBit t).toNat:=by
 rw[Nat.testBit_eq_decide_div_mod_eq]
 have:x/2^t%2<2:=Nat.mod_lt _ (by omega)
 by_cases h:x/2^t%2=1
 ·simp[h]
 ·simp[h];omega
theorem zzd(x t:Nat):x%2^(t+1)=x%2^t+x/2^t%2*2^t:=by rw[Nat.pow_succ,Nat.mod_mul,Nat.mul_comm]
theorem zdyb{e t:Nat}(he:e<4294967296)(ht:t<32):(4294967295-e).testBit t= !e.testBit t:=by
 have h:=Nat.testBit_two_pow_sub_succ (x:=e) (n:=32) (by simpa using he) t
 rw[show 2^32-(e+1)=4294967295-e by omega]at h
 rw[h];simp[ht]
theorem zd6b{e f g t:Nat}(he:e<4294967296)(ht:t<32):
  (e/2^t%2=1->chN e f g%2^(t+1)=chN e f g%2^t+f/2^t%2*2^t)/\(¬e/2^t%2=1->chN e f g%2^(t+1)=chN e f g%2^t+g/2^t%2*2^t):=by
 have hb:(chN e f g).testBit t=((e.testBit t&&f.testBit t)^^(!e.testBit t&&g.testBit t)):=by
  unfold chN
  rw[Nat.testBit_xor,Nat.testBit_and,Nat.testBit_and,zdyb he ht]
 rw[zzd,zkc e,zkc f,zkc g,zkc (chN e f g),hb]
 cases e.testBit t<;>cases f.testBit t<;>cases g.testBit t<;>simp
theorem zoc{a b c t:Nat}:
  (2<=a/2^t%2+b/2^t%2+c/2^t%2->majN a b c%2^(t+1)=majN a b c%2^t+2^t)/\(¬2<=a/2^t%2+b/2^t%2+c/2^t%2->majN a b c%2^(t+1)=majN a b c%2^t):=by
 have hb:(majN a b c).testBit t=(((a.testBit t&&b.testBit t)^^(a.testBit t&&c.testBit t))^^(b.testBit t&&c.testBit t)):=by
  unfold majN
  rw[Nat.testBit_xor,Nat.testBit_xor,Nat.testBit_and,Nat.testBit_and,Nat.testBit_and]
 rw[zzd,zkc a,zkc b,zkc c,zkc (majN a b c),hb]
 cases a.testBit t<;>cases b.testBit t<;>cases c.testBit t<;>simp
end
end Go.Proofs.YtpdllgbfemnemaaGreat
