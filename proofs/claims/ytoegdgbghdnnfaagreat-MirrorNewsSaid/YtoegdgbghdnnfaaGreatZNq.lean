import Derived.Test.YtoegdgbghdnnfaaGreatZSha
import Derived.Test.YtoegdgbghdnnfaaGreatZKc
namespace Go.Proofs.YtoegdgbghdnnfaaGreat.Sx
open Go.RowKit
section
theorem znw{l:List UInt8}{i:Int}{j:Nat}(h:i=j)(hj:j<l.length):((l.map U8).drop (i.toNat*1)).take 1=[U8 (l.getD j 0)]:=by
 rw[zaj h hj,List.getD_eq_getElem?_getD,List.getElem?_eq_getElem hj];rfl
abbrev U32(n:Nat):RV:= .i .u32 (n:Int)
theorem zli(n:Nat):((n%4294967296:Nat):Int)=IntKind.u32.wrap (n:Int):=by
 simp only[IntKind.wrap]
 simp[IntKind.bits,IntKind.signed]
theorem Vint.u32{e:Int}{K:Int->Prop}(n:Nat)(he:e=(n:Int))(h:n<4294967296)(hK:K (n:Int)):Vint .u32 e K:=
 ⟨n,by rw[he,<-zli,Nat.mod_eq_of_lt h],hK⟩
theorem Vint.m32{e:Int}{K:Int->Prop}(n:Nat)(he:e=(n:Int))(hK:K ((n%4294967296:Nat):Int)):Vint .u32 e K:=
 ⟨_,by rw[he,zli],hK⟩
theorem bv32{a:Nat}(h:a<4294967296):(BitVec.ofInt 32 (a:Int)).toNat=a:=by rw[BitVec.toNat_ofInt];omega
theorem Vbits.and32{a b:Int}{K:Int->Prop}(x y:Nat)(ha:a=(x:Int))(hb:b=(y:Int))(hx:x<4294967296)(hy:y<4294967296)(hK:K ((x&&&y:Nat):Int)):Vbits .u32 .and a b K:=by
 subst ha;subst hb
 refine⟨_,?_,hK⟩
 show _=IntKind.u32.wrap (((BitVec.ofInt 32 (x:Int)&&&BitVec.ofInt 32 (y:Int)).toNat:Nat):Int)
 rw[BitVec.toNat_and,bv32 hx,bv32 hy,<-zli,Nat.mod_eq_of_lt (ze2 hx)]
theorem Vbits.xor32{a b:Int}{K:Int->Prop}(x y:Nat)(ha:a=(x:Int))(hb:b=(y:Int))(hx:x<4294967296)(hy:y<4294967296)(hK:K ((x^^^y:Nat):Int)):Vbits .u32 .xor a b K:=by
 subst ha;subst hb
 refine⟨_,?_,hK⟩
 show _=IntKind.u32.wrap (((BitVec.ofInt 32 (x:Int)^^^BitVec.ofInt 32 (y:Int)).toNat:Nat):Int)
 rw[BitVec.toNat_xor,bv32 hx,bv32 hy,<-zli,Nat.mod_eq_of_lt (zcp hx hy)]
theorem Vbits.or32{a b:Int}{K:Int->Prop}(x y m:Nat)(ha:a=(x:Int))(hb:b=(y:Int))(hx:x<4294967296)(hy:y<4294967296)(hm:(x|||y)=m)(hK:K (m:Int)):Vbits .u32 .or a b K:=by
 subst ha;subst hb;subst hm
 refine⟨_,?_,hK⟩
 show _=IntKind.u32.wrap (((BitVec.ofInt 32 (x:Int)|||BitVec.ofInt 32 (y:Int)).toNat:Nat):Int)
 rw[BitVec.toNat_or,bv32 hx,bv32 hy,<-zli,Nat.mod_eq_of_lt (Nat.or_lt_two_pow (n:=32) hx hy)]
theorem not32{e:Nat}(h:e<4294967296):4294967295^^^e=4294967295-e:=by
 apply Nat.eq_of_testBit_eq
 intro i
 rw[Nat.testBit_xor,show 4294967295-e=2^32-(e+1)by omega,Nat.testBit_two_pow_sub_succ h,show(4294967295:Nat)=2^32-(0+1)from rfl,Nat.testBit_two_pow_sub_succ (by decide)]
 by_cases hi:i<32
 ·simp[hi]
 ·have:e.testBit i=false:=Nat.testBit_lt_two_pow (Nat.lt_of_lt_of_le h (Nat.pow_le_pow_right (n:=2) (by omega) (show 32<=i by omega)))
  simp[hi,this]
theorem Vshr.n32{a b:Int}{K:Int->Prop}(x n m:Nat)(ha:a=(x:Int))(hb:b=(n:Int))(hn:n<=32)(hm:x/2^n=m)(hK:K (m:Int)):Vshr .u32 a b K:=by
 subst ha;subst hb;subst hm
 have e:IntKind.u32.bits=32:=rfl
 refine⟨by omega,_,?_,hK⟩
 rw[Int.toNat_natCast,e,Nat.min_eq_left hn,Int.fdiv_eq_ediv_of_nonneg _ (Int.pow_nonneg (by omega))]
 norm_cast
theorem Vshl.n32{a b:Int}{K:Int->Prop}(x n m:Nat)(ha:a=(x:Int))(hb:b=(n:Int))(hn:n<=32)(hm:x*2^n%4294967296=m)(hK:K (m:Int)):Vshl .u32 a b K:=by
 subst ha;subst hb;subst hm
 have e:IntKind.u32.bits=32:=rfl
 refine⟨by omega,_,?_,hK⟩
 rw[Int.toNat_natCast,e,Nat.min_eq_left hn,show(x:Int)*2^n=((x*2^n:Nat):Int)by simp]
 exact zli _
theorem zarb(x n:Nat)(hx:x<4294967296)(hn:1<=n/\n<=31):bG 337 [U32 x,I (-(n:Int))] (.r (U32 (rotr n x))):=by
 refine bT Tryz.func337 rfl ?_
 have e1:(UInt64.ofNat (18446744073709551616-n)).toNat=18446744073709551616-n:=by rw[UInt64.toNat_ofNat'];omega
 refine Vint.n ((UInt64.ofNat (18446744073709551616-n)).toNat:Int) (by rw[e1];simp only[IntKind.wrap];simp[IntKind.bits,IntKind.signed];omega) ?_
 refine Vbits.wand (UInt64.ofNat (18446744073709551616-n)) 31 rfl rfl ?_
 have e2:(UInt64.ofNat (18446744073709551616-n)&&&31).toNat=32-n:=by
  rw[UInt64.toNat_and,e1]
  have:=Nat.and_two_pow_sub_one_eq_mod (18446744073709551616-n) 5
  have e:(31:UInt64).toNat=2^5-1:=rfl
  rw[e,this]
  omega
 rw[e2]
 have hp:=zag n
 have hq:=zag (32-n)
 have e:2^(32-n)*2^n=4294967296:=by rw[<-Nat.pow_add,show 32-n+n=32 by omega]
 have e3:x*2^(32-n)%4294967296=x%2^n*2^(32-n):=by rw[<-e,Nat.mul_comm (2^(32-n)),Nat.mul_mod_mul_right]
 have hd:x/2^n<2^(32-n):=Nat.div_lt_of_lt_mul (by rw[Nat.mul_comm,e];exact hx)
 have e4:x%2^n*2^(32-n)|||x/2^n=rotr n x:=by
  rw[nat_join (32-n) _ _ (Nat.mul_mod_left _ _) hd]
  unfold rotr;omega
 have hr:=zb2 hx hn.1 hn.2
 refine Vshl.n32 x (32-n) _ rfl rfl (by omega) e3 ?_
 refine Vint.u64 n (by omega) (by omega) ?_
 refine Vshr.n32 x n _ rfl rfl (by omega) rfl ?_
 refine Vbits.or32 _ _ (rotr n x) rfl rfl (by unfold rotr at hr;omega) (by unfold rotr at hr;omega) e4 ?_
 exact cr
theorem zd1(x n:Nat)(hx:x<4294967296)(hn:1<=n/\n<=31):bG 306 [U32 x,I n] (.r (U32 (rotr n x))):=by
 refine bT Tryz.func306 rfl ?_
 refine zd (m:= -(n:Int)) (by omega) (by omega) ?_
 refine ze (zarb x n hx hn) ?_
 exact cr
abbrev boxU(l:List Nat):Ow:= .box ((l.map U32).map .r)
def wZ(b:List UInt8)(t:Nat):List Nat:=wTo b t++List.replicate (64-t) 0
theorem z88(b:List UInt8){t:Nat}(ht:t<=64):(wZ b t).length=64:=by simp[wZ,zdf];omega
theorem z89(b:List UInt8){t:Nat}(ht:t<64):(wZ b t).set t (zfl b (wTo b t))=wZ b (t+1):=by
 unfold wZ
 rw[List.set_append_right _ _ (by rw[zdf];omega),zdf,Nat.sub_self,wTo,List.append_assoc,show 64-t=(64-(t+1))+1 by omega,List.replicate_succ]
 rfl
theorem zs9(b:List UInt8){t j:Nat}(hj:j<t):(wZ b t).getD j 0=(wTo b t).getD j 0:=by
 unfold wZ
 rw[List.getD_eq_getElem?_getD,List.getD_eq_getElem?_getD,List.getElem?_append_left (by rw[zdf];exact hj)]
theorem zitb(b:List UInt8):wZ b 64=wTo b 64:=by simp[wZ]
def woA3(b:List UInt8)(t:Nat):St:={F:=[(0, .r (bs b)),(2, .own 0),(3, .own 1),(10, .r (I t))],O:=[(0,some (boxU (List.replicate 64 0))),(1,some (boxU (wZ b t)))],nx:=2}
def woB3(b:List UInt8)(t:Nat):St:={F:=[(2, .own 0),(3, .own 1),(5, .r (I t))],O:=[(0,some (boxU (List.replicate 64 0))),(1,some (boxU (wZ b t)))],nx:=2}
theorem z2l(b:List UInt8)(t:Nat):stOk [(0,0),(1,1)] (woA3 b t)=true:=by
 simp only[stOk,woA3,boxU,List.all_cons,List.all_nil,zeo,ze3]
 rfl
theorem z2m(b:List UInt8)(t:Nat):stOk [(0,0),(1,1)] (woB3 b t)=true:=by
 simp only[stOk,woB3,boxU,List.all_cons,List.all_nil,zeo,ze3]
 rfl
attribute [irreducible] wZ
set_option maxHeartbeats 1000000 in
theorem z39(b:List UInt8)(hb:b.length=64):bG 304 [bs b] (.r (.ag ((wZ b 64).map U32))):=by
 refine bT Tryz.func304 rfl ?_
 have ez:wZ b 0=List.replicate 64 0:=by unfold wZ;rfl
 refine Vloop.mk' (woA3 b) (λt=>t<=16) (λt=>16-t) 0 (by omega) (zac [(0,0),(1,1)] (z2l b 0) ⟨cr,rfl,rfl,cr,trivial⟩ ⟨zae ((List.replicate 64 (0:Nat)).map U32),by rw[ez];exact zae ((List.replicate 64 (0:Nat)).map U32),trivial⟩) ?_
 intro t ht
 refine zh (λh=>zq ?_) (λh=>zt ?_)
 ·simp only[zb]at h
  have ht':t<16:=by omega
  have hl:=zdf b t
  have hz:=z88 b (show t<=64 by omega)
  have h0:=(b.getD (4*t) 0).toNat_lt
  have h1:=(b.getD (4*t+1) 0).toNat_lt
  have h2:=(b.getD (4*t+2) 0).toNat_lt
  have h3:=(b.getD (4*t+3) 0).toNat_lt
  have hN:zfl b (wTo b t)=(((b.getD (4*t) 0).toNat*256+(b.getD (4*t+1) 0).toNat)*256+(b.getD (4*t+2) 0).toNat)*256+(b.getD (4*t+3) 0).toNat:=by
   unfold zfl;rw[hl,if_pos ht'];rfl
  have hs:=z89 b (show t<64 by omega)
  rw[hN]at hs
  obtain⟨c0,e0⟩: ∃c,(b.getD (4*t) 0).toNat=c:=⟨_,rfl⟩
  obtain⟨c1,e1⟩: ∃c,(b.getD (4*t+1) 0).toNat=c:=⟨_,rfl⟩
  obtain⟨c2,e2⟩: ∃c,(b.getD (4*t+2) 0).toNat=c:=⟨_,rfl⟩
  obtain⟨c3,e3⟩: ∃c,(b.getD (4*t+3) 0).toNat=c:=⟨_,rfl⟩
  rw[e0,e1,e2,e3]at hs
  rw[e0]at h0
  rw[e1]at h1
  rw[e2]at h2
  rw[e3]at h3
  refine bV ?_
  refine zd (m:=((4*t:Nat):Int)) (by omega) (by omega) ?_
  refine zm (by omega) (by omega) (znw (j:=4*t) rfl (by omega)) (zg rfl ?_)
  refine Vint.u32 c0 (congrArg (λn:Nat=>(n:Int)) e0) (by omega) ?_
  refine Vshl.n32 c0 24 (c0*16777216) rfl rfl (by decide) (by omega) ?_
  refine zd (m:=((4*t:Nat):Int)) (by omega) (by omega) ?_
  refine zd (m:=((4*t+1:Nat):Int)) (by omega) (by omega) ?_
  refine zm (by omega) (by omega) (znw (j:=4*t+1) rfl (by omega)) (zg rfl ?_)
  refine Vint.u32 c1 (congrArg (λn:Nat=>(n:Int)) e1) (by omega) ?_
  refine Vshl.n32 c1 16 (c1*65536) rfl rfl (by decide) (by omega) ?_
  refine Vbits.or32 (c0*16777216) (c1*65536) (c0*16777216+c1*65536) rfl rfl (by omega) (by omega) (nat_join 24 _ _ (by omega) (by omega)) ?_
  refine zd (m:=((4*t:Nat):Int)) (by omega) (by omega) ?_
  refine zd (m:=((4*t+2:Nat):Int)) (by omega) (by omega) ?_
  refine zm (by omega) (by omega) (znw (j:=4*t+2) rfl (by omega)) (zg rfl ?_)
  refine Vint.u32 c2 (congrArg (λn:Nat=>(n:Int)) e2) (by omega) ?_
  refine Vshl.n32 c2 8 (c2*256) rfl rfl (by decide) (by omega) ?_
  refine Vbits.or32 (c0*16777216+c1*65536) (c2*256) (c0*16777216+c1*65536+c2*256) rfl rfl (by omega) (by omega) (nat_join 16 _ _ (by omega) (by omega)) ?_
  refine zd (m:=((4*t:Nat):Int)) (by omega) (by omega) ?_
  refine zd (m:=((4*t+3:Nat):Int)) (by omega) (by omega) ?_
  refine zm (by omega) (by omega) (znw (j:=4*t+3) rfl (by omega)) (zg rfl ?_)
  refine Vint.u32 c3 (congrArg (λn:Nat=>(n:Int)) e3) (by omega) ?_
  refine Vbits.or32 (c0*16777216+c1*65536+c2*256) c3 (((c0*256+c1)*256+c2)*256+c3) rfl rfl (by omega) (by omega) (by rw[nat_join 8 _ _ (by omega) (by omega)];omega) ?_
  (conv=>whnf)
  generalize hq:zbc _ _ _ _ _=q
  obtain rfl:=hq.symm.trans (zb0 rfl rfl rfl)
  clear hq
  refine Vadr.mk' t rfl (by omega) ?_
  (conv=>whnf)
  generalize hq:(zbi _&&_)=q
  obtain rfl:=hq.symm.trans (zti (by rw[List.length_map,List.length_map,hz];omega))
  clear hq
  refine zy8 (by rw[hz];omega) ?_
  rw[hs]
  refine zd (m:=((t+1:Nat):Int)) (by omega) (by omega) ?_
  exact⟨t+1,by omega,by omega,zac [(0,0),(1,1)] (z2l b (t+1)) ⟨cr,rfl,rfl,cr,trivial⟩ ⟨zae ((List.replicate 64 (0:Nat)).map U32),zae ((wZ b (t+1)).map U32),trivial⟩⟩
 ·simp only[zb]at h
  obtain rfl:t=16:=by omega
  refine Vloop.mk' (woB3 b) (λt=>16<=t/\t<=64) (λt=>64-t) 16 (by omega) (zac [(0,0),(1,1)] (z2m b 16) ⟨rfl,rfl,cr,trivial⟩ ⟨zae ((List.replicate 64 (0:Nat)).map U32),zae ((wZ b 16).map U32),trivial⟩) ?_
  rintro t ⟨h16,ht⟩
  have hz:=z88 b ht
  refine zh (λh=>zq ?_) (λh=>zt ?_)
  ·simp only[zb]at h
   have ht':t<64:=by omega
   have hs:=z89 b ht'
   have hN:zfl b (wTo b t)=(ss1 ((wTo b t).getD (t-2) 0)+(wTo b t).getD (t-7) 0+ss0 ((wTo b t).getD (t-15) 0)+(wTo b t).getD (t-16) 0)%4294967296:=by
    unfold zfl;rw[zdf,if_neg (by omega)]
   rw[hN]at hs
   have g15:=zs9 b (t:=t) (j:=t-15) (by omega)
   have g2:=zs9 b (t:=t) (j:=t-2) (by omega)
   have g7:=zs9 b (t:=t) (j:=t-7) (by omega)
   have g16:=zs9 b (t:=t) (j:=t-16) (by omega)
   have l15:=zgk b t (t-15)
   have l2:=zgk b t (t-2)
   have l7:=zgk b t (t-7)
   have l16:=zgk b t (t-16)
   generalize (wTo b t).getD (t-15) 0=x at*
   generalize (wTo b t).getD (t-2) 0=y at*
   generalize (wTo b t).getD (t-7) 0=p at*
   generalize (wTo b t).getD (t-16) 0=q at*
   refine bV ?_
   refine zd (m:=((t-15:Nat):Int)) (by omega) (by omega) ?_
   (conv=>whnf)
   generalize hq:zbc _ _ _ _ _=q
   obtain rfl:=hq.symm.trans (zb0 rfl rfl rfl)
   clear hq
   refine Vadr.mk' (t-15) rfl (by omega) ?_
   (conv=>whnf)
   generalize hq:zbc _ _ _ _ _=q
   obtain rfl:=hq.symm.trans (zb0 rfl rfl rfl)
   clear hq
   (conv=>whnf)
   generalize hq:lget _ _=q
   obtain rfl:=hq.symm.trans (zly U32 0 (l:=wZ b t) (j:=t-15) (by rw[hz];omega))
   clear hq
   rw[g15]
   refine zd (m:=((t-2:Nat):Int)) (by omega) (by omega) ?_
   (conv=>whnf)
   generalize hq:zbc _ _ _ _ _=q
   obtain rfl:=hq.symm.trans (zb0 rfl rfl rfl)
   clear hq
   refine Vadr.mk' (t-2) rfl (by omega) ?_
   (conv=>whnf)
   generalize hq:zbc _ _ _ _ _=q
   obtain rfl:=hq.symm.trans (zb0 rfl rfl rfl)
   clear hq
   (conv=>whnf)
   generalize hq:lget _ _=q
   obtain rfl:=hq.symm.trans (zly U32 0 (l:=wZ b t) (j:=t-2) (by rw[hz];omega))
   clear hq
   rw[g2]
   have r7:=zb2 (n:=7) l15 (by decide) (by decide)
   have r18:=zb2 (n:=18) l15 (by decide) (by decide)
   have r17:=zb2 (n:=17) l2 (by decide) (by decide)
   have r19:=zb2 (n:=19) l2 (by decide) (by decide)
   refine ze (zd1 x 7 l15 (by decide)) ?_
   refine ze (zd1 x 18 l15 (by decide)) ?_
   refine Vbits.xor32 _ _ rfl rfl r7 r18 ?_
   refine Vshr.n32 x 3 (x/8) rfl rfl (by decide) rfl ?_
   refine Vbits.xor32 _ _ rfl rfl (zcp r7 r18) (by omega) ?_
   refine ze (zd1 y 17 l2 (by decide)) ?_
   refine ze (zd1 y 19 l2 (by decide)) ?_
   refine Vbits.xor32 _ _ rfl rfl r17 r19 ?_
   refine Vshr.n32 y 10 (y/1024) rfl rfl (by decide) rfl ?_
   refine Vbits.xor32 _ _ rfl rfl (zcp r17 r19) (by omega) ?_
   refine bV ?_
   refine zd (m:=((t-7:Nat):Int)) (by omega) (by omega) ?_
   (conv=>whnf)
   generalize hq:zbc _ _ _ _ _=q
   obtain rfl:=hq.symm.trans (zb0 rfl rfl rfl)
   clear hq
   refine Vadr.mk' (t-7) rfl (by omega) ?_
   (conv=>whnf)
   generalize hq:zbc _ _ _ _ _=q
   obtain rfl:=hq.symm.trans (zb0 rfl rfl rfl)
   clear hq
   (conv=>whnf)
   generalize hq:lget _ _=q
   obtain rfl:=hq.symm.trans (zly U32 0 (l:=wZ b t) (j:=t-7) (by rw[hz];omega))
   clear hq
   rw[g7]
   refine Vint.m32 (ss1 y+p) rfl ?_
   refine Vint.m32 ((ss1 y+p)%4294967296+ss0 x) rfl ?_
   refine zd (m:=((t-16:Nat):Int)) (by omega) (by omega) ?_
   (conv=>whnf)
   generalize hq:zbc _ _ _ _ _=q
   obtain rfl:=hq.symm.trans (zb0 rfl rfl rfl)
   clear hq
   refine Vadr.mk' (t-16) rfl (by omega) ?_
   (conv=>whnf)
   generalize hq:zbc _ _ _ _ _=q
   obtain rfl:=hq.symm.trans (zb0 rfl rfl rfl)
   clear hq
   (conv=>whnf)
   generalize hq:lget _ _=q
   obtain rfl:=hq.symm.trans (zly U32 0 (l:=wZ b t) (j:=t-16) (by rw[hz];omega))
   clear hq
   rw[g16]
   refine Vint.m32 (((ss1 y+p)%4294967296+ss0 x)%4294967296+q) rfl ?_
   rw[show(((ss1 y+p)%4294967296+ss0 x)%4294967296+q)%4294967296=(ss1 y+p+ss0 x+q)%4294967296 by omega]
   (conv=>whnf)
   generalize hq:zbc _ _ _ _ _=q
   obtain rfl:=hq.symm.trans (zb0 rfl rfl rfl)
   clear hq
   refine Vadr.mk' t rfl (by omega) ?_
   (conv=>whnf)
   generalize hq:(zbi _&&_)=q
   obtain rfl:=hq.symm.trans (zti (by rw[List.length_map,List.length_map,hz];omega))
   clear hq
   refine zy8 (by rw[hz];omega) ?_
   rw[hs]
   refine zd (m:=((t+1:Nat):Int)) (by omega) (by omega) ?_
   exact⟨t+1,by omega,by omega,zac [(0,0),(1,1)] (z2m b (t+1)) ⟨rfl,rfl,cr,trivial⟩ ⟨zae ((List.replicate 64 (0:Nat)).map U32),zae ((wZ b (t+1)).map U32),trivial⟩⟩
  ·simp only[zb]at h
   obtain rfl:t=64:=by omega
   refine za (l:=((wZ b 64).map U32).map TF.r) (List.take_of_length_le (by simp[hz])) (by simp[hz]) ?_
   (conv=>whnf)
   generalize hq:St.rvs _ _=q
   obtain rfl:=hq.symm.trans (zhz _ _)
   clear hq
   (conv=>whnf)
   generalize hq:(zbi _&&_)=q
   obtain rfl:=hq.symm.trans (ziw (l:=(wZ b 64).map U32) 64 (by rw[List.length_map,hz]) rfl)
   clear hq
   refine zfi (by rw[List.length_map,List.length_map,List.length_map,hz];rfl) ?_
   refine za (l:=((wZ b 64).map U32).map TF.r) (List.take_of_length_le (by simp[hz])) (by simp[hz]) ?_
   (conv=>whnf)
   generalize hq:St.rvs _ _=q
   obtain rfl:=hq.symm.trans (zhz _ _)
   clear hq
   exact cr
theorem z7p(b:List UInt8)(hb:b.length=64):bG 304 [bs b] (.r (.ag ((wTo b 64).map U32))):=by
 rw[<-zitb];exact z39 b hb
end
set_option maxRecDepth 100000 in
set_option maxHeartbeats 1000000 in
theorem z3r:bG 305 [] (.r (.ag (kTab.map U32))):=by
 refine bT Tryz.func305 rfl ?_
 repeat' ((conv=>whnf);first|refine za rfl rfl ?_)
 exact zf (by kernel_rfl)
abbrev vH(s:H8):List RV:=[U32 s.a,U32 s.b,U32 s.c,U32 s.d,U32 s.e,U32 s.f,U32 s.g,U32 s.h]
abbrev bH(s:H8):Ow:= .box [.r (U32 s.a), .r (U32 s.b), .r (U32 s.c), .r (U32 s.d), .r (U32 s.e), .r (U32 s.f), .r (U32 s.g), .r (U32 s.h)]
theorem z6u:bG 261 [] (.r (.ag (vH h0Tab))):=by
 refine bT Tryz.func261 rfl ?_
 repeat' ((conv=>whnf);first|refine za rfl rfl ?_)
 exact cr
theorem Vint.add32{a b:Int}{K:Int->Prop}(x y:Nat)(ha:a=(x:Int))(hb:b=(y:Int))(hK:K (((x+y)%4294967296:Nat):Int)):Vint .u32 (a+b) K:=Vint.m32 (x+y) (by rw[ha,hb];rfl) hK
theorem Vbits.not32{a:Int}{K:Int->Prop}(x:Nat)(ha:a=(x:Int))(hx:x<4294967296)(hK:K ((4294967295-x:Nat):Int)):Vbits .u32 .xor 4294967295 a K:=Vbits.xor32 4294967295 x rfl ha (by decide) hx (by rw[Sx.not32 hx];exact hK)
def stI3(v:Value)(s:H8)(k w:List Nat)(x:H8)(j:Nat):St:={F:=[(0, .own 0),(4, .own 1),(5, .own 2),(6, .own 3),(19, .r (I j)),(1000000, .nm 0 v)],O:=[(0,some (bH s)),(1,some (boxU w)),(2,some (boxU k)),(3,some (bH x))],nx:=4}
theorem z2i(v:Value)(s:H8)(k w:List Nat)(x:H8)(j:Nat):stOk [(0,0),(1,1),(2,2),(3,3)] (stI3 v s k w x j)=true:=by
 simp only[stOk,stI3,boxU,List.all_cons,List.all_nil,zeo,ze3]
 rfl
set_option maxHeartbeats 4000000 in
theorem zx1(v:Value)(s:H8)(b:List UInt8)(hs:s.ok)(hb:b.length=64):Acts bP 263 1 [(0,(bH s))] [.own 0, .r (bs b)] [(0,v)] 1 [(0,(bH (zms s b)))] (.r (.tu [])):=by
 refine zaz (T:=Tab) mixed Tab_ok Tryz.func263 rfl (by kernel_rfl) rfl ⟨⟨_,_,rfl,rfl,zai,zai⟩,trivial⟩ ?_
 have hw:=z7p b hb
 have hk:=z3r
 have lw:=zdf b 64
 have bw:=zgk b 64
 have lk:kTab.length=64:=rfl
 have bk:=z1z
 obtain⟨X,hX0,hXs,hXok,hXe⟩: ∃X:Nat->H8,X 0=s/\(∀j,X (j+1)=zzf (kTab.getD j 0) ((wTo b 64).getD j 0) (X j))/\(∀j,(X j).ok)/\zms s b=addH s (X 64):=⟨zhw b s,rfl,λ_=>rfl,zmo hs,rfl⟩
 rw[hXe]
 generalize wTo b 64=w at*
 generalize kTab=k at*
 refine ze hw ?_
 refine ze hk ?_
 (conv=>whnf)
 generalize hq:(zbi _&&_)=q
 obtain rfl:=hq.symm.trans (ziw (l:=w.map U32) 64 (by rw[List.length_map,lw]) rfl)
 clear hq
 refine zfi (by rw[List.length_map,List.length_map,lw];rfl) ?_
 (conv=>whnf)
 generalize hq:(zbi _&&_)=q
 obtain rfl:=hq.symm.trans (ziw (l:=k.map U32) 64 (by rw[List.length_map,lk]) rfl)
 clear hq
 refine zfi (by rw[List.length_map,List.length_map,lk];rfl) ?_
 refine za rfl rfl ?_
 refine Vloop.mk' (λj=>stI3 v s k w (X j) j) (λj=>j<=64) (λj=>64-j) 0 (by omega) (zac [(0,0),(1,1),(2,2),(3,3)] (z2i v s k w (X 0) 0) ⟨rfl,rfl,rfl,rfl,cr,⟨rfl,rfl⟩,trivial⟩ ⟨(bD bZ),zae (w.map U32),zae (k.map U32),by rw[hX0];exact⟨_,_,rfl,cr,_,_,rfl,cr,_,_,rfl,cr,_,_,rfl,cr,_,_,rfl,cr,_,_,rfl,cr,_,_,rfl,cr,_,_,rfl,cr,rfl⟩,trivial⟩) ?_
 intro j hj
 refine zh (λh=>zq ?_) (λh=>zt ?_)
 ·simp only[zb]at h
  have hj':j<64:=by omega
  have hx1:=hXs j
  obtain⟨oa,ob,oc,od,oe,of,og,oh⟩:=hXok j
  have bwj:=bw j
  have bkj:=bk j
  generalize hX:X j=x at*
  generalize hwj:w.getD j 0=wj at*
  generalize hkj:k.getD j 0=kj at*
  refine bV ?_
  refine Vadr.any (by decide) ?_
  refine Vadr.any (by decide) ?_
  have r6:=zb2 (n:=6) oe (by decide) (by decide)
  have r11:=zb2 (n:=11) oe (by decide) (by decide)
  have r25:=zb2 (n:=25) oe (by decide) (by decide)
  have r2:=zb2 (n:=2) oa (by decide) (by decide)
  have r13:=zb2 (n:=13) oa (by decide) (by decide)
  have r22:=zb2 (n:=22) oa (by decide) (by decide)
  refine bV ?_
  refine Vadr.any (by decide) ?_
  refine ze (zd1 _ 6 oe (by decide)) ?_
  refine ze (zd1 _ 11 oe (by decide)) ?_
  refine Vbits.xor32 _ _ rfl rfl r6 r11 ?_
  refine ze (zd1 _ 25 oe (by decide)) ?_
  refine Vbits.xor32 _ _ rfl rfl (zcp r6 r11) r25 ?_
  refine Vint.add32 x.h (bs1 x.e) rfl rfl ?_
  refine Vadr.any (by decide) ?_
  refine Vbits.and32 _ _ rfl rfl oe of ?_
  refine Vbits.not32 x.e rfl oe ?_
  refine Vadr.any (by decide) ?_
  refine Vbits.and32 _ _ rfl rfl (by omega) og ?_
  refine Vbits.xor32 _ _ rfl rfl (ze2 oe) (ze2 (by omega)) ?_
  refine Vint.add32 _ (chN x.e x.f x.g) rfl rfl ?_
  (conv=>whnf)
  generalize hq:zbc _ _ _ _ _=q
  obtain rfl:=hq.symm.trans (zb0 rfl rfl rfl)
  clear hq
  refine Vadr.mk' j rfl (by omega) ?_
  (conv=>whnf)
  generalize hq:zbc _ _ _ _ _=q
  obtain rfl:=hq.symm.trans (zb0 rfl rfl rfl)
  clear hq
  (conv=>whnf)
  generalize hq:lget _ _=q
  obtain rfl:=hq.symm.trans (zly U32 0 (l:=k) (j:=j) (by rw[lk];omega))
  clear hq
  rw[show k.getD j 0=kj from hkj]
  refine Vint.add32 _ kj rfl rfl ?_
  (conv=>whnf)
  generalize hq:zbc _ _ _ _ _=q
  obtain rfl:=hq.symm.trans (zb0 rfl rfl rfl)
  clear hq
  refine Vadr.mk' j rfl (by omega) ?_
  (conv=>whnf)
  generalize hq:zbc _ _ _ _ _=q
  obtain rfl:=hq.symm.trans (zb0 rfl rfl rfl)
  clear hq
  (conv=>whnf)
  generalize hq:lget _ _=q
  obtain rfl:=hq.symm.trans (zly U32 0 (l:=w) (j:=j) (by rw[lw];omega))
  clear hq
  rw[show w.getD j 0=wj from hwj]
  refine Vint.add32 _ wj rfl rfl ?_
  refine bV ?_
  refine ze (zd1 _ 2 oa (by decide)) ?_
  refine ze (zd1 _ 13 oa (by decide)) ?_
  refine Vbits.xor32 _ _ rfl rfl r2 r13 ?_
  refine ze (zd1 _ 22 oa (by decide)) ?_
  refine Vbits.xor32 _ _ rfl rfl (zcp r2 r13) r22 ?_
  refine Vadr.any (by decide) ?_
  refine Vbits.and32 _ _ rfl rfl oa ob ?_
  refine Vadr.any (by decide) ?_
  refine Vbits.and32 _ _ rfl rfl oa oc ?_
  refine Vbits.xor32 _ _ rfl rfl (ze2 oa) (ze2 oa) ?_
  refine Vadr.any (by decide) ?_
  refine Vadr.any (by decide) ?_
  refine Vbits.and32 _ _ rfl rfl ob oc ?_
  refine Vbits.xor32 _ _ rfl rfl (zcp (ze2 oa) (ze2 oa)) (ze2 ob) ?_
  refine Vint.add32 (bs0 x.a) (majN x.a x.b x.c) rfl rfl ?_
  refine bV ?_
  refine Vcutn.mk' 1 7 rfl rfl (by decide) (by decide) ?_
  refine Vcutn.mk' 0 7 rfl rfl (by decide) (by decide) ?_
  refine Vstep.copyBox (n:=7) (m:=7) (ys:=[U32 x.a,U32 x.b,U32 x.c,U32 x.d,U32 x.e,U32 x.f,U32 x.g]) (zs:=[.r (U32 x.a), .r (U32 x.a), .r (U32 x.b), .r (U32 x.c), .r (U32 x.d), .r (U32 x.e), .r (U32 x.f), .r (U32 x.g)]) Tab_ok rfl rfl rfl rfl rfl rfl rfl (by show 1*1+7<=8;decide) rfl (.inr ⟨0,rfl,by show 0+7<=8;decide,rfl⟩) rfl ?_
  refine Vadr.any (by decide) ?_
  refine Vint.add32 x.d _ rfl rfl ?_
  refine Vadr.any (by decide) ?_
  refine Vint.add32 _ _ rfl rfl ?_
  refine Vadr.any (by decide) ?_
  refine zd (m:=((j+1:Nat):Int)) (by omega) (by omega) ?_
  have ea:((((((x.h+bs1 x.e)%4294967296+chN x.e x.f x.g)%4294967296+kj)%4294967296+wj)%4294967296)+(bs0 x.a+majN x.a x.b x.c)%4294967296)%4294967296=(t1N kj wj x+t2N x)%4294967296:=by unfold t1N t2N;omega
  have ee:(x.d+((((x.h+bs1 x.e)%4294967296+chN x.e x.f x.g)%4294967296+kj)%4294967296+wj)%4294967296)%4294967296=(x.d+t1N kj wj x)%4294967296:=by unfold t1N;omega
  rw[ea,ee]
  exact⟨j+1,by omega,by omega,zac [(0,0),(1,1),(2,2),(3,3)] (z2i v s k w (X (j+1)) (j+1)) ⟨rfl,rfl,rfl,rfl,cr,⟨rfl,rfl⟩,trivial⟩ ⟨(bD bZ),zae (w.map U32),zae (k.map U32),by rw[hx1];exact⟨_,_,rfl,cr,_,_,rfl,cr,_,_,rfl,cr,_,_,rfl,cr,_,_,rfl,cr,_,_,rfl,cr,_,_,rfl,cr,_,_,rfl,cr,rfl⟩,trivial⟩⟩
 ·simp only[zb]at h
  obtain rfl:j=64:=by omega
  generalize X 64=x
  refine Vloop.rounds 9 ?_
  repeat' ((conv=>whnf);first|refine Vrounds.step mixed Tab_ok ?_|refine zu rfl (zq ?_)|refine zw rfl (zt ?_)|refine Vadr.any (by decide) ?_|refine Vint.any (k:= .i64) ?_|refine Vint.add32 _ _ rfl rfl ?_|refine za rfl rfl ?_|refine bV ?_)
  exact zaw (.inr rfl) [(0,0)] [] [] rfl ⟨⟨rfl,rfl⟩,trivial⟩ ⟨(bD bZ),trivial⟩ ⟨⟨1000000,rfl⟩,trivial⟩ ⟨_,rfl,cr⟩
section
variable {P:Program} {T:TT} {S:St} {o:Oper}
theorem Vcode.scope2(hm:P.follows .mixedOrders=true)(hT:TOk P T){c1 c2 body:Code}{Q:Exit->St->Prop}(l:Nat){ι:Type}(inv:ι->St)(R:ι->Prop)(μ:ι->Nat)
  (hf:findLabel (.seq c1 (.seq c2 (.seq (.label l) body))) l=some (.seq .skip body))
  (first:vcg P T c1 S (λe S'=>e= .normal/\vcg P T c2 S' (λe S''=>e= .normal/\∃i,R i/\Sub S'' (inv i))))
  (pass: ∀i,R i->vcg P T body (inv i) (zh7 l (λS'=>∃i',R i'/\μ i'<μ i/\Sub S' (inv i')) Q)):Vcode P (.scope (.seq c1 (.seq c2 (.seq (.label l) body)))) S Q:=by
 refine⟨λB N a w k Q' hs hd hQ=>?_⟩
 have hd0:zbe N (.seq c1 (.seq c2 (.seq (.label l) body)))=true:=by simpa only[zbe]using hd
 have hd1:=hd0
 simp only[zbe,Bool.and_eq_true,true_and]at hd1
 let J:Nat->Act->World->Prop:=λn a w=>∃i k,R i/\μ i=n/\Sat B N (inv i) a w k
 refine wp_scope_jumps l (λa w=>∃n,J n a w) (λa w=>leastOf (λn=>J n a w)) hf ?_ ?_
 ·refine wp_seq (za3 hm hT c1 S _ first B N a w k _ hs hd1.1 λe S1 a1 w1 k1 hq1 hs1=>?_)
  obtain⟨rfl,hq1⟩:=hq1
  refine wp_seq (za3 hm hT c2 S1 _ hq1 B N a1 w1 k1 _ hs1 hd1.2.1 λe S2 a2 w2 k2 hq2 hs2=>?_)
  obtain⟨rfl,i,hR,hsub⟩:=hq2
  obtain⟨k3,hs3⟩:=hsub B N a2 w2 k2 hs2
  refine wp_seq (wp_label ?_)
  refine za3 hm hT body (inv i) _ (pass i hR) B N a2 w2 k3 _ hs3 hd1.2.2 λe S' a' w' k' hq hs'=>?_
  cases e with
  |goto l'=>
   simp only[zh7]at hq
   split at hq
   ·rename_i hb
    obtain⟨i',hR',_,hsub⟩:=hq
    obtain⟨k2,hs2⟩:=hsub B N a' w' k' hs'
    exact⟨Nat.eq_of_beq_eq_true hb,μ i',i',k2,hR',rfl,hs2⟩
   ·exact hq.elim
  |_=>exact hQ _ S' a' w' k' hq hs'
 ·intro a1 w1 hJ
  obtain⟨i,k1,hR,hμ,hs1⟩:=(leastOf_spec hJ).1
  refine wp_seq (wp_skip ?_)
  refine za3 hm hT body (inv i) _ (pass i hR) B N a1 w1 k1 _ hs1 hd1.2.2 λe S' a' w' k' hq hs'=>?_
  cases e with
  |goto l'=>
   simp only[zh7]at hq
   split at hq
   ·rename_i hb
    obtain⟨i',hR',hlt,hsub⟩:=hq
    obtain⟨k2,hs2⟩:=hsub B N a' w' k' hs'
    have hJ':J (μ i') a' w':=⟨i',k2,hR',rfl,hs2⟩
    refine⟨Nat.eq_of_beq_eq_true hb,⟨μ i',hJ'⟩,?_⟩
    exact Nat.lt_of_le_of_lt ((leastOf_spec ⟨_,hJ'⟩).2 _ hJ') (by rw[<-hμ];exact hlt)
   ·exact hq.elim
  |_=>exact hQ _ S' a' w' k' hq hs'
theorem Vcode.scope3(hm:P.follows .mixedOrders=true)(hT:TOk P T){c1 c2 c3 body:Code}{Q:Exit->St->Prop}(l:Nat){ι:Type}(inv:ι->St)(R:ι->Prop)(μ:ι->Nat)
  (hf:findLabel (.seq c1 (.seq c2 (.seq c3 (.seq (.label l) body)))) l=some (.seq .skip body))
  (first:vcg P T c1 S (λe S'=>e= .normal/\vcg P T c2 S' (λe S2=>e= .normal/\vcg P T c3 S2 (λe S''=>e= .normal/\∃i,R i/\Sub S'' (inv i)))))
  (pass: ∀i,R i->vcg P T body (inv i) (zh7 l (λS'=>∃i',R i'/\μ i'<μ i/\Sub S' (inv i')) Q)):Vcode P (.scope (.seq c1 (.seq c2 (.seq c3 (.seq (.label l) body))))) S Q:=by
 refine⟨λB N a w k Q' hs hd hQ=>?_⟩
 have hd0:zbe N (.seq c1 (.seq c2 (.seq c3 (.seq (.label l) body))))=true:=by simpa only[zbe]using hd
 have hd1:=hd0
 simp only[zbe,Bool.and_eq_true,true_and]at hd1
 let J:Nat->Act->World->Prop:=λn a w=>∃i k,R i/\μ i=n/\Sat B N (inv i) a w k
 refine wp_scope_jumps l (λa w=>∃n,J n a w) (λa w=>leastOf (λn=>J n a w)) hf ?_ ?_
 ·refine wp_seq (za3 hm hT c1 S _ first B N a w k _ hs hd1.1 λe S1 a1 w1 k1 hq1 hs1=>?_)
  obtain⟨rfl,hq1⟩:=hq1
  refine wp_seq (za3 hm hT c2 S1 _ hq1 B N a1 w1 k1 _ hs1 hd1.2.1 λe S2 a2 w2 k2 hq2 hs2=>?_)
  obtain⟨rfl,hq2⟩:=hq2
  refine wp_seq (za3 hm hT c3 S2 _ hq2 B N a2 w2 k2 _ hs2 hd1.2.2.1 λe S2 a2 w2 k2 hq2 hs2=>?_)
  obtain⟨rfl,i,hR,hsub⟩:=hq2
  obtain⟨k3,hs3⟩:=hsub B N a2 w2 k2 hs2
  refine wp_seq (wp_label ?_)
  refine za3 hm hT body (inv i) _ (pass i hR) B N a2 w2 k3 _ hs3 hd1.2.2.2 λe S' a' w' k' hq hs'=>?_
  cases e with
  |goto l'=>
   simp only[zh7]at hq
   split at hq
   ·rename_i hb
    obtain⟨i',hR',_,hsub⟩:=hq
    obtain⟨k2,hs2⟩:=hsub B N a' w' k' hs'
    exact⟨Nat.eq_of_beq_eq_true hb,μ i',i',k2,hR',rfl,hs2⟩
   ·exact hq.elim
  |_=>exact hQ _ S' a' w' k' hq hs'
 ·intro a1 w1 hJ
  obtain⟨i,k1,hR,hμ,hs1⟩:=(leastOf_spec hJ).1
  refine wp_seq (wp_skip ?_)
  refine za3 hm hT body (inv i) _ (pass i hR) B N a1 w1 k1 _ hs1 hd1.2.2.2 λe S' a' w' k' hq hs'=>?_
  cases e with
  |goto l'=>
   simp only[zh7]at hq
   split at hq
   ·rename_i hb
    obtain⟨i',hR',hlt,hsub⟩:=hq
    obtain⟨k2,hs2⟩:=hsub B N a' w' k' hs'
    have hJ':J (μ i') a' w':=⟨i',k2,hR',rfl,hs2⟩
    refine⟨Nat.eq_of_beq_eq_true hb,⟨μ i',hJ'⟩,?_⟩
    exact Nat.lt_of_le_of_lt ((leastOf_spec ⟨_,hJ'⟩).2 _ hJ') (by rw[<-hμ];exact hlt)
   ·exact hq.elim
  |_=>exact hQ _ S' a' w' k' hq hs'
theorem Vstep.boxPub{t e:TypeId}{ti te:TI}{x:Operand}{id n:Nat}{vs:List RV}{K:St->Prop}(hT:TOk P T)(hop:o.op= .slice t x none none none)(hti:tget T t=some ti)(hk:ti.k= .array n e)(hte:tget T e=some te)(hsz:te.sz=1)
  (hx:opr S x=some (.own id)) (ho:oget S.O id=some (.box (vs.map .r))) (hn:vs.length=n) (h0:0<n) (hn2:n<=1000000000) (hK:newK (S.set id none) o.dst (.r (.sl 1 n vs)) none K):Vstep P S o K:=by
 rw[za4]at hK
 refine Vstep.one (λB N a w k Q ⟨g,hs⟩ hd=>?_) hK
 obtain⟨q,hq⟩:=hT.get hti
 obtain⟨d,hdd,hko,_⟩:=q.desc
 rw[hq]at hdd
 rw[hk]at hko
 simp only[KOk]at hko
 subst hko
 obtain⟨qe,hqe⟩:=hT.get hte
 have hsize:=zbm (w:=w) qe hqe
 have hxv:=(zah hs hx).2
 simp only[TF.at_]at hxv
 obtain⟨b,k',hg,hle,hb,hc,h⟩:=hs.pub ho
 have hrun:=zj3 (P:=P) (w:=w) (b:=b) (lo:=0) (hi:=(n:Int)) (vl:=none) (vh:=none) hdd hsize (Int.le_refl _) (by omega) (by omega) (by omega) (.inl ⟨rfl,rfl⟩) (.inl ⟨rfl,rfl⟩)
 simp only[Int.toNat_zero,Nat.zero_mul,Nat.add_zero,Nat.sub_zero,Int.toNat_natCast]at hrun
 have hev:a.eval x= .pointer (some ⟨b,0,none⟩):=by rw[hxv,hg]
 refine za0 (v:= .slice (some ⟨b,0,none⟩) n n) (w':=w) (by simp[execOp,hop,hev,hrun]) ⟨k',g,h.put hd trivial ?_⟩
 simp only[TF.at_,RV.at_]
 exact⟨_,n,rfl,Nat.le_refl _,by simp only[maxLen];omega,by rw[Nat.mul_one];exact hn,λ_=>⟨b,0,rfl,hb,hc⟩⟩
theorem Vstep.boxCh{t e:TypeId}{ti te:TI}{x:Operand}{id n:Nat}{vs:List RV}{K:St->Prop}(hT:TOk P T)(hop:o.op= .slice t x none none none)(hti:tget T t=some ti)(hk:ti.k= .array n e)(hte:tget T e=some te)(hsz:te.sz=1)
  (hx:opr S x=some (.own id)) (ho:oget S.O id=some (.box (vs.map .r))) (hn:vs.length=n) (h0:0<n) (hn2:n<=1000000000) (hK:newK (S.set id none) o.dst (.own S.nx) (some (.ch e te.sz n vs true)) K):Vstep P S o K:=by
 rw[za4]at hK
 refine Vstep.one (λB N a w k Q ⟨g,hs⟩ hd=>?_) hK
 obtain⟨q,hq⟩:=hT.get hti
 obtain⟨d,hdd,hko,_⟩:=q.desc
 rw[hq]at hdd
 rw[hk]at hko
 simp only[KOk]at hko
 subst hko
 obtain⟨qe,hqe⟩:=hT.get hte
 have hsize:=zbm (w:=w) qe hqe
 have hxv:=(zah hs hx).2
 simp only[TF.at_]at hxv
 obtain⟨b,k',hg,hle,hb,hc,h⟩:=hs.pub ho
 have hrun:=zj3 (P:=P) (w:=w) (b:=b) (lo:=0) (hi:=(n:Int)) (vl:=none) (vh:=none) hdd hsize (Int.le_refl _) (by omega) (by omega) (by omega) (.inl ⟨rfl,rfl⟩) (.inl ⟨rfl,rfl⟩)
 simp only[Int.toNat_zero,Nat.zero_mul,Nat.add_zero,Nat.sub_zero,Int.toNat_natCast]at hrun
 have hev:a.eval x= .pointer (some ⟨b,0,none⟩):=by rw[hxv,hg]
 refine za0 (v:= .slice (some ⟨b,0,none⟩) n n) (w':=w) (by simp[execOp,hop,hev,hrun]) ⟨k',_,h.adopt (dst:=o.dst) hd (o:= .ch e te.sz n vs true) (vb:=(.slice (some ⟨b,0,none⟩) n n,none)) trivial ⟨by rw[hsz,Nat.mul_one];exact hn, .inl ⟨rfl, .inr ⟨h0,rfl,b,0,rfl,by simp only[maxLen];omega,hb,hc⟩⟩⟩ (λb hb=>by cases hb) (λi o' b _ hb=>by cases hb)⟩
end
end Go.Proofs.YtoegdgbghdnnfaaGreat.Sx
