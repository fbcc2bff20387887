import Derived.Test.YtkegaaonpekkgaaGreatXqEn
import Derived.Test.YtkegaaonpekkgaaGreatXqNx
import Derived.Test.YtkegaaonpekkgaaGreatXqKg
import Derived.Lib.AppendZerosOnto
namespace Go.Proofs.YtkegaaonpekkgaaGreat.Sx
open Go.RowKit
set_option maxHeartbeats 4000000
section
def xi(b:cT)(at_:Nat):Nat->UInt64
 |0=>0
 |j+1=>rR (xi b at_ j) 8|||UInt64.ofNat (b.getD (at_+(7-j)) 0).toNat
theorem nL(b:cT)(at_:Nat):xi b at_ 0=0:=rfl
theorem nK(b:cT)(at_ j:Nat):xi b at_ (j+1)=rR (xi b at_ j) 8|||UInt64.ofNat (b.getD (at_+(7-j)) 0).toNat:=rfl
attribute [irreducible] xi
def Fe.of(b:cT):Fe:=⟨xi b 0 8&&&wb,yA (xi b 6 8) 3&&&wb,yA (xi b 12 8) 6&&&wb,yA (xi b 19 8) 1&&&wb,yA (xi b 24 8) 12&&&wb⟩
abbrev oV(b:cT):Ow:= .box ((b.map U8).map .r)
theorem SZ{l:cT}{j:Nat}(h:j<l.length):((l.map U8).map TF.r)[j]?=some (.r (U8 (l.getD j 0))):=by
 rw[bR,sr h]
 rfl
def Om(b:cT)(at_:Nat)(v:Value)(j:Nat):St:={F:=[(0,.r (I at_)),(1,.own 0),(4,.r (W (xi b at_ j))),(5,.r (I (7-(j:Int)))),(1000000,.nm 0 v)],O:=[(0,some (oV b))],nx:=1}
theorem TE(b:cT)(at_:Nat)(v:Value)(j:Nat):vB [(0,0)] (Om b at_ v j)=true:=by
 have h:=uV (b.map U8) 1
 simp only[vB,Om,oV,List.all_cons,List.all_nil,uD,h]
 rfl
theorem gy(v:Value)(b:cT)(hb:b.length=32)(at_:Nat)(ha:at_<=24):yz aP 424 1 [(0,oV b)] [.r (I at_),.own 0] [(0,v)] 1 [(0,oV b)] (.r (W (xi b at_ 8))):=by
 refine yk (T:=Tab) mixed Tab_ok Tryz.func424 rfl (by kernel_rfl) rfl ⟨⟨_,_,rfl,rfl,ym,ym⟩,trivial⟩ ?_
 refine zy (Om b at_ v) (λj=>j<=8) (λj=>8-j) 0 (by omega) (zX [(0,0)] (TE b at_ v _) ⟨cr,rfl,by rw[nL];exact cr,cr,⟨rfl,rfl⟩,trivial⟩ ⟨yh _,trivial⟩) ?_
 intro j hj
 refine cZ (λh=>?_) λh=>?_
 ·simp only[zb]at h
  have hj':j<8:=by omega
  refine Vshl.w _ 8 rfl rfl (by decide) ?_
  refine zd (m:=((at_+(7-j):Nat):Int)) (by omega) (by omega) ?_
  refine zD (at_+(7-j)) rfl (by omega) ?_
  (conv=>whnf)
  generalize hq:yp _ _=q
  obtain rfl:q=some (TF.r (U8 (b.getD (at_+(7-j)) 0))):=hq.symm.trans ((yE _ ((at_+(7-j))*1)).trans (by rw[cL];exact SZ (by omega)))
  clear hq
  refine Vint.w _ rfl ?_
  refine Vbits.wor _ _ rfl rfl ?_
  refine zd (m:=7-((j+1:Nat):Int)) (by omega) (by omega) ?_
  exact⟨j+1,by omega,by omega,zX [(0,0)] (TE b at_ v _) ⟨cr,rfl,by rw[nK];exact cr,cr,⟨rfl,rfl⟩,trivial⟩ ⟨yh _,trivial⟩⟩
 ·simp only[zb]at h
  obtain rfl:j=8:=by omega
  exact yr (.inl rfl) [(0,0)] [(3,.r (W (xi b at_ 8)))] [] (by have h:=uV (b.map U8) 1;simp only[vB,wY,oV,cJ,List.map_nil,List.append_nil,List.all_cons,List.all_nil,uD,h];rfl) ⟨cr,⟨rfl,rfl⟩,trivial⟩ ⟨yh _,trivial⟩ ⟨⟨1000000,rfl⟩,trivial⟩ (cr)
theorem Fl{l:List TF}{ys:List RV}(h:l.length=ys.length):l.take 0++(ys.take ys.length).map TF.r++l.drop (0+ys.length)=ys.map TF.r:=by
 rw[List.take_zero,cG,List.take_length,Nat.zero_add,<-h,List.drop_length,List.append_nil]
theorem EJ(b:cT)(hb:b.length=32):aG 322 [bs b] (.r (.ag (Fe.of b).v)):=by
 refine aT Tryz.func322 rfl ?_
 refine Vstep.val Tab_ok ?_
 refine Vcutn.mk' 0 32 rfl rfl (by decide) (by decide) ?_
 refine Vstep.copyBox Tab_ok rfl rfl rfl rfl rfl rfl rfl (by decide) rfl (.inl rfl) (zs:=(b.map U8).map .r) ?_ ?_
 ·have e:Nat.min b.length 32=(b.map U8).length:=by rw[hb,bC,hb];rfl
  rw[e]
  exact Fl (by rw[bC,bC,hb];rfl)
 refine Vstep.nm 1 1000000 rfl λp=>Vstep.mkfunX [p] rfl ⟨_,_,rfl,⟨1,1000000,rfl,rfl⟩,rfl⟩ ?_
 refine Vstep.actsBox 1 (λv=>gy v b hb 0 (by decide)) (Handed.clo (fs:=[.r (I 0)]) (cs:=[.own 0]) rfl rfl ⟨_,_,rfl,cr,rfl⟩ ⟨_,_,rfl,⟨1,1000000,rfl,rfl⟩,rfl⟩) rfl ?_
 refine Vbits.wand _ wb rfl rfl ?_
 refine Vstep.actsBox 1 (λv=>gy v b hb 6 (by decide)) (Handed.clo (fs:=[.r (I 6)]) (cs:=[.own 0]) rfl rfl ⟨_,_,rfl,cr,rfl⟩ ⟨_,_,rfl,⟨1,1000000,rfl,rfl⟩,rfl⟩) rfl ?_
 refine Vshr.w _ 3 rfl rfl ?_
 refine Vbits.wand _ wb rfl rfl ?_
 refine Vstep.actsBox 1 (λv=>gy v b hb 12 (by decide)) (Handed.clo (fs:=[.r (I 12)]) (cs:=[.own 0]) rfl rfl ⟨_,_,rfl,cr,rfl⟩ ⟨_,_,rfl,⟨1,1000000,rfl,rfl⟩,rfl⟩) rfl ?_
 refine Vshr.w _ 6 rfl rfl ?_
 refine Vbits.wand _ wb rfl rfl ?_
 refine Vstep.actsBox 1 (λv=>gy v b hb 19 (by decide)) (Handed.clo (fs:=[.r (I 19)]) (cs:=[.own 0]) rfl rfl ⟨_,_,rfl,cr,rfl⟩ ⟨_,_,rfl,⟨1,1000000,rfl,rfl⟩,rfl⟩) rfl ?_
 refine Vshr.w _ 1 rfl rfl ?_
 refine Vbits.wand _ wb rfl rfl ?_
 refine Vstep.actsBox 1 (λv=>gy v b hb 24 (by decide)) (Handed.clo (fs:=[.r (I 24)]) (cs:=[.own 0]) rfl rfl ⟨_,_,rfl,cr,rfl⟩ ⟨_,_,rfl,⟨1,1000000,rfl,rfl⟩,rfl⟩) rfl ?_
 refine Vshr.w _ 12 rfl rfl ?_
 refine Vbits.wand _ wb rfl rfl ?_
 repeat' ((conv=>whnf);first|refine za rfl rfl ?_)
 exactλ_ _ _ h=>h
end
section
def ng(x:UInt64)(n:Nat):UInt64:=rR x (64-n)|||yA x n
theorem Vbits.wandN{a b:Int}{K:Int->Prop}(x y:UInt64)(m:Nat)(ha:a=(x.toNat:Int))(hb:b=(y.toNat:Int))(hm:(x&&&y).toNat=m)(hK:K (m:Int)):Vbits .u64 .and a b K:=Vbits.wand x y ha hb (by rw[hm];exact hK)
theorem EO(x:UInt64)(n:Nat)(hn:1<=n/\n<=63):aG 528 [W x,I (-(n:Int))] (.r (W (ng x n))):=by
 refine aT Tryz.func528 rfl ?_
 have e1:(UInt64.ofNat (18446744073709551616-n)).toNat=18446744073709551616-n:=by rw[UInt64.toNat_ofNat'];omega
 refine Vint.n ((UInt64.ofNat (18446744073709551616-n)).toNat:Int) (by rw[e1];simp only[IntKind.wrap];simp[IntKind.bits,IntKind.signed];omega) ?_
 refine Vbits.wandN (UInt64.ofNat (18446744073709551616-n)) 63 (64-n) rfl rfl (by
  rw[UInt64.toNat_and,e1]
  have:=Nat.and_two_pow_sub_one_eq_mod (18446744073709551616-n) 6
  have e:(63:UInt64).toNat=2^6-1:=rfl
  rw[e,this]
  omega) ?_
 refine Vshl.w x (64-n) rfl rfl (by omega) ?_
 refine zF n (by omega) (by omega) ?_
 refine Vshr.w x n rfl rfl ?_
 refine Vbits.wor _ _ rfl rfl ?_
 exact cr
theorem uf(x:UInt64)(n:Nat)(hn:1<=n/\n<=63):aG 492 [W x,I n] (.r (W (ng x n))):=by
 refine aT Tryz.func492 rfl ?_
 refine zd (m:= -(n:Int)) (by omega) (by omega) ?_
 refine ze (EO x n hn) ?_
 exact cr
abbrev vQ(l:List UInt64):Ow:= .box ((l.map W).map .r)
theorem nu{l:List UInt64}{j:Nat}(h:j<l.length):yp ((l.map W).map TF.r) (j*1)=some (TF.r (W (l.getD j 0))):=jF W 0 h
theorem Tb{l:List UInt64}{j:Nat}{x:UInt64}{K:List TF->Prop}(h:j<l.length)(hK:K (((l.set j x).map W).map TF.r)):rP ((l.map W).map TF.r) (j*1) [TF.r (W x)] K:=Ta h hK
def nt(c:cT):Nat->UInt64
 |0=>0
 |j+1=>rR (nt c j) 8|||UInt64.ofNat (c.getD j 0).toNat
def wA(b:cT)(t:Nat):List UInt64:=(List.range 80).map λi=>if i<t then nt (b.drop (8*i)) 8 else 0
def wI(b:cT)(t j:Nat):List UInt64:=(wA b t).set t (nt (b.drop (8*t)) j)
theorem TA(b:cT)(t:Nat):(wA b t).length=80:=by simp[wA]
theorem TB(b:cT)(t j:Nat):(wI b t j).length=80:=by simp[wI,wA]
theorem FF(b:cT)(t:Nat)(ht:t<80):wI b t 0=wA b t:=by
 apply List.ext_getElem
 ·simp[wI]
 ·intro i h1 h2
  simp only[wI,List.getElem_set]
  split
  ·rename_i h;subst h;simp[wA,nt]
  ·rfl
theorem CW(b:cT)(t:Nat):wI b t 8=wA b (t+1):=by
 apply List.ext_getElem
 ·simp[wI,wA]
 ·intro i h1 h2
  simp only[wI,List.getElem_set,wA,List.getElem_map,List.getElem_range]
  split
  ·rename_i h;subst h;simp
  ·rename_i h
   by_cases h3:i<t
   ·rw[cO h3,cO (by omega)]
   ·rw[cQ h3,cQ (by omega)]
theorem CX(b:cT)(t j:Nat)(ht:t<80):(wI b t j).getD t 0=nt (b.drop (8*t)) j:=by
 rw[wI,bK,List.getElem?_set_self (by rw[TA];exact ht)]
 rfl
theorem CY(b:cT)(t j:Nat)(x:UInt64)(hx:x=nt (b.drop (8*t)) (j+1)):(wI b t j).set t x=wI b t (j+1):=by
 rw[hx,wI,List.set_set]
 rfl
theorem Qw(c:cT)(j:Nat):nt c (j+1)=rR (nt c j) 8|||UInt64.ofNat (c.getD j 0).toNat:=rfl
attribute [irreducible] wA wI nt
end
section
def wS(x y p q:UInt64):UInt64:=((ng y 19^^^ng y 61)^^^yA y 6)+p+((ng x 1^^^ng x 8)^^^yA x 7)+q
def wB(b:cT):Nat->List UInt64
 |0=>wA b 16
 |k+1=>(wB b k).set (16+k) (wS ((wB b k).getD (k+1) 0) ((wB b k).getD (k+14) 0) ((wB b k).getD (k+9) 0) ((wB b k).getD k 0))
theorem vD(b:cT): ∀k,(wB b k).length=80
 |0=>TA b 16
 |k+1=>by rw[wB,List.length_set,vD b k]
theorem FE(b:cT):wB b 0=wA b 16:=rfl
theorem FD(b:cT)(k:Nat):wB b (k+1)=(wB b k).set (16+k) (wS ((wB b k).getD (k+1) 0) ((wB b k).getD (k+14) 0) ((wB b k).getD (k+9) 0) ((wB b k).getD k 0)):=rfl
theorem FC(b:cT):wA b 0=List.replicate 80 0:=by
 apply List.ext_getElem
 ·simp[TA]
 ·intro i h1 h2
  unfold wA
  simp only[List.getElem_map,List.getElem_replicate,Nat.not_lt_zero,if_false]
attribute [irreducible] wB
theorem O5{x:UInt64}{l:List UInt64}{j:Nat}(h:j<l.length):(xk (W x)&&(Nat.beq (cellsOf (W x)).length 1&&Nat.ble (j*1+1) ((l.map W).map TF.r).length))=true:=Yn (by rw[bC,bC];exact h)
def Ba(b:cT)(t:Nat):St:={F:=[(0,.r (bs b)),(2,.own 0),(3,.own 1),(10,.r (I t))],O:=[(0,some (vQ (List.replicate 80 0))),(1,some (vQ (wA b t)))],nx:=2}
def Bc(b:cT)(t j:Nat):St:={F:=[(0,.r (bs b)),(2,.own 0),(3,.own 1),(10,.r (I t)),(4,.r (I t)),(19,.r (.sl 1 8 (((b.drop (8*t)).take 8).map U8))),(20,.r (I 8)),(21,.r (I j))],O:=[(0,some (vQ (List.replicate 80 0))),(1,some (vQ (wI b t j)))],nx:=2}
def Bb(b:cT)(k:Nat):St:={F:=[(2,.own 0),(3,.own 1),(7,.r (I ((16+k:Nat):Int)))],O:=[(0,some (vQ (List.replicate 80 0))),(1,some (vQ (wB b k)))],nx:=2}
theorem Ld(b:cT)(t:Nat):vB [(0,0),(1,1)] (Ba b t)=true:=by
 simp only[vB,Ba,vQ,List.all_cons,List.all_nil,uD,uV]
 rfl
theorem Lg(b:cT)(t j:Nat):vB [(0,0),(1,1)] (Bc b t j)=true:=by
 simp only[vB,Bc,vQ,List.all_cons,List.all_nil,uD,uV]
 rfl
theorem Lf(b:cT)(k:Nat):vB [(0,0),(1,1)] (Bb b k)=true:=by
 simp only[vB,Bb,vQ,List.all_cons,List.all_nil,uD,uV]
 rfl
theorem GF(b:cT)(hb:b.length=128):aG 491 [bs b] (.r (.ag ((wB b 64).map W))):=by
 refine aT Tryz.func491 rfl ?_
 refine zy (Ba b) (λt=>t<=16) (λt=>16-t) 0 (by omega) (zX [(0,0),(1,1)] (Ld b 0) ⟨cr,rfl,rfl,cr,trivial⟩ ⟨yh ((List.replicate 80 (0:UInt64)).map W),by rw[FC];exact yh ((List.replicate 80 (0:UInt64)).map W),trivial⟩) ?_
 intro t ht
 refine cZ (λh=>?_) λh=>?_
 ·simp only[zb]at h
  refine zd (m:=((8*t:Nat):Int)) (by omega) (by omega) ?_
  refine zd (m:=((8*t:Nat):Int)) (by omega) (by omega) ?_
  refine zd (m:=((8*t+8:Nat):Int)) (by omega) (by omega) ?_
  refine⟨by omega,by omega,by omega,8,((b.drop (8*t)).take 8).map U8,by omega,by rw[cL,cF,cL,<-List.map_drop,<-List.map_take],?_⟩
  refine zy (Bc b t) (λj=>j<=8) (λj=>8-j) 0 (by omega) (zX [(0,0),(1,1)] (Lg b t 0) ⟨cr,rfl,rfl,cr,cr,cr,cr,cr,trivial⟩ ⟨yh ((List.replicate 80 (0:UInt64)).map W),by rw[FF b t (by omega)];exact yh ((wA b t).map W),trivial⟩) ?_
  intro j hj
  refine cZ (λh=>?_) λh=>?_
  ·simp only[zb]at h
   have hc:((b.drop (8*t)).take 8).length=8:=by rw[bL,bW];omega
   have ht':t<16:=by omega
   refine cV (xn rfl (i:=j) (by rw[hc];omega)) (zg rfl ?_)
   refine zD t rfl (by omega) ?_
   (conv=>whnf)
   generalize hq:yp _ _=q
   obtain rfl:=hq.symm.trans (nu (by rw[TB];omega))
   clear hq
   refine Vshl.w _ 8 rfl rfl (by decide) ?_
   refine Vint.w _ rfl ?_
   refine Vbits.wor _ _ rfl rfl ?_
   refine zD t rfl (by omega) ?_
   (conv=>whnf)
   generalize hq:(xk _&&_)=q
   obtain rfl:=hq.symm.trans (O5 (x:=rR ((wI b t j).getD t 0) 8|||UInt64.ofNat (((b.drop (8*t)).take 8)[j]).toNat) (j:=t) (by rw[TB];omega))
   clear hq
   refine Tb (by rw[TB];omega) ?_
   rw[CY b t j _ (by
    rw[CX b t j (by omega),Qw,List.getElem_take,bK,bA (by rw[bW];omega)]
    rfl)]
   refine zd (m:=((j+1:Nat):Int)) (by omega) (by omega) ?_
   exact⟨j+1,by omega,by omega,zX [(0,0),(1,1)] (Lg b t (j+1)) ⟨cr,rfl,rfl,cr,cr,cr,cr,cr,trivial⟩ ⟨yh ((List.replicate 80 (0:UInt64)).map W),yh ((wI b t (j+1)).map W),trivial⟩⟩
  ·simp only[zb]at h
   obtain rfl:j=8:=by omega
   refine zd (m:=((t+1:Nat):Int)) (by omega) (by omega) ?_
   exact⟨t+1,by omega,by omega,zX [(0,0),(1,1)] (Ld b (t+1)) ⟨cr,rfl,rfl,cr,trivial⟩ ⟨yh ((List.replicate 80 (0:UInt64)).map W),by rw[<-CW b t];exact yh ((wI b t 8).map W),trivial⟩⟩
 ·simp only[zb]at h
  obtain rfl:t=16:=by omega
  refine zy (Bb b) (λk=>k<=64) (λk=>64-k) 0 (by omega) (zX [(0,0),(1,1)] (Lf b 0) ⟨rfl,rfl,cr,trivial⟩ ⟨yh ((List.replicate 80 (0:UInt64)).map W),by rw[FE];exact yh ((wA b 16).map W),trivial⟩) ?_
  intro k hk
  refine cZ (λh=>?_) λh=>?_
  ·simp only[zb]at h
   have hk':k<64:=by omega
   refine aV ?_
   refine zd (m:=((k+1:Nat):Int)) (by omega) (by omega) ?_
   (conv=>whnf)
   generalize hq:yR _ _ _ _ _=q
   obtain rfl:=hq.symm.trans (xG rfl rfl rfl)
   clear hq
   refine zD (k+1) rfl (by omega) ?_
   (conv=>whnf)
   generalize hq:yR _ _ _ _ _=q
   obtain rfl:=hq.symm.trans (xG rfl rfl rfl)
   clear hq
   (conv=>whnf)
   generalize hq:yp _ _=q
   obtain rfl:=hq.symm.trans (nu (l:=wB b k) (j:=k+1) (by rw[vD];omega))
   clear hq
   refine zd (m:=((k+14:Nat):Int)) (by omega) (by omega) ?_
   (conv=>whnf)
   generalize hq:yR _ _ _ _ _=q
   obtain rfl:=hq.symm.trans (xG rfl rfl rfl)
   clear hq
   refine zD (k+14) rfl (by omega) ?_
   (conv=>whnf)
   generalize hq:yR _ _ _ _ _=q
   obtain rfl:=hq.symm.trans (xG rfl rfl rfl)
   clear hq
   (conv=>whnf)
   generalize hq:yp _ _=q
   obtain rfl:=hq.symm.trans (nu (l:=wB b k) (j:=k+14) (by rw[vD];omega))
   clear hq
   refine aV ?_
   refine ze (uf _ 19 (by decide)) ?_
   refine ze (uf _ 61 (by decide)) ?_
   refine Vbits.wxor _ _ rfl rfl ?_
   refine Vshr.w _ 6 rfl rfl ?_
   refine Vbits.wxor _ _ rfl rfl ?_
   refine zd (m:=((k+9:Nat):Int)) (by omega) (by omega) ?_
   (conv=>whnf)
   generalize hq:yR _ _ _ _ _=q
   obtain rfl:=hq.symm.trans (xG rfl rfl rfl)
   clear hq
   refine zD (k+9) rfl (by omega) ?_
   (conv=>whnf)
   generalize hq:yR _ _ _ _ _=q
   obtain rfl:=hq.symm.trans (xG rfl rfl rfl)
   clear hq
   (conv=>whnf)
   generalize hq:yp _ _=q
   obtain rfl:=hq.symm.trans (nu (l:=wB b k) (j:=k+9) (by rw[vD];omega))
   clear hq
   refine Vint.wadd _ _ rfl rfl ?_
   refine ze (uf _ 1 (by decide)) ?_
   refine ze (uf _ 8 (by decide)) ?_
   refine Vbits.wxor _ _ rfl rfl ?_
   refine Vshr.w _ 7 rfl rfl ?_
   refine Vbits.wxor _ _ rfl rfl ?_
   refine Vint.wadd _ _ rfl rfl ?_
   refine zd (m:=(k:Int)) (by omega) (by omega) ?_
   (conv=>whnf)
   generalize hq:yR _ _ _ _ _=q
   obtain rfl:=hq.symm.trans (xG rfl rfl rfl)
   clear hq
   refine zD k rfl (by omega) ?_
   (conv=>whnf)
   generalize hq:yR _ _ _ _ _=q
   obtain rfl:=hq.symm.trans (xG rfl rfl rfl)
   clear hq
   (conv=>whnf)
   generalize hq:yp _ _=q
   obtain rfl:=hq.symm.trans (nu (l:=wB b k) (j:=k) (by rw[vD];omega))
   clear hq
   refine Vint.wadd _ _ rfl rfl ?_
   (conv=>whnf)
   generalize hq:yR _ _ _ _ _=q
   obtain rfl:=hq.symm.trans (xG rfl rfl rfl)
   clear hq
   refine zD (16+k) rfl (by omega) ?_
   (conv=>whnf)
   generalize hq:(xk _&&_)=q
   obtain rfl:=hq.symm.trans (O5 (x:=wS ((wB b k).getD (k+1) 0) ((wB b k).getD (k+14) 0) ((wB b k).getD (k+9) 0) ((wB b k).getD k 0)) (j:=16+k) (by rw[vD];omega))
   clear hq
   refine Tb (by rw[vD];omega) ?_
   refine zd (m:=((16+(k+1):Nat):Int)) (by omega) (by omega) ?_
   exact⟨k+1,by omega,by omega,zX [(0,0),(1,1)] (Lf b (k+1)) ⟨rfl,rfl,cr,trivial⟩ ⟨yh ((List.replicate 80 (0:UInt64)).map W),by rw[FD];exact yh _,trivial⟩⟩
  ·simp only[zb]at h
   obtain rfl:k=64:=by omega
   refine za (l:=((wB b 64).map W).map TF.r) (bF (by simp[vD])) (by simp[vD]) ?_
   (conv=>whnf)
   generalize hq:St.rvs _ _=q
   obtain rfl:=hq.symm.trans (pO _ _)
   clear hq
   (conv=>whnf)
   generalize hq:(xk _&&_)=q
   have hg:(xk (.ag ((wB b 64).map W))&&(Nat.beq (cellsOf (.ag ((wB b 64).map W))).length 80&&Nat.ble (0+80) (((List.replicate 80 (0:UInt64)).map W).map TF.r).length))=true:=by
    have e1:(cellsOf (.ag ((wB b 64).map W))).length=80:=by show((wB b 64).map W).length=80;rw[bC,vD]
    rw[e1]
    have e2:xk (.ag ((wB b 64).map W))=true:=rfl
    rw[e2]
    rfl
   obtain rfl:=hq.symm.trans hg
   clear hq
   show rP _ _ _ _
   rw[tK _ _ _ _ (by simp[vD,cellsOf])]
   generalize hq:(List.take 0 _++_++_:List TF)=q
   have hg:(((List.replicate 80 (0:UInt64)).map W).map TF.r).take 0++((wB b 64).map W).map TF.r++(((List.replicate 80 (0:UInt64)).map W).map TF.r).drop (0+(((wB b 64).map W).map TF.r).length)=((wB b 64).map W).map TF.r:=by
    rw[bC,bC,vD]
    exact List.append_nil _
   obtain rfl:=hq.symm.trans hg
   clear hq
   refine za (l:=((wB b 64).map W).map TF.r) (bF (by simp[vD])) (by simp[vD]) ?_
   (conv=>whnf)
   generalize hq:St.rvs _ _=q
   obtain rfl:=hq.symm.trans (pO _ _)
   clear hq
   exact cr
end
section
structure X8 where
 a:UInt64
 b:UInt64
 c:UInt64
 d:UInt64
 e:UInt64
 f:UInt64
 g:UInt64
 h:UInt64
abbrev X8.l(x:X8):List UInt64:=[x.a,x.b,x.c,x.d,x.e,x.f,x.g,x.h]
def X8.t1(x:X8)(k w:UInt64):UInt64:=x.h+((ng x.e 14^^^ng x.e 18)^^^ng x.e 41)+((x.e&&&x.f)^^^((18446744073709551615^^^x.e)&&&x.g))+k+w
def X8.t2(x:X8):UInt64:=((ng x.a 28^^^ng x.a 34)^^^ng x.a 39)+(((x.a&&&x.b)^^^(x.a&&&x.c))^^^(x.b&&&x.c))
def X8.next(x:X8)(k w:UInt64):X8:=⟨x.t1 k w+x.t2,x.a,x.b,x.c,x.d+x.t1 k w,x.e,x.f,x.g⟩
def X8.add(x y:X8):X8:=⟨x.a+y.a,x.b+y.b,x.c+y.c,x.d+y.d,x.e+y.e,x.f+y.f,x.g+y.g,x.h+y.h⟩
def xN(s:X8)(k w:List UInt64):Nat->X8
 |0=>s
 |j+1=>(xN s k w j).next (k.getD j 0) (w.getD j 0)
theorem FJ(s:X8)(k w:List UInt64):xN s k w 0=s:=rfl
theorem FI(s:X8)(k w:List UInt64)(j:Nat):xN s k w (j+1)=(xN s k w j).next (k.getD j 0) (w.getD j 0):=rfl
attribute [irreducible] xN
def Oc(s:X8)(k:List UInt64)(b:cT):X8:=s.add (xN s k (wB b 64) 80)
abbrev X8.bx(x:X8):Ow:= .box [.r (W x.a),.r (W x.b),.r (W x.c),.r (W x.d),.r (W x.e),.r (W x.f),.r (W x.g),.r (W x.h)]
abbrev X8.v(x:X8):List RV:=[W x.a,W x.b,W x.c,W x.d,W x.e,W x.f,W x.g,W x.h]
def CL(s:X8)(k w:List UInt64)(j:Nat):St:={F:=[(3,.own 0),(4,.own 1),(6,.own 2),(7,.own 3),(8,.own 4),(18,.r (I j))],O:=[(0,some s.bx),(1,some (vQ k)),(2,some (X8.bx ⟨0,0,0,0,0,0,0,0⟩)),(3,some (vQ w)),(4,some (xN s k w j).bx)],nx:=5}
theorem MR(s:X8)(k w:List UInt64)(j:Nat):vB [(0,0),(1,1),(2,2),(3,3),(4,4)] (CL s k w j)=true:=by
 simp only[vB,CL,vQ,List.all_cons,List.all_nil,uD,uV]
 rfl
theorem Kx(s:X8)(k:List UInt64)(b:cT)(hk:k.length=80)(hb:b.length=128):aG 430 [.ag s.v,.ag (k.map W),bs b] (.r (.ag (Oc s k b).v)):=by
 refine aT Tryz.func430 rfl ?_
 refine ze (GF b hb) ?_
 (conv=>whnf)
 generalize hq:(xk _&&_)=q
 obtain rfl:=hq.symm.trans (nj (l:=(wB b 64).map W) 80 (by rw[bC,vD]) rfl)
 clear hq
 refine tA (by rw[bC,bC,vD];rfl) ?_
 refine cU ?_
 refine zy (CL s k (wB b 64)) (λj=>j<=80) (λj=>80-j) 0 (by omega) (zX [(0,0),(1,1),(2,2),(3,3),(4,4)] (MR s k (wB b 64) 0) ⟨rfl,rfl,rfl,rfl,rfl,cr,trivial⟩ ⟨(aD aZ),yh (k.map W),(aD aZ),yh ((wB b 64).map W),by rw[FJ];exact⟨_,_,rfl,cr,_,_,rfl,cr,_,_,rfl,cr,_,_,rfl,cr,_,_,rfl,cr,_,_,rfl,cr,_,_,rfl,cr,_,_,rfl,cr,rfl⟩,trivial⟩) ?_
 intro j hj
 refine cZ (λh=>?_) λh=>?_
 ·simp only[zb]at h
  have hj':j<80:=by omega
  generalize hX:xN s k (wB b 64) j=x
  refine aV ?_
  refine zH (by decide) ?_
  refine zH (by decide) ?_
  refine aV ?_
  refine zH (by decide) ?_
  refine ze (uf _ 14 (by decide)) ?_
  refine ze (uf _ 18 (by decide)) ?_
  refine Vbits.wxor _ _ rfl rfl ?_
  refine ze (uf _ 41 (by decide)) ?_
  refine Vbits.wxor _ _ rfl rfl ?_
  refine Vint.wadd _ _ rfl rfl ?_
  refine zH (by decide) ?_
  refine Vbits.wand _ _ rfl rfl ?_
  refine Vbits.wxor 18446744073709551615 _ rfl rfl ?_
  refine zH (by decide) ?_
  refine Vbits.wand _ _ rfl rfl ?_
  refine Vbits.wxor _ _ rfl rfl ?_
  refine Vint.wadd _ _ rfl rfl ?_
  (conv=>whnf)
  generalize hq:yR _ _ _ _ _=q
  obtain rfl:=hq.symm.trans (xG rfl rfl rfl)
  clear hq
  refine zD j rfl (by omega) ?_
  (conv=>whnf)
  generalize hq:yR _ _ _ _ _=q
  obtain rfl:=hq.symm.trans (xG rfl rfl rfl)
  clear hq
  (conv=>whnf)
  generalize hq:yp _ _=q
  obtain rfl:=hq.symm.trans (nu (l:=k) (j:=j) (by rw[hk];omega))
  clear hq
  refine Vint.wadd _ _ rfl rfl ?_
  (conv=>whnf)
  generalize hq:yR _ _ _ _ _=q
  obtain rfl:=hq.symm.trans (xG rfl rfl rfl)
  clear hq
  refine zD j rfl (by omega) ?_
  (conv=>whnf)
  generalize hq:yR _ _ _ _ _=q
  obtain rfl:=hq.symm.trans (xG rfl rfl rfl)
  clear hq
  (conv=>whnf)
  generalize hq:yp _ _=q
  obtain rfl:=hq.symm.trans (nu (l:=wB b 64) (j:=j) (by rw[vD];omega))
  clear hq
  refine Vint.wadd _ _ rfl rfl ?_
  refine aV ?_
  refine ze (uf _ 28 (by decide)) ?_
  refine ze (uf _ 34 (by decide)) ?_
  refine Vbits.wxor _ _ rfl rfl ?_
  refine ze (uf _ 39 (by decide)) ?_
  refine Vbits.wxor _ _ rfl rfl ?_
  refine zH (by decide) ?_
  refine Vbits.wand _ _ rfl rfl ?_
  refine zH (by decide) ?_
  refine Vbits.wand _ _ rfl rfl ?_
  refine Vbits.wxor _ _ rfl rfl ?_
  refine zH (by decide) ?_
  refine zH (by decide) ?_
  refine Vbits.wand _ _ rfl rfl ?_
  refine Vbits.wxor _ _ rfl rfl ?_
  refine Vint.wadd _ _ rfl rfl ?_
  refine aV ?_
  refine Vcutn.mk' 1 7 rfl rfl (by decide) (by decide) ?_
  refine Vcutn.mk' 0 7 rfl rfl (by decide) (by decide) ?_
  refine Vstep.copyBox (n:=7) (m:=7) (ys:=[W x.a,W x.b,W x.c,W x.d,W x.e,W x.f,W x.g]) (zs:=[.r (W x.a),.r (W x.a),.r (W x.b),.r (W x.c),.r (W x.d),.r (W x.e),.r (W x.f),.r (W x.g)]) Tab_ok rfl rfl rfl rfl rfl rfl rfl (by show 1*1+7<=8;decide) rfl (.inr ⟨0,rfl,by show 0+7<=8;decide,rfl⟩) rfl ?_
  refine zH (by decide) ?_
  refine Vint.wadd _ _ rfl rfl ?_
  refine zH (by decide) ?_
  refine Vint.wadd _ _ rfl rfl ?_
  refine zH (by decide) ?_
  refine zd (m:=((j+1:Nat):Int)) (by omega) (by omega) ?_
  exact⟨j+1,by omega,by omega,zX [(0,0),(1,1),(2,2),(3,3),(4,4)] (MR s k (wB b 64) (j+1)) ⟨rfl,rfl,rfl,rfl,rfl,cr,trivial⟩ ⟨(aD aZ),yh (k.map W),(aD aZ),yh ((wB b 64).map W),by rw[FI,hX];exact⟨_,_,rfl,cr,_,_,rfl,cr,_,_,rfl,cr,_,_,rfl,cr,_,_,rfl,cr,_,_,rfl,cr,_,_,rfl,cr,_,_,rfl,cr,rfl⟩,trivial⟩⟩
 ·simp only[zb]at h
  obtain rfl:j=80:=by omega
  generalize hX:xN s k (wB b 64) 80=x
  refine zE 9 ?_
  repeat' ((conv=>whnf);first|refine zC mixed Tab_ok ?_|refine zt rfl (zp ?_)|refine zu rfl (zq ?_)|refine zH (by decide) ?_|refine Vint.any (k:= .i64) ?_|refine Vint.wadd _ _ rfl rfl ?_|refine za rfl rfl ?_|refine aV ?_)
  subst hX
  exact cr
end
section
variable {P:Program} {T:TT} {B:Bs} {N:Nat} {S:St} {a:Act} {w:World} {k:Kp} {g:Env} {o:Oper} {Q:Exit->Act->World->Prop}
abbrev zs(m:Nat):List Value:=List.replicate m (Value.int .u8 0)
abbrev zR(m:Nat):List RV:=List.replicate m (.i .u8 0)
theorem BK(w:World)(k:Kp)(m:Nat):RV.listAt w k (zR m) (zs m):=by
 rw[RV.listAt_iff]
 refine⟨by simp,λj f u hf hu=>?_⟩
 rw[List.getElem?_replicate]at hf hu
 split at hf
 ·rename_i h
  rw[cO h]at hu
  cases hf;cases hu
  exact⟨rfl,by simp[RV.at_]⟩
 ·cases hf
theorem Ye{z:Array Value}(h:z= #[.int .u8 0]) (m:Nat):Builtin.zeroCells z m=(zs m).toArray:=by
 subst h
 apply Array.ext'
 simp only[Builtin.zeroCells,List.size_toArray,bJ,bO,Nat.zero_add,cL,Nat.mod_one,Array.toList_map,Array.toList_range]
 apply List.ext_getElem
 ·simp
 ·intro i h1 h2
  simp
theorem kZ(w:World)(t tn ty e:TypeId)(i:TypeInfo)(z:Value)(kq kn:IntKind)(ht:P.underlying t=some (.slice e))(htn:P.underlying tn=some (.int kn))(hi:P.info? e=some i)(hz:i.zero=some z)(hsize:i.size=1)(hby:i.bytes=1)(hzl:z.cells= #[.int .u8 0])
  (g sLen sCap:Nat) (cur:Array Value) (hg:w.heap[g]?=some (.cells cur e (0,0))) (m:Nat) (hm:0<m) (hroom:sLen+m<=sCap) (hfit:sLen+m<=cur.size) (hmm:m<=140737488355328):
  (Builtin.append_ #[t,tn] ty #[.slice (some ⟨g,0,none⟩) sLen sCap,.int kq (m:Int)]).run P w=
   .ok (.slice (some ⟨g,0,none⟩) (sLen+m) sCap) (w.setRow g (cur.toList.take sLen++zs m++cur.toList.drop (sLen+m)).toArray):=by
 have hst:=run_storeCells_at P g sLen e (zs m) 0 cur w hg (by simpa using hfit) (λu hu=>by rw[List.eq_of_mem_replicate hu];rfl)
 simp only[Nat.add_zero,List.length_replicate]at hst
 have hk:m≠0:=by omega
 have hw:IntKind.i64.wrap (m:Int)=m:=by rw[IntKind.wrap_i64];omega
 have hneg: ¬((m:Int)<0):=by omega
 have h48i: ¬(281474976710656< (m:Int)):=by omega
 have hzc:=Ye hzl m
 simp[Builtin.append_,run_underlying ht,run_underlying htn,sizeOf,typeInfo,zeroValue,hi,hz,hsize,hby,asInt,asIntOf,hw,hneg,h48i,hk,hroom,hzc,Addr.add_lit,hst]
theorem Vf{t t' ty e:TypeId}{kn kq:IntKind}{i:TypeInfo}{z:Value}(ht:P.underlying t=some (.slice e))(hu:P.underlying t'=some (.int kn))(hi:P.info? e=some i)(hz:i.zero=some z)
  (hsize:i.size=1) (hby:i.bytes=1) (hzl:z.cells= #[.int .u8 0])
  {n:Nat} {cells:List RV} {pub:Bool} {u:Value} {ob:Option Nat} (hch:chAt w k e 1 n cells pub u ob) (m:Nat) (hm:0<m) (hbytes:n+m<=140737488355328):
  ∃xs b cap cur w',(Builtin.append_ #[t,t'] ty #[u,.int kq (m:Int)]).run P w= .ok (.slice (some ⟨b,0,none⟩) (n+m) cap) w'/\RV.listAt w k cells xs/\
   w'.heap[b]?=some (.cells cur e (0,0))/\n+m<=cap/\cap<=maxLen/\cap*1<=cur.size/\cur.toList.take ((n+m)*1)=xs++zs m/\w.grownBy w' ob/\(ob=some b\/b=w.heap.size)/\
   (∀b0,ob=some b0->(∃cur0,w.heap[b0]?=some (.cells cur0 e (0,0))/\cur0.toList.take (n*1)=xs)/\(b=b0\/b=w.heap.size/\w'.heap[b0]?=w.heap[b0]?)):=by
 obtain⟨hcl,hch⟩:=hch
 have hl:(zs m).length=m:=List.length_replicate
 have hzs:z.cells.size=1:=by rw[hzl];rfl
 have h63:n+m<=maxLen:=by simp only[maxLen];omega
 have fin: ∀(xs:List Value) (old:Nat),xs.length=n->
   (w.drew.alloc (.cells (xs.toArray++(zs m).toArray++Builtin.zeroCells z.cells (grownCap w (n+m) old e-(n+m))) e)).heap[w.heap.size]?=some (.cells (xs.toArray++(zs m).toArray++Builtin.zeroCells z.cells (grownCap w (n+m) old e-(n+m))) e (0,0))/\
   n+m<=grownCap w (n+m) old e/\grownCap w (n+m) old e<=maxLen/\(xs.toArray++(zs m).toArray++Builtin.zeroCells z.cells (grownCap w (n+m) old e-(n+m))).size=grownCap w (n+m) old e*1/\
   (xs.toArray++(zs m).toArray++Builtin.zeroCells z.cells (grownCap w (n+m) old e-(n+m))).toList.take ((n+m)*1)=xs++zs m/\
   ∀row,w.grownBy (w.drew.alloc (.cells (xs.toArray++(zs m).toArray++Builtin.zeroCells z.cells (grownCap w (n+m) old e-(n+m))) e)) row:=λxs old hx=>by
  have hge:=grownCap_ge w (n+m) old e
  refine⟨heap_alloc_new w.drew _,hge,grownCap_le_maxLen w (n+m) old e h63,?_,?_,λrow=>⟨rfl,rfl,rfl,by simp,λk hk _=>Below.heap_alloc w.drew _ k hk⟩⟩
  ·simp only[Array.size_append,List.size_toArray,size_zeroCells,hzs,hl,hx]
   omega
  ·simp only[Array.toList_append]
   rw[show(n+m)*1=(xs++zs m).length by rw[aL,hl,hx,cL]]
   exact List.take_left
 rcases hch with⟨rfl,⟨rfl,p,rfl⟩ |⟨hn0,_,b,o,rfl,hnm,hbl,hcell⟩⟩ |⟨b,cap,cur,rfl,rfl,hh,hnc,hcm,hcs,hkb,hlist⟩
 ·have hc0:cells=[]:=bU (by simpa using hcl)
  subst hc0
  cases p with
  |none=>
   have hr:=Lib.run_append_nil_zeros (P:=P) w t t' ty e i z kq kn ht hu hi hz m hm (by omega) (by omega) (by rw[hby];omega)
   rw[Ye hzl m]at hr
   obtain⟨f1,f2,f3,f4,f5,f6⟩:=fin [] 0 rfl
   simp only[Nat.zero_add,cG,Array.empty_append]at f1 f2 f3 f4 f5 f6⊢
   exact⟨[],w.heap.size,_,_,_,hr,by simp[RV.listAt],f1,f2,f3,Nat.le_of_eq f4.symm,f5,f6 _,.inr rfl,λb0 h=>by cases h⟩
  |some p=>
   have hr:=Lib.run_append_grow_zeros (P:=P) w t t' ty e i z kq kn ht hu hi hz (some p) 0 0 [] (run_firstCells_some (P:=P) w.drew i.size 0 p 0 0 [] (by simp) (by simp)) m hm (by omega) (by omega) (by omega) (by rw[hby];omega) (growslice_fits (by omega) (by rw[hby];omega))
   rw[Ye hzl m]at hr
   obtain⟨f1,f2,f3,f4,f5,f6⟩:=fin [] 0 rfl
   exact⟨[],w.heap.size,_,_,_,hr,by simp[RV.listAt],f1,f2,f3,Nat.le_of_eq f4.symm,f5,f6 _,.inr rfl,λb0 h=>by cases h⟩
 ·obtain⟨xs,hlist,hxl,hcell⟩:=RV.cells_list cells o hcell
  have hr:=Lib.run_append_grow_zeros (P:=P) w t t' ty e i z kq kn ht hu hi hz (some ⟨b,o,none⟩) n n xs (run_firstCells_some (P:=P) w.drew i.size n ⟨b,o,none⟩ n n xs (by rw[hsize,hxl,hcl]) (by simpa using(λj v hj=>by rw[Addr.add_mid];exact hcell j v hj: ∀j v,xs[j]?=some v->w.cell? ((⟨b,o,none⟩:Addr).add j)=some v))) m hm (by omega) (by omega) (by omega) (by rw[hby];omega) (growslice_fits (by omega) (by rw[hby];omega))
  rw[Ye hzl m]at hr
  obtain⟨f1,f2,f3,f4,f5,f6⟩:=fin xs n (by rw[hxl,hcl,cL])
  exact⟨xs,w.heap.size,_,_,_,hr,hlist,f1,f2,f3,Nat.le_of_eq f4.symm,f5,f6 _,.inr rfl,λb0 hb0=>by cases hb0⟩
 ·have hxl:(cur.toList.take (n*1)).length=n:=by rw[yU hlist,hcl,cL]
  have hlt:b<w.heap.size:=(Array.getElem?_eq_some_iff.1 hh).1
  by_cases hfit:n+m<=cap
  ·have hr:=kZ (P:=P) w t t' ty e i z kq kn ht hu hi hz hsize hby hzl b n cap cur hh m hm hfit (by omega) (by omega)
   refine⟨_,b,cap,_,_,hr,hlist,setRow_heap w b cur _ e (0,0) hh,hfit,hcm,?_,?_,⟨rfl,rfl,rfl,by simp[World.setRow],λx hx hne=>setRow_other w b x _ (λh=>hne (by rw[h]))⟩,.inl rfl,λb0 hb0=>?_⟩
   ·simp only[List.size_toArray,aL,bL,hl,bW,bG]
    omega
   ·rw[cL]at hxl⊢
    rw[cL]
    rw[show n+m=(cur.toList.take n++zs m).length by rw[aL,hxl,hl],List.toList_toArray]
    exact List.take_left
   ·cases hb0
    exact⟨⟨cur,hh,rfl⟩,.inl rfl⟩
  ·have hr:=Lib.run_append_grow_zeros (P:=P) w t t' ty e i z kq kn ht hu hi hz (some ⟨b,0,none⟩) n cap (cur.toList.take (n*1)) (run_firstCells_some (P:=P) w.drew i.size n ⟨b,0,none⟩ n cap (cur.toList.take (n*1)) (by rw[hsize,hxl,cL]) (by
    have hc: ∀j v,(cur.toList.take (n*1))[j]?=some v->w.cell? ((⟨b,0,none⟩:Addr).add j)=some v:=λj v hj=>by
     rw[Addr.add_mid,Nat.zero_add,cell_of_row w b j cur e (0,0) hh]
     rw[bZ]at hj
     split at hj
     ·simpa using hj
     ·cases hj
    simpa using hc)) m hm (by omega) (by omega) (by omega) (by rw[hby];omega) (growslice_fits (by omega) (by rw[hby];omega))
   rw[Ye hzl m]at hr
   obtain⟨f1,f2,f3,f4,f5,f6⟩:=fin (cur.toList.take (n*1)) cap hxl
   refine⟨_,w.heap.size,_,_,_,hr,hlist,f1,f2,f3,Nat.le_of_eq f4.symm,f5,f6 _,.inr rfl,λb0 hb0=>?_⟩
   cases hb0
   exact⟨⟨cur,hh,rfl⟩,.inr ⟨rfl,Below.heap_alloc w.drew _ b hlt⟩⟩
theorem Vstep.appZ{x y:Operand}{t t' e:TypeId}{ti te ts:TI}{kn kq:IntKind}{f:TF}{id:Option Nat}{n:Nat}{cells:List RV}{pub:Bool}{m:Nat}{K:St->Prop}(hT:TOk P T)
  (hop:o.op= .call {callee:= .builtin .append,args:= #[x,y],argTypes:= #[t,t']}) (hti:yL T t=some ti) (hk:ti.k= .slice e) (hte:yL T e=some te) (hke:te.sz=1/\te.bytes=1/\te.zero=[.int .u8 0]) (hts:yL T t'=some ts) (hks:ts.k= .int kn)
  (hx:yv S x=some f) (hl:Ux S e 1 f=some (id,e,1,n,cells,pub)) (hy:yv S y=some (.r (.i kq (m:Int)))) (hm:0<m) (hlen:n+m<=140737488355328)
  (hK:yI (S.strike id) o.dst (.r .any) (some (.ch e 1 (n+m) (cells++zR m) pub)) K):Vstep P S o K:=by
 rw[yJ]at hK
 refine zI (S':=(S.strike id).mk_ o.dst (.ch e 1 (n+m) (cells++zR m) pub)) ?_ hK
 rintro B N a w k Q ⟨g,hs⟩ hd
 obtain⟨q,hq⟩:=hT.get hti
 obtain⟨d,hdd,hko,_⟩:=q.desc
 rw[hq,hk]at*
 simp only[u5]at hko
 subst hko
 obtain⟨qe,hqe⟩:=hT.get hte
 obtain⟨i,hi,hsz,hby,z,hz,hzc⟩:=qe.info
 rw[hqe]at hi
 obtain⟨qs,hqs⟩:=hT.get hts
 obtain⟨ds,hds,hkos,_⟩:=qs.desc
 rw[hqs,hks]at*
 simp only[u5]at hkos
 subst hkos
 have hy':=(yi hs hy).2
 simp only[TF.at_,RV.at_]at hy'
 obtain⟨ob,hch,hid⟩:=Uw hs hl (yi hs hx).2
 have run: ∀{v:Value} {w':World},(Builtin.append_ #[t,t'] o.type #[a.eval x,.int kq (m:Int)]).run P w= .ok v w'->(execOp a.eval o).run P w= .ok (.value v) w':=λ{v w'} hr=>by
  simp[execOp,hop,resolve,invoke,builtin,hy',hr]
 have hzl:z.cells= #[.int .u8 0]:=by rw[<-Array.toArray_toList (xs:=z.cells),hzc,hke.2.2]
 obtain⟨xs,b,cap,cur,w',hrun,hxs,hh,h1,h2,h3,h4,hgr,hbb,hb0⟩:=Vf (ty:=o.type) hdd hds hi hz (hsz.trans hke.1) (hby.trans hke.2.1) hzl hch m hm hlen
 obtain⟨k',hsat⟩:=Yj (o:=o) hs hd hch hid (BK w k m) (by rw[List.length_replicate,cL]) hxs hh h1 h2 h3 h4 hgr hbb hb0
 exact yG (run hrun) ⟨k',hsat⟩
end
section
def t8(n:Nat):Nat:=(239-n%128)%128
def P0(n j:Nat):UInt8:=UInt8.ofNat (yA (UInt64.ofNat n*8) (8*(7-j))).toNat
def YT(n:Nat):Nat->cT
 |0=>[]
 |j+1=>YT n j++[P0 n j]
theorem Ur(n:Nat): ∀j,(YT n j).length=j
 |0=>rfl
 |j+1=>by rw[YT,aL,Ur n j];rfl
def iL(b:cT)(j:Nat):cT:=b++[128]++List.replicate j 0
def fx(b:cT)(j:Nat):cT:=iL b (t8 b.length)++List.replicate 8 0++YT b.length j
theorem FH(b:cT)(j:Nat):(iL b j).length=b.length+1+j:=by simp[iL];omega
theorem RQ(b:cT)(j:Nat):(fx b j).length=b.length+1+t8 b.length+8+j:=by simp[fx,FH,Ur];omega
theorem JD(b:cT):iL b 0=b++[128]:=by simp[iL]
theorem JC(b:cT)(j:Nat):iL b (j+1)=iL b j++[0]:=by simp[iL,List.replicate_succ']
theorem J8(b:cT):fx b 0=iL b (t8 b.length)++List.replicate 8 0:=by simp[fx,YT]
theorem J7(b:cT)(j:Nat):fx b (j+1)=fx b j++[P0 b.length j]:=by simp[fx,YT]
attribute [irreducible] iL fx P0
def vP(b:cT):cT:=fx b 8
theorem Yd(b:cT):(vP b).length=b.length+17+t8 b.length:=by rw[vP,RQ];omega
theorem Ol(b:cT):(vP b).length%128=0:=by rw[Yd];unfold t8;omega
def AQ(b:cT)(j:Nat):St:={F:=[(0,.r (bs b)),(3,.own 0)],O:=[(0,some (.ch 5 1 (b.length+1+j) ((iL b j).map U8) true))],nx:=1}
def AP(b:cT)(j:Nat):St:={F:=[(0,.r (bs b)),(3,.own 0),(4,.r (I (7-(j:Int))))],O:=[(0,some (.ch 5 1 (b.length+1+t8 b.length+8+j) ((fx b j).map U8) true))],nx:=1}
theorem Ok{n:Nat}{l:cT}{c:UInt8}{K:Nat->List RV->Prop}(hl:n<=100000000000)(hK:K (n+1) ((l++[c]).map U8)):Vapp n 1 1 (l.map U8) [U8 c] K:=
 z7 (by simp[maxLen];omega) (by omega) rfl (by simp) hK
theorem Bg(m:Nat):zR m=(List.replicate m (0:UInt8)).map U8:=by simp
theorem NR(b:cT)(hb:b.length<=10000000000):aG 429 [bs b] (xJ (vP b)):=by
 refine aT Tryz.func429 rfl ?_
 refine ze (V8 b (by omega)) ?_
 refine zw ?_
 refine Ok (n:=b.length) (l:=b) (c:=128) (by omega) ?_
 have hz:t8 b.length<128:=by unfold t8;omega
 refine zy (AQ b) (λj=>j<=t8 b.length) (λj=>t8 b.length-j) 0 (by omega) (zN [(0,2)] ⟨⟨rfl,rfl,rfl,rfl,by rw[JD];exact zn _⟩,trivial⟩) ?_
 intro j hj
 refine Vrem.nat (b.length+1+j) 128 rfl rfl (by omega) ?_
 refine cZ (λh=>?_) λh=>?_
 ·simp only[zb]at h
  have hj':j<t8 b.length:=by
   have:(b.length+1+j)%128≠112:=by omega
   rcases Nat.lt_or_ge j (t8 b.length)with h' |h'
   ·exact h'
   ·have:j=t8 b.length:=by omega
    unfold t8 at this
    omega
  refine zw ?_
  refine Ok (n:=b.length+1+j) (l:=iL b j) (c:=0) (by omega) ?_
  exact⟨j+1,by omega,by omega,zN [(0,2)] ⟨⟨rfl,rfl,rfl,rfl,by rw[JC];exact zn _⟩,trivial⟩⟩
 ·simp only[zb]at h
  obtain rfl:j=t8 b.length:=by
   have h1:(b.length+1+j)%128=112:=by omega
   unfold t8 at hj⊢
   omega
  refine Vstep.appZ (m:=8) Tab_ok rfl rfl rfl rfl ⟨rfl,rfl,rfl⟩ rfl rfl rfl rfl rfl (by decide) (by omega) ?_
  rw[Bg,<-bM]
  refine zy (AP b) (λj=>j<=8) (λj=>8-j) 0 (by omega) (zN [(0,1)] ⟨⟨rfl,rfl,rfl,rfl,by rw[J8];exact zn _⟩,trivial⟩) ?_
  intro j hj
  refine cZ (λh=>?_) λh=>?_
  ·simp only[zb]at h
   have hj':j<8:=by omega
   refine Vint.w _ rfl ?_
   refine Vint.wmul _ 8 rfl rfl ?_
   refine zd (m:=((8*(7-j):Nat):Int)) (by omega) (by omega) ?_
   refine Vshr.w _ (8*(7-j)) rfl rfl ?_
   refine Vint.u8 _ rfl ?_
   refine zw ?_
   refine Ok (n:=b.length+1+t8 b.length+8+j) (l:=fx b j) (by omega) ?_
   refine zd (m:=7-((j+1:Nat):Int)) (by omega) (by omega) ?_
   exact⟨j+1,by omega,by omega,zN [(0,2)] ⟨⟨rfl,rfl,rfl,rfl,by rw[J7];unfold P0;exact zn _⟩,trivial⟩⟩
  ·simp only[zb]at h
   obtain rfl:j=8:=by omega
   have:=RQ b 8
   show some _=some _
   rw[vP,this]
end
end Go.Proofs.YtkegaaonpekkgaaGreat.Sx
