import Derived.Test.YtoegdgbghdnnfaaGreatZFb
import Derived.Test.YtoegdgbghdnnfaaGreatZSxNm
import Derived.Lib.AppendZerosOnto
import Derived.RangeFuncNested
import Derived.RangeFuncLeaves
import Derived.Test.YtoegdgbghdnnfaaGreatZFa
namespace Go.Proofs.YtoegdgbghdnnfaaGreat.Sx
open Go.RowKit
section
def wS(x y p q:UInt64):UInt64:=((rorW y 19^^^rorW y 61)^^^shrW y 6)+p+((rorW x 1^^^rorW x 8)^^^shrW x 7)+q
def wB(b:List UInt8):Nat->List UInt64
 |0=>wA b 16
 |k+1=>(wB b k).set (16+k) (wS ((wB b k).getD (k+1) 0) ((wB b k).getD (k+14) 0) ((wB b k).getD (k+9) 0) ((wB b k).getD k 0))
theorem zdl(b:List UInt8): ∀k,(wB b k).length=80
 |0=>zzu b 16
 |k+1=>by rw[wB,List.length_set,zdl b k]
theorem zftb(b:List UInt8):wB b 0=wA b 16:=rfl
theorem zfsb(b:List UInt8)(k:Nat):wB b (k+1)=(wB b k).set (16+k) (wS ((wB b k).getD (k+1) 0) ((wB b k).getD (k+14) 0) ((wB b k).getD (k+9) 0) ((wB b k).getD k 0)):=rfl
theorem zfrb(b:List UInt8):wA b 0=List.replicate 80 0:=by
 apply List.ext_getElem
 ·simp[zzu]
 ·intro i h1 h2
  unfold wA
  simp only[List.getElem_map,List.getElem_replicate,Nat.not_lt_zero,if_false]
attribute [irreducible] wB
theorem z5n{x:UInt64}{l:List UInt64}{j:Nat}(h:j<l.length):(zbi (W x)&&(Nat.beq (cellsOf (W x)).length 1&&Nat.ble (j*1+1) ((l.map W).map TF.r).length))=true:=zti (by rw[List.length_map,List.length_map];exact h)
def woA(b:List UInt8)(t:Nat):St:={F:=[(0, .r (bs b)),(2, .own 0),(3, .own 1),(10, .r (I t))],O:=[(0,some (boxW (List.replicate 80 0))),(1,some (boxW (wA b t)))],nx:=2}
def woI(b:List UInt8)(t j:Nat):St:={F:=[(0, .r (bs b)),(2, .own 0),(3, .own 1),(10, .r (I t)),(4, .r (I t)),(19, .r (.sl 1 8 (((b.drop (8*t)).take 8).map U8))),(20, .r (I 8)),(21, .r (I j))],O:=[(0,some (boxW (List.replicate 80 0))),(1,some (boxW (wI b t j)))],nx:=2}
def woB(b:List UInt8)(k:Nat):St:={F:=[(2, .own 0),(3, .own 1),(7, .r (I ((16+k:Nat):Int)))],O:=[(0,some (boxW (List.replicate 80 0))),(1,some (boxW (wB b k)))],nx:=2}
theorem z9b(b:List UInt8)(t:Nat):stOk [(0,0),(1,1)] (woA b t)=true:=by
 simp only[stOk,woA,boxW,List.all_cons,List.all_nil,zeo,ze3]
 rfl
theorem z9d(b:List UInt8)(t j:Nat):stOk [(0,0),(1,1)] (woI b t j)=true:=by
 simp only[stOk,woI,boxW,List.all_cons,List.all_nil,zeo,ze3]
 rfl
theorem z9c(b:List UInt8)(k:Nat):stOk [(0,0),(1,1)] (woB b k)=true:=by
 simp only[stOk,woB,boxW,List.all_cons,List.all_nil,zeo,ze3]
 rfl
set_option maxHeartbeats 1000000 in
theorem zeib(b:List UInt8)(hb:b.length=128):bG 361 [bs b] (.r (.ag ((wB b 64).map W))):=by
 refine bT Tryz.func361 rfl ?_
 refine Vloop.mk' (woA b) (λt=>t<=16) (λt=>16-t) 0 (by omega) (zac [(0,0),(1,1)] (z9b b 0) ⟨cr,rfl,rfl,cr,trivial⟩ ⟨zae ((List.replicate 80 (0:UInt64)).map W),by rw[zfrb];exact zae ((List.replicate 80 (0:UInt64)).map W),trivial⟩) ?_
 intro t ht
 refine zh (λh=>zq ?_) (λh=>zt ?_)
 ·simp only[zb]at h
  refine zd (m:=((8*t:Nat):Int)) (by omega) (by omega) ?_
  refine zd (m:=((8*t:Nat):Int)) (by omega) (by omega) ?_
  refine zd (m:=((8*t+8:Nat):Int)) (by omega) (by omega) ?_
  refine⟨by omega,by omega,by omega,8,((b.drop (8*t)).take 8).map U8,by omega,by rw[Nat.mul_one,Int.toNat_natCast,Nat.mul_one,<-List.map_drop,<-List.map_take],?_⟩
  refine Vloop.mk' (woI b t) (λj=>j<=8) (λj=>8-j) 0 (by omega) (zac [(0,0),(1,1)] (z9d b t 0) ⟨cr,rfl,rfl,cr,cr,cr,cr,cr,trivial⟩ ⟨zae ((List.replicate 80 (0:UInt64)).map W),by rw[zfub b t (by omega)];exact zae ((wA b t).map W),trivial⟩) ?_
  intro j hj
  refine zh (λh=>zq ?_) (λh=>zt ?_)
  ·simp only[zb]at h
   have hc:((b.drop (8*t)).take 8).length=8:=by rw[List.length_take,List.length_drop];omega
   have ht':t<16:=by omega
   refine zm (by omega) (by omega) (zaj rfl (i:=j) (by rw[hc];omega)) (zg rfl ?_)
   refine Vadr.mk' t rfl (by omega) ?_
   (conv=>whnf)
   generalize hq:lget _ _=q
   obtain rfl:=hq.symm.trans (zi2 (by rw[zzv];omega))
   clear hq
   refine Vshl.w _ 8 rfl rfl (by decide) ?_
   refine Vint.w _ rfl ?_
   refine Vbits.wor _ _ rfl rfl ?_
   refine Vadr.mk' t rfl (by omega) ?_
   (conv=>whnf)
   generalize hq:(zbi _&&_)=q
   obtain rfl:=hq.symm.trans (z5n (x:=shlW ((wI b t j).getD t 0) 8|||UInt64.ofNat (((b.drop (8*t)).take 8)[j]).toNat) (j:=t) (by rw[zzv];omega))
   clear hq
   refine zy9 (by rw[zzv];omega) ?_
   rw[zisb b t j _ (by
    rw[zirb b t j (by omega),z3a,List.getElem_take,List.getD_eq_getElem?_getD,List.getElem?_eq_getElem (by rw[List.length_drop];omega)]
    rfl)]
   refine zd (m:=((j+1:Nat):Int)) (by omega) (by omega) ?_
   exact⟨j+1,by omega,by omega,zac [(0,0),(1,1)] (z9d b t (j+1)) ⟨cr,rfl,rfl,cr,cr,cr,cr,cr,trivial⟩ ⟨zae ((List.replicate 80 (0:UInt64)).map W),zae ((wI b t (j+1)).map W),trivial⟩⟩
  ·simp only[zb]at h
   obtain rfl:j=8:=by omega
   refine zd (m:=((t+1:Nat):Int)) (by omega) (by omega) ?_
   exact⟨t+1,by omega,by omega,zac [(0,0),(1,1)] (z9b b (t+1)) ⟨cr,rfl,rfl,cr,trivial⟩ ⟨zae ((List.replicate 80 (0:UInt64)).map W),by rw[<-ziqb b t];exact zae ((wI b t 8).map W),trivial⟩⟩
 ·simp only[zb]at h
  obtain rfl:t=16:=by omega
  refine Vloop.mk' (woB b) (λk=>k<=64) (λk=>64-k) 0 (by omega) (zac [(0,0),(1,1)] (z9c b 0) ⟨rfl,rfl,cr,trivial⟩ ⟨zae ((List.replicate 80 (0:UInt64)).map W),by rw[zftb];exact zae ((wA b 16).map W),trivial⟩) ?_
  intro k hk
  refine zh (λh=>zq ?_) (λh=>zt ?_)
  ·simp only[zb]at h
   have hk':k<64:=by omega
   refine bV ?_
   refine zd (m:=((k+1:Nat):Int)) (by omega) (by omega) ?_
   (conv=>whnf)
   generalize hq:zbc _ _ _ _ _=q
   obtain rfl:=hq.symm.trans (zb0 rfl rfl rfl)
   clear hq
   refine Vadr.mk' (k+1) rfl (by omega) ?_
   (conv=>whnf)
   generalize hq:zbc _ _ _ _ _=q
   obtain rfl:=hq.symm.trans (zb0 rfl rfl rfl)
   clear hq
   (conv=>whnf)
   generalize hq:lget _ _=q
   obtain rfl:=hq.symm.trans (zi2 (l:=wB b k) (j:=k+1) (by rw[zdl];omega))
   clear hq
   refine zd (m:=((k+14:Nat):Int)) (by omega) (by omega) ?_
   (conv=>whnf)
   generalize hq:zbc _ _ _ _ _=q
   obtain rfl:=hq.symm.trans (zb0 rfl rfl rfl)
   clear hq
   refine Vadr.mk' (k+14) rfl (by omega) ?_
   (conv=>whnf)
   generalize hq:zbc _ _ _ _ _=q
   obtain rfl:=hq.symm.trans (zb0 rfl rfl rfl)
   clear hq
   (conv=>whnf)
   generalize hq:lget _ _=q
   obtain rfl:=hq.symm.trans (zi2 (l:=wB b k) (j:=k+14) (by rw[zdl];omega))
   clear hq
   refine bV ?_
   refine ze (zd2 _ 19 (by decide)) ?_
   refine ze (zd2 _ 61 (by decide)) ?_
   refine Vbits.wxor _ _ rfl rfl ?_
   refine Vshr.w _ 6 rfl rfl ?_
   refine Vbits.wxor _ _ rfl rfl ?_
   refine zd (m:=((k+9:Nat):Int)) (by omega) (by omega) ?_
   (conv=>whnf)
   generalize hq:zbc _ _ _ _ _=q
   obtain rfl:=hq.symm.trans (zb0 rfl rfl rfl)
   clear hq
   refine Vadr.mk' (k+9) rfl (by omega) ?_
   (conv=>whnf)
   generalize hq:zbc _ _ _ _ _=q
   obtain rfl:=hq.symm.trans (zb0 rfl rfl rfl)
   clear hq
   (conv=>whnf)
   generalize hq:lget _ _=q
   obtain rfl:=hq.symm.trans (zi2 (l:=wB b k) (j:=k+9) (by rw[zdl];omega))
   clear hq
   refine Vint.wadd _ _ rfl rfl ?_
   refine ze (zd2 _ 1 (by decide)) ?_
   refine ze (zd2 _ 8 (by decide)) ?_
   refine Vbits.wxor _ _ rfl rfl ?_
   refine Vshr.w _ 7 rfl rfl ?_
   refine Vbits.wxor _ _ rfl rfl ?_
   refine Vint.wadd _ _ rfl rfl ?_
   refine zd (m:=(k:Int)) (by omega) (by omega) ?_
   (conv=>whnf)
   generalize hq:zbc _ _ _ _ _=q
   obtain rfl:=hq.symm.trans (zb0 rfl rfl rfl)
   clear hq
   refine Vadr.mk' k rfl (by omega) ?_
   (conv=>whnf)
   generalize hq:zbc _ _ _ _ _=q
   obtain rfl:=hq.symm.trans (zb0 rfl rfl rfl)
   clear hq
   (conv=>whnf)
   generalize hq:lget _ _=q
   obtain rfl:=hq.symm.trans (zi2 (l:=wB b k) (j:=k) (by rw[zdl];omega))
   clear hq
   refine Vint.wadd _ _ rfl rfl ?_
   (conv=>whnf)
   generalize hq:zbc _ _ _ _ _=q
   obtain rfl:=hq.symm.trans (zb0 rfl rfl rfl)
   clear hq
   refine Vadr.mk' (16+k) rfl (by omega) ?_
   (conv=>whnf)
   generalize hq:(zbi _&&_)=q
   obtain rfl:=hq.symm.trans (z5n (x:=wS ((wB b k).getD (k+1) 0) ((wB b k).getD (k+14) 0) ((wB b k).getD (k+9) 0) ((wB b k).getD k 0)) (j:=16+k) (by rw[zdl];omega))
   clear hq
   refine zy9 (by rw[zdl];omega) ?_
   refine zd (m:=((16+(k+1):Nat):Int)) (by omega) (by omega) ?_
   exact⟨k+1,by omega,by omega,zac [(0,0),(1,1)] (z9c b (k+1)) ⟨rfl,rfl,cr,trivial⟩ ⟨zae ((List.replicate 80 (0:UInt64)).map W),by rw[zfsb];exact zae _,trivial⟩⟩
  ·simp only[zb]at h
   obtain rfl:k=64:=by omega
   refine za (l:=((wB b 64).map W).map TF.r) (List.take_of_length_le (by simp[zdl])) (by simp[zdl]) ?_
   (conv=>whnf)
   generalize hq:St.rvs _ _=q
   obtain rfl:=hq.symm.trans (zhz _ _)
   clear hq
   (conv=>whnf)
   generalize hq:(zbi _&&_)=q
   have hg:(zbi (.ag ((wB b 64).map W))&&(Nat.beq (cellsOf (.ag ((wB b 64).map W))).length 80&&Nat.ble (0+80) (((List.replicate 80 (0:UInt64)).map W).map TF.r).length))=true:=by
    have e1:(cellsOf (.ag ((wB b 64).map W))).length=80:=by show((wB b 64).map W).length=80;rw[List.length_map,zdl]
    rw[e1]
    have e2:zbi (.ag ((wB b 64).map W))=true:=rfl
    rw[e2]
    rfl
   obtain rfl:=hq.symm.trans hg
   clear hq
   show putK _ _ _ _
   rw[zfq _ _ _ _ (by simp[zdl,cellsOf])]
   generalize hq:(List.take 0 _++_++_:List TF)=q
   have hg:(((List.replicate 80 (0:UInt64)).map W).map TF.r).take 0++((wB b 64).map W).map TF.r++(((List.replicate 80 (0:UInt64)).map W).map TF.r).drop (0+(((wB b 64).map W).map TF.r).length)=((wB b 64).map W).map TF.r:=by
    rw[List.length_map,List.length_map,zdl]
    exact List.append_nil _
   obtain rfl:=hq.symm.trans hg
   clear hq
   refine za (l:=((wB b 64).map W).map TF.r) (List.take_of_length_le (by simp[zdl])) (by simp[zdl]) ?_
   (conv=>whnf)
   generalize hq:St.rvs _ _=q
   obtain rfl:=hq.symm.trans (zhz _ _)
   clear hq
   exact cr
end
section
structure X8 where
 a:UInt64
 b:UInt64
 c:UInt64
 d:UInt64
 e:UInt64
 f:UInt64
 g:UInt64
 h:UInt64
abbrev X8.l(x:X8):List UInt64:=[x.a,x.b,x.c,x.d,x.e,x.f,x.g,x.h]
def X8.t1(x:X8)(k w:UInt64):UInt64:=x.h+((rorW x.e 14^^^rorW x.e 18)^^^rorW x.e 41)+((x.e&&&x.f)^^^((18446744073709551615^^^x.e)&&&x.g))+k+w
def X8.t2(x:X8):UInt64:=((rorW x.a 28^^^rorW x.a 34)^^^rorW x.a 39)+(((x.a&&&x.b)^^^(x.a&&&x.c))^^^(x.b&&&x.c))
def X8.next(x:X8)(k w:UInt64):X8:=⟨x.t1 k w+x.t2,x.a,x.b,x.c,x.d+x.t1 k w,x.e,x.f,x.g⟩
def X8.add(x y:X8):X8:=⟨x.a+y.a,x.b+y.b,x.c+y.c,x.d+y.d,x.e+y.e,x.f+y.f,x.g+y.g,x.h+y.h⟩
def xN(s:X8)(k w:List UInt64):Nat->X8
 |0=>s
 |j+1=>(xN s k w j).next (k.getD j 0) (w.getD j 0)
theorem zfzb(s:X8)(k w:List UInt64):xN s k w 0=s:=rfl
theorem zfyb(s:X8)(k w:List UInt64)(j:Nat):xN s k w (j+1)=(xN s k w j).next (k.getD j 0) (w.getD j 0):=rfl
attribute [irreducible] xN
def z47(s:X8)(k:List UInt64)(b:List UInt8):X8:=s.add (xN s k (wB b 64) 80)
abbrev X8.bx(x:X8):Ow:= .box [.r (W x.a), .r (W x.b), .r (W x.c), .r (W x.d), .r (W x.e), .r (W x.f), .r (W x.g), .r (W x.h)]
abbrev X8.v(x:X8):List RV:=[W x.a,W x.b,W x.c,W x.d,W x.e,W x.f,W x.g,W x.h]
def stI(s:X8)(k w:List UInt64)(j:Nat):St:={F:=[(3, .own 0),(4, .own 1),(6, .own 2),(7, .own 3),(8, .own 4),(18, .r (I j))],O:=[(0,some s.bx),(1,some (boxW k)),(2,some (X8.bx ⟨0,0,0,0,0,0,0,0⟩)),(3,some (boxW w)),(4,some (xN s k w j).bx)],nx:=5}
theorem z8y(s:X8)(k w:List UInt64)(j:Nat):stOk [(0,0),(1,1),(2,2),(3,3),(4,4)] (stI s k w j)=true:=by
 simp only[stOk,stI,boxW,List.all_cons,List.all_nil,zeo,ze3]
 rfl
set_option maxHeartbeats 4000000 in
theorem zawb(s:X8)(k:List UInt64)(b:List UInt8)(hk:k.length=80)(hb:b.length=128):bG 334 [.ag s.v, .ag (k.map W),bs b] (.r (.ag (z47 s k b).v)):=by
 refine bT Tryz.func334 rfl ?_
 refine ze (zeib b hb) ?_
 (conv=>whnf)
 generalize hq:(zbi _&&_)=q
 obtain rfl:=hq.symm.trans (ziw (l:=(wB b 64).map W) 80 (by rw[List.length_map,zdl]) rfl)
 clear hq
 refine zfi (by rw[List.length_map,List.length_map,zdl];rfl) ?_
 refine za rfl rfl ?_
 refine Vloop.mk' (stI s k (wB b 64)) (λj=>j<=80) (λj=>80-j) 0 (by omega) (zac [(0,0),(1,1),(2,2),(3,3),(4,4)] (z8y s k (wB b 64) 0) ⟨rfl,rfl,rfl,rfl,rfl,cr,trivial⟩ ⟨(bD bZ),zae (k.map W),(bD bZ),zae ((wB b 64).map W),by rw[zfzb];exact⟨_,_,rfl,cr,_,_,rfl,cr,_,_,rfl,cr,_,_,rfl,cr,_,_,rfl,cr,_,_,rfl,cr,_,_,rfl,cr,_,_,rfl,cr,rfl⟩,trivial⟩) ?_
 intro j hj
 refine zh (λh=>zq ?_) (λh=>zt ?_)
 ·simp only[zb]at h
  have hj':j<80:=by omega
  generalize hX:xN s k (wB b 64) j=x
  refine bV ?_
  refine Vadr.any (by decide) ?_
  refine Vadr.any (by decide) ?_
  refine bV ?_
  refine Vadr.any (by decide) ?_
  refine ze (zd2 _ 14 (by decide)) ?_
  refine ze (zd2 _ 18 (by decide)) ?_
  refine Vbits.wxor _ _ rfl rfl ?_
  refine ze (zd2 _ 41 (by decide)) ?_
  refine Vbits.wxor _ _ rfl rfl ?_
  refine Vint.wadd _ _ rfl rfl ?_
  refine Vadr.any (by decide) ?_
  refine Vbits.wand _ _ rfl rfl ?_
  refine Vbits.wxor 18446744073709551615 _ rfl rfl ?_
  refine Vadr.any (by decide) ?_
  refine Vbits.wand _ _ rfl rfl ?_
  refine Vbits.wxor _ _ rfl rfl ?_
  refine Vint.wadd _ _ rfl rfl ?_
  (conv=>whnf)
  generalize hq:zbc _ _ _ _ _=q
  obtain rfl:=hq.symm.trans (zb0 rfl rfl rfl)
  clear hq
  refine Vadr.mk' j rfl (by omega) ?_
  (conv=>whnf)
  generalize hq:zbc _ _ _ _ _=q
  obtain rfl:=hq.symm.trans (zb0 rfl rfl rfl)
  clear hq
  (conv=>whnf)
  generalize hq:lget _ _=q
  obtain rfl:=hq.symm.trans (zi2 (l:=k) (j:=j) (by rw[hk];omega))
  clear hq
  refine Vint.wadd _ _ rfl rfl ?_
  (conv=>whnf)
  generalize hq:zbc _ _ _ _ _=q
  obtain rfl:=hq.symm.trans (zb0 rfl rfl rfl)
  clear hq
  refine Vadr.mk' j rfl (by omega) ?_
  (conv=>whnf)
  generalize hq:zbc _ _ _ _ _=q
  obtain rfl:=hq.symm.trans (zb0 rfl rfl rfl)
  clear hq
  (conv=>whnf)
  generalize hq:lget _ _=q
  obtain rfl:=hq.symm.trans (zi2 (l:=wB b 64) (j:=j) (by rw[zdl];omega))
  clear hq
  refine Vint.wadd _ _ rfl rfl ?_
  refine bV ?_
  refine ze (zd2 _ 28 (by decide)) ?_
  refine ze (zd2 _ 34 (by decide)) ?_
  refine Vbits.wxor _ _ rfl rfl ?_
  refine ze (zd2 _ 39 (by decide)) ?_
  refine Vbits.wxor _ _ rfl rfl ?_
  refine Vadr.any (by decide) ?_
  refine Vbits.wand _ _ rfl rfl ?_
  refine Vadr.any (by decide) ?_
  refine Vbits.wand _ _ rfl rfl ?_
  refine Vbits.wxor _ _ rfl rfl ?_
  refine Vadr.any (by decide) ?_
  refine Vadr.any (by decide) ?_
  refine Vbits.wand _ _ rfl rfl ?_
  refine Vbits.wxor _ _ rfl rfl ?_
  refine Vint.wadd _ _ rfl rfl ?_
  refine bV ?_
  refine Vcutn.mk' 1 7 rfl rfl (by decide) (by decide) ?_
  refine Vcutn.mk' 0 7 rfl rfl (by decide) (by decide) ?_
  refine Vstep.copyBox (n:=7) (m:=7) (ys:=[W x.a,W x.b,W x.c,W x.d,W x.e,W x.f,W x.g]) (zs:=[.r (W x.a), .r (W x.a), .r (W x.b), .r (W x.c), .r (W x.d), .r (W x.e), .r (W x.f), .r (W x.g)]) Tab_ok rfl rfl rfl rfl rfl rfl rfl (by show 1*1+7<=8;decide) rfl (.inr ⟨0,rfl,by show 0+7<=8;decide,rfl⟩) rfl ?_
  refine Vadr.any (by decide) ?_
  refine Vint.wadd _ _ rfl rfl ?_
  refine Vadr.any (by decide) ?_
  refine Vint.wadd _ _ rfl rfl ?_
  refine Vadr.any (by decide) ?_
  refine zd (m:=((j+1:Nat):Int)) (by omega) (by omega) ?_
  exact⟨j+1,by omega,by omega,zac [(0,0),(1,1),(2,2),(3,3),(4,4)] (z8y s k (wB b 64) (j+1)) ⟨rfl,rfl,rfl,rfl,rfl,cr,trivial⟩ ⟨(bD bZ),zae (k.map W),(bD bZ),zae ((wB b 64).map W),by rw[zfyb,hX];exact⟨_,_,rfl,cr,_,_,rfl,cr,_,_,rfl,cr,_,_,rfl,cr,_,_,rfl,cr,_,_,rfl,cr,_,_,rfl,cr,_,_,rfl,cr,rfl⟩,trivial⟩⟩
 ·simp only[zb]at h
  obtain rfl:j=80:=by omega
  generalize hX:xN s k (wB b 64) 80=x
  refine Vloop.rounds 9 ?_
  repeat' ((conv=>whnf);first|refine Vrounds.step mixed Tab_ok ?_|refine zu rfl (zq ?_)|refine zw rfl (zt ?_)|refine Vadr.any (by decide) ?_|refine Vint.any (k:= .i64) ?_|refine Vint.wadd _ _ rfl rfl ?_|refine za rfl rfl ?_|refine bV ?_)
  subst hX
  exact cr
end
section
variable {P:Program} {T:TT} {B:Bs} {N:Nat} {S:St} {a:Act} {w:World} {k:Kp} {g:Env} {o:Oper} {Q:Exit->Act->World->Prop}
abbrev zs(m:Nat):List Value:=List.replicate m (Value.int .u8 0)
abbrev zR(m:Nat):List RV:=List.replicate m (.i .u8 0)
theorem zjcb(w:World)(k:Kp)(m:Nat):RV.listAt w k (zR m) (zs m):=by
 rw[RV.listAt_iff]
 refine⟨by simp,λj f u hf hu=>?_⟩
 rw[List.getElem?_replicate]at hf hu
 split at hf
 ·rename_i h
  rw[if_pos h]at hu
  cases hf;cases hu
  exact⟨rfl,by simp[RV.at_]⟩
 ·cases hf
theorem ztf{z:Array Value}(h:z= #[.int .u8 0]) (m:Nat):Builtin.zeroCells z m=(zs m).toArray:=by
 subst h
 apply Array.ext'
 simp only[Builtin.zeroCells,List.size_toArray,List.length_cons,List.length_nil,Nat.zero_add,Nat.mul_one,Nat.mod_one,Array.toList_map,Array.toList_range]
 apply List.ext_getElem
 ·simp
 ·intro i h1 h2
  simp
theorem zlf(w:World)(t tn ty e:TypeId)(i:TypeInfo)(z:Value)(kq kn:IntKind)(ht:P.underlying t=some (.slice e))(htn:P.underlying tn=some (.int kn))(hi:P.info? e=some i)(hz:i.zero=some z)(hsize:i.size=1)(hby:i.bytes=1)(hzl:z.cells= #[.int .u8 0])
  (g sLen sCap:Nat) (cur:Array Value) (hg:w.heap[g]?=some (.cells cur e (0,0))) (m:Nat) (hm:0<m) (hroom:sLen+m<=sCap) (hfit:sLen+m<=cur.size) (hmm:m<=140737488355328):
  (Builtin.append_ #[t,tn] ty #[.slice (some ⟨g,0,none⟩) sLen sCap, .int kq (m:Int)]).run P w=
   .ok (.slice (some ⟨g,0,none⟩) (sLen+m) sCap) (w.setRow g (cur.toList.take sLen++zs m++cur.toList.drop (sLen+m)).toArray):=by
 have hst:=run_storeCells_at P g sLen e (zs m) 0 cur w hg (by simpa using hfit) (λu hu=>by rw[List.eq_of_mem_replicate hu];rfl)
 simp only[Nat.add_zero,List.length_replicate]at hst
 have hk:m≠0:=by omega
 have hw:IntKind.i64.wrap (m:Int)=m:=by rw[IntKind.wrap_i64];omega
 have hneg: ¬((m:Int)<0):=by omega
 have h48i: ¬(281474976710656< (m:Int)):=by omega
 have hzc:=ztf hzl m
 simp[Builtin.append_,run_underlying ht,run_underlying htn,sizeOf,typeInfo,zeroValue,hi,hz,hsize,hby,asInt,asIntOf,hw,hneg,h48i,hk,hroom,hzc,Addr.add_lit,hst]
theorem zw6{t t' ty e:TypeId}{kn kq:IntKind}{i:TypeInfo}{z:Value}(ht:P.underlying t=some (.slice e))(hu:P.underlying t'=some (.int kn))(hi:P.info? e=some i)(hz:i.zero=some z)
  (hsize:i.size=1) (hby:i.bytes=1) (hzl:z.cells= #[.int .u8 0])
  {n:Nat} {cells:List RV} {pub:Bool} {u:Value} {ob:Option Nat} (hch:chAt w k e 1 n cells pub u ob) (m:Nat) (hm:0<m) (hbytes:n+m<=140737488355328):
  ∃xs b cap cur w',(Builtin.append_ #[t,t'] ty #[u, .int kq (m:Int)]).run P w= .ok (.slice (some ⟨b,0,none⟩) (n+m) cap) w'/\RV.listAt w k cells xs/\
   w'.heap[b]?=some (.cells cur e (0,0))/\n+m<=cap/\cap<=maxLen/\cap*1<=cur.size/\cur.toList.take ((n+m)*1)=xs++zs m/\w.grownBy w' ob/\(ob=some b\/b=w.heap.size)/\
   (∀b0,ob=some b0->(∃cur0,w.heap[b0]?=some (.cells cur0 e (0,0))/\cur0.toList.take (n*1)=xs)/\(b=b0\/b=w.heap.size/\w'.heap[b0]?=w.heap[b0]?)):=by
 obtain⟨hcl,hch⟩:=hch
 have hl:(zs m).length=m:=List.length_replicate
 have hzs:z.cells.size=1:=by rw[hzl];rfl
 have h63:n+m<=maxLen:=by simp only[maxLen];omega
 have fin: ∀(xs:List Value) (old:Nat),xs.length=n->
   (w.drew.alloc (.cells (xs.toArray++(zs m).toArray++Builtin.zeroCells z.cells (grownCap w (n+m) old e-(n+m))) e)).heap[w.heap.size]?=some (.cells (xs.toArray++(zs m).toArray++Builtin.zeroCells z.cells (grownCap w (n+m) old e-(n+m))) e (0,0))/\
   n+m<=grownCap w (n+m) old e/\grownCap w (n+m) old e<=maxLen/\(xs.toArray++(zs m).toArray++Builtin.zeroCells z.cells (grownCap w (n+m) old e-(n+m))).size=grownCap w (n+m) old e*1/\
   (xs.toArray++(zs m).toArray++Builtin.zeroCells z.cells (grownCap w (n+m) old e-(n+m))).toList.take ((n+m)*1)=xs++zs m/\
   ∀row,w.grownBy (w.drew.alloc (.cells (xs.toArray++(zs m).toArray++Builtin.zeroCells z.cells (grownCap w (n+m) old e-(n+m))) e)) row:=λxs old hx=>by
  have hge:=grownCap_ge w (n+m) old e
  refine⟨heap_alloc_new w.drew _,hge,grownCap_le_maxLen w (n+m) old e h63,?_,?_,λrow=>⟨rfl,rfl,rfl,by simp,λk hk _=>Below.heap_alloc w.drew _ k hk⟩⟩
  ·simp only[Array.size_append,List.size_toArray,size_zeroCells,hzs,hl,hx]
   omega
  ·simp only[Array.toList_append]
   rw[show(n+m)*1=(xs++zs m).length by rw[bL,hl,hx,Nat.mul_one]]
   exact List.take_left
 rcases hch with⟨rfl,⟨rfl,p,rfl⟩ |⟨hn0,_,b,o,rfl,hnm,hbl,hcell⟩⟩ |⟨b,cap,cur,rfl,rfl,hh,hnc,hcm,hcs,hkb,hlist⟩
 ·have hc0:cells=[]:=List.eq_nil_of_length_eq_zero (by simpa using hcl)
  subst hc0
  cases p with
  |none=>
   have hr:=Lib.run_append_nil_zeros (P:=P) w t t' ty e i z kq kn ht hu hi hz m hm (by omega) (by omega) (by rw[hby];omega)
   rw[ztf hzl m]at hr
   obtain⟨f1,f2,f3,f4,f5,f6⟩:=fin [] 0 rfl
   simp only[Nat.zero_add,List.nil_append,Array.empty_append]at f1 f2 f3 f4 f5 f6⊢
   exact⟨[],w.heap.size,_,_,_,hr,by simp[RV.listAt],f1,f2,f3,Nat.le_of_eq f4.symm,f5,f6 _, .inr rfl,λb0 h=>by cases h⟩
  |some p=>
   have hr:=Lib.run_append_grow_zeros (P:=P) w t t' ty e i z kq kn ht hu hi hz (some p) 0 0 [] (run_firstCells_some (P:=P) w.drew i.size 0 p 0 0 [] (by simp) (by simp)) m hm (by omega) (by omega) (by omega) (by rw[hby];omega) (growslice_fits (by omega) (by rw[hby];omega))
   rw[ztf hzl m]at hr
   obtain⟨f1,f2,f3,f4,f5,f6⟩:=fin [] 0 rfl
   exact⟨[],w.heap.size,_,_,_,hr,by simp[RV.listAt],f1,f2,f3,Nat.le_of_eq f4.symm,f5,f6 _, .inr rfl,λb0 h=>by cases h⟩
 ·obtain⟨xs,hlist,hxl,hcell⟩:=RV.cells_list cells o hcell
  have hr:=Lib.run_append_grow_zeros (P:=P) w t t' ty e i z kq kn ht hu hi hz (some ⟨b,o,none⟩) n n xs (run_firstCells_some (P:=P) w.drew i.size n ⟨b,o,none⟩ n n xs (by rw[hsize,hxl,hcl]) (by simpa using(λj v hj=>by rw[Addr.add_mid];exact hcell j v hj: ∀j v,xs[j]?=some v->w.cell? ((⟨b,o,none⟩:Addr).add j)=some v))) m hm (by omega) (by omega) (by omega) (by rw[hby];omega) (growslice_fits (by omega) (by rw[hby];omega))
  rw[ztf hzl m]at hr
  obtain⟨f1,f2,f3,f4,f5,f6⟩:=fin xs n (by rw[hxl,hcl,Nat.mul_one])
  exact⟨xs,w.heap.size,_,_,_,hr,hlist,f1,f2,f3,Nat.le_of_eq f4.symm,f5,f6 _, .inr rfl,λb0 hb0=>by cases hb0⟩
 ·have hxl:(cur.toList.take (n*1)).length=n:=by rw[za7 hlist,hcl,Nat.mul_one]
  have hlt:b<w.heap.size:=(Array.getElem?_eq_some_iff.1 hh).1
  by_cases hfit:n+m<=cap
  ·have hr:=zlf (P:=P) w t t' ty e i z kq kn ht hu hi hz hsize hby hzl b n cap cur hh m hm hfit (by omega) (by omega)
   refine⟨_,b,cap,_,_,hr,hlist,setRow_heap w b cur _ e (0,0) hh,hfit,hcm,?_,?_,⟨rfl,rfl,rfl,by simp[World.setRow],λx hx hne=>setRow_other w b x _ (λh=>hne (by rw[h]))⟩, .inl rfl,λb0 hb0=>?_⟩
   ·simp only[List.size_toArray,bL,List.length_take,hl,List.length_drop,Array.length_toList]
    omega
   ·rw[Nat.mul_one]at hxl⊢
    rw[Nat.mul_one]
    rw[show n+m=(cur.toList.take n++zs m).length by rw[bL,hxl,hl],List.toList_toArray]
    exact List.take_left
   ·cases hb0
    exact⟨⟨cur,hh,rfl⟩, .inl rfl⟩
  ·have hr:=Lib.run_append_grow_zeros (P:=P) w t t' ty e i z kq kn ht hu hi hz (some ⟨b,0,none⟩) n cap (cur.toList.take (n*1)) (run_firstCells_some (P:=P) w.drew i.size n ⟨b,0,none⟩ n cap (cur.toList.take (n*1)) (by rw[hsize,hxl,Nat.mul_one]) (by
    have hc: ∀j v,(cur.toList.take (n*1))[j]?=some v->w.cell? ((⟨b,0,none⟩:Addr).add j)=some v:=λj v hj=>by
     rw[Addr.add_mid,Nat.zero_add,cell_of_row w b j cur e (0,0) hh]
     rw[List.getElem?_take]at hj
     split at hj
     ·simpa using hj
     ·cases hj
    simpa using hc)) m hm (by omega) (by omega) (by omega) (by rw[hby];omega) (growslice_fits (by omega) (by rw[hby];omega))
   rw[ztf hzl m]at hr
   obtain⟨f1,f2,f3,f4,f5,f6⟩:=fin (cur.toList.take (n*1)) cap hxl
   refine⟨_,w.heap.size,_,_,_,hr,hlist,f1,f2,f3,Nat.le_of_eq f4.symm,f5,f6 _, .inr rfl,λb0 hb0=>?_⟩
   cases hb0
   exact⟨⟨cur,hh,rfl⟩, .inr ⟨rfl,Below.heap_alloc w.drew _ b hlt⟩⟩
theorem Vstep.appZ{x y:Operand}{t t' e:TypeId}{ti te ts:TI}{kn kq:IntKind}{f:TF}{id:Option Nat}{n:Nat}{cells:List RV}{pub:Bool}{m:Nat}{K:St->Prop}(hT:TOk P T)
  (hop:o.op= .call {callee:= .builtin .append,args:= #[x,y],argTypes:= #[t,t']}) (hti:tget T t=some ti) (hk:ti.k= .slice e) (hte:tget T e=some te) (hke:te.sz=1/\te.bytes=1/\te.zero=[.int .u8 0]) (hts:tget T t'=some ts) (hks:ts.k= .int kn)
  (hx:opr S x=some f) (hl:lhsv S e 1 f=some (id,e,1,n,cells,pub)) (hy:opr S y=some (.r (.i kq (m:Int)))) (hm:0<m) (hlen:n+m<=140737488355328)
  (hK:newK (S.strike id) o.dst (.r .any) (some (.ch e 1 (n+m) (cells++zR m) pub)) K):Vstep P S o K:=by
 rw[za4]at hK
 refine Vstep.one (S':=(S.strike id).mk_ o.dst (.ch e 1 (n+m) (cells++zR m) pub)) ?_ hK
 rintro B N a w k Q ⟨g,hs⟩ hd
 obtain⟨q,hq⟩:=hT.get hti
 obtain⟨d,hdd,hko,_⟩:=q.desc
 rw[hq,hk]at*
 simp only[KOk]at hko
 subst hko
 obtain⟨qe,hqe⟩:=hT.get hte
 obtain⟨i,hi,hsz,hby,z,hz,hzc⟩:=qe.info
 rw[hqe]at hi
 obtain⟨qs,hqs⟩:=hT.get hts
 obtain⟨ds,hds,hkos,_⟩:=qs.desc
 rw[hqs,hks]at*
 simp only[KOk]at hkos
 subst hkos
 have hy':=(zah hs hy).2
 simp only[TF.at_,RV.at_]at hy'
 obtain⟨ob,hch,hid⟩:=zye hs hl (zah hs hx).2
 have run: ∀{v:Value} {w':World},(Builtin.append_ #[t,t'] o.type #[a.eval x, .int kq (m:Int)]).run P w= .ok v w'->(execOp a.eval o).run P w= .ok (.value v) w':=λ{v w'} hr=>by
  simp[execOp,hop,resolve,invoke,builtin,hy',hr]
 have hzl:z.cells= #[.int .u8 0]:=by rw[<-Array.toArray_toList (xs:=z.cells),hzc,hke.2.2]
 obtain⟨xs,b,cap,cur,w',hrun,hxs,hh,h1,h2,h3,h4,hgr,hbb,hb0⟩:=zw6 (ty:=o.type) hdd hds hi hz (hsz.trans hke.1) (hby.trans hke.2.1) hzl hch m hm hlen
 obtain⟨k',hsat⟩:=ztg (o:=o) hs hd hch hid (zjcb w k m) (by rw[List.length_replicate,Nat.mul_one]) hxs hh h1 h2 h3 h4 hgr hbb hb0
 exact za0 (run hrun) ⟨k',hsat⟩
end
section
def padZ(n:Nat):Nat:=(239-n%128)%128
def lenC(n j:Nat):UInt8:=UInt8.ofNat (shrW (UInt64.ofNat n*8) (8*(7-j))).toNat
def le8B(n:Nat):Nat->List UInt8
 |0=>[]
 |j+1=>le8B n j++[lenC n j]
theorem zyc(n:Nat): ∀j,(le8B n j).length=j
 |0=>rfl
 |j+1=>by rw[le8B,bL,zyc n j];rfl
def wzB(b:List UInt8)(j:Nat):List UInt8:=b++[128]++List.replicate j 0
def wlB(b:List UInt8)(j:Nat):List UInt8:=wzB b (padZ b.length)++List.replicate 8 0++le8B b.length j
theorem zfxb(b:List UInt8)(j:Nat):(wzB b j).length=b.length+1+j:=by simp[wzB];omega
theorem z2k(b:List UInt8)(j:Nat):(wlB b j).length=b.length+1+padZ b.length+8+j:=by simp[wlB,zfxb,zyc];omega
theorem zcbb(b:List UInt8):wzB b 0=b++[128]:=by simp[wzB]
theorem zcab(b:List UInt8)(j:Nat):wzB b (j+1)=wzB b j++[0]:=by simp[wzB,List.replicate_succ']
theorem zb8b(b:List UInt8):wlB b 0=wzB b (padZ b.length)++List.replicate 8 0:=by simp[wlB,le8B]
theorem zb7b(b:List UInt8)(j:Nat):wlB b (j+1)=wlB b j++[lenC b.length j]:=by simp[wlB,le8B]
attribute [irreducible] wzB wlB lenC
def zds(b:List UInt8):List UInt8:=wlB b 8
theorem ztb(b:List UInt8):(zds b).length=b.length+17+padZ b.length:=by rw[zds,z2k];omega
theorem z5d(b:List UInt8):(zds b).length%128=0:=by rw[ztb];unfold padZ;omega
def whZ(b:List UInt8)(j:Nat):St:={F:=[(0, .r (bs b)),(3, .own 0)],O:=[(0,some (.ch 5 1 (b.length+1+j) ((wzB b j).map U8) true))],nx:=1}
def whL(b:List UInt8)(j:Nat):St:={F:=[(0, .r (bs b)),(3, .own 0),(4, .r (I (7-(j:Int))))],O:=[(0,some (.ch 5 1 (b.length+1+padZ b.length+8+j) ((wlB b j).map U8) true))],nx:=1}
theorem z5c{n:Nat}{l:List UInt8}{c:UInt8}{K:Nat->List RV->Prop}(hl:n<=100000000000)(hK:K (n+1) ((l++[c]).map U8)):Vapp n 1 1 (l.map U8) [U8 c] K:=
 Vapp.mk' (by simp[maxLen];omega) (by omega) rfl (by simp) hK
theorem zivb(m:Nat):zR m=(List.replicate m (0:UInt8)).map U8:=by simp
set_option maxHeartbeats 1000000 in
theorem z7o(b:List UInt8)(hb:b.length<=10000000000):bG 333 [bs b] (bch (zds b)):=by
 refine bT Tryz.func333 rfl ?_
 refine ze (zxo b (by omega)) ?_
 refine zy ?_
 refine z5c (n:=b.length) (l:=b) (c:=128) (by omega) ?_
 have hz:padZ b.length<128:=by unfold padZ;omega
 refine Vloop.mk' (whZ b) (λj=>j<=padZ b.length) (λj=>padZ b.length-j) 0 (by omega) (zac [(0,2)] rfl ⟨cr,rfl,trivial⟩ ⟨⟨rfl,rfl,rfl,rfl,by rw[zcbb];exact zn _⟩,trivial⟩) ?_
 intro j hj
 refine Vrem.nat (b.length+1+j) 128 rfl rfl (by omega) ?_
 refine zh (λh=>zq ?_) (λh=>zt ?_)
 ·simp only[zb]at h
  have hj':j<padZ b.length:=by
   have:(b.length+1+j)%128≠112:=by omega
   rcases Nat.lt_or_ge j (padZ b.length)with h' |h'
   ·exact h'
   ·have:j=padZ b.length:=by omega
    unfold padZ at this
    omega
  refine zy ?_
  refine z5c (n:=b.length+1+j) (l:=wzB b j) (c:=0) (by omega) ?_
  exact⟨j+1,by omega,by omega,zac [(0,2)] rfl ⟨cr,rfl,trivial⟩ ⟨⟨rfl,rfl,rfl,rfl,by rw[zcab];exact zn _⟩,trivial⟩⟩
 ·simp only[zb]at h
  obtain rfl:j=padZ b.length:=by
   have h1:(b.length+1+j)%128=112:=by omega
   unfold padZ at hj⊢
   omega
  refine Vstep.appZ (m:=8) Tab_ok rfl rfl rfl rfl ⟨rfl,rfl,rfl⟩ rfl rfl rfl rfl rfl (by decide) (by omega) ?_
  rw[zivb,<-List.map_append]
  refine Vloop.mk' (whL b) (λj=>j<=8) (λj=>8-j) 0 (by omega) (zac [(0,1)] rfl ⟨cr,rfl,cr,trivial⟩ ⟨⟨rfl,rfl,rfl,rfl,by rw[zb8b];exact zn _⟩,trivial⟩) ?_
  intro j hj
  refine zh (λh=>zq ?_) (λh=>zt ?_)
  ·simp only[zb]at h
   have hj':j<8:=by omega
   refine Vint.w _ rfl ?_
   refine Vint.wmul _ 8 rfl rfl ?_
   refine zd (m:=((8*(7-j):Nat):Int)) (by omega) (by omega) ?_
   refine Vshr.w _ (8*(7-j)) rfl rfl ?_
   refine Vint.u8 _ rfl ?_
   refine zy ?_
   refine z5c (n:=b.length+1+padZ b.length+8+j) (l:=wlB b j) (by omega) ?_
   refine zd (m:=7-((j+1:Nat):Int)) (by omega) (by omega) ?_
   exact⟨j+1,by omega,by omega,zac [(0,2)] rfl ⟨cr,rfl,cr,trivial⟩ ⟨⟨rfl,rfl,rfl,rfl,by rw[zb7b];unfold lenC;exact zn _⟩,trivial⟩⟩
  ·simp only[zb]at h
   obtain rfl:j=8:=by omega
   have:=z2k b 8
   show some _=some _
   rw[zds,this]
end
section
def funS(f:FuncId)(rvs:List RV):Stable where
 at_ w k v:=∃cap,v= .func (.func f) #[] cap/\RV.partsAt w k rvs cap.toList
 mono:=λh ⟨cap,e,hp⟩=>⟨cap,e,RV.parts_mono h rvs _ hp⟩
 one:=by rintro w k v ⟨cap,rfl,_⟩;rfl
section
variable {P:Program} {S:St} {o:Oper}
theorem Vstep.mkfunS{f:FuncId}{cap:Array Operand}{rvs:List RV}{K:St->Prop}(hop:o.op= .makeFunc (.func f) #[] cap) (hc:oprs S cap.toList=some rvs) (hK:newK S o.dst (.r (.s (funS f rvs))) none K):Vstep P S o K:=by
 rw[za4]at hK
 refine Vstep.one (λB N a w k Q ⟨g,hs⟩ hd=>?_) hK
 have hp:=zmh hs hc
 refine za0 (v:= .func (.func f) #[] (cap.map a.eval)) (w':=w) (by simp[execOp,hop,Instr.makeFunc]) ⟨k,g,hs.put hd trivial ?_⟩
 simp only[TF.at_,RV.at_]
 exact⟨_,rfl,by simpa using hp⟩
end
theorem zdsb(l:List UInt8)(m:Nat)(hm:1<=m):bG 332 [bs l,I m] (.r (.s (funS 360 [.ptr [bs l], .ptr [I m]]))):=by
 refine bT Tryz.func332 rfl ?_
 refine zh (λh=>?_) (λh=>zt ?_)
 ·simp only[zb]at h
  omega
 refine Vstep.sub (zd7 (id:=0) (t:=2) [bs l] rfl rfl) (Vstep.sub (zd7 (id:=1) (t:=3) [I m] rfl rfl) (Vstep.mkfunS rfl rfl ?_))
 exact cr
def iv8:X8:=⟨7640891576956012808,13503953896175478587,4354685564936845355,11912009170470909681,5840696475078001361,11170449401992604703,2270897969802886507,6620516959819538809⟩
def k80:List UInt64:=[4794697086780616226,8158064640168781261,13096744586834688815,16840607885511220156,4131703408338449720,6480981068601479193,10538285296894168987,12329834152419229976,15566598209576043074,1334009975649890238,2608012711638119052,6128411473006802146,8268148722764581231,9286055187155687089,11230858885718282805,13951009754708518548,16472876342353939154,17275323862435702243,1135362057144423861,2597628984639134821,3308224258029322869,5365058923640841347,6679025012923562964,8573033837759648693,10970295158949994411,12119686244451234320,12683024718118986047,13788192230050041572,14330467153632333762,15395433587784984357,489312712824947311,1452737877330783856,2861767655752347644,3322285676063803686,5560940570517711597,5996557281743188959,7280758554555802590,8532644243296465576,9350256976987008742,10552545826968843579,11727347734174303076,12113106623233404929,14000437183269869457,14369950271660146224,15101387698204529176,15463397548674623760,17586052441742319658,1182934255886127544,1847814050463011016,2177327727835720531,2830643537854262169,3796741975233480872,4115178125766777443,5681478168544905931,6601373596472566643,7507060721942968483,8399075790359081724,8693463985226723168,9568029438360202098,10144078919501101548,10430055236837252648,11840083180663258601,13761210420658862357,14299343276471374635,14566680578165727644,15097957966210449927,16922976911328602910,17689382322260857208,500013540394364858,748580250866718886,1242879168328830382,1977374033974150939,2944078676154940804,3659926193048069267,4368137639120453308,4836135668995329356,5532061633213252278,6448918945643986474,6902733635092675308,7801388544844847127]
theorem zk9:k80.length=80:=rfl
theorem zdqb:bG 330 [] (.r (.ag iv8.v)):=by
 refine bT Tryz.func330 rfl ?_
 repeat' ((conv=>whnf);first|refine za rfl rfl ?_)
 exact cr
set_option maxRecDepth 100000 in
set_option maxHeartbeats 1000000 in
theorem zahb:bG 331 [] (.r (.ag (k80.map W))):=by
 refine bT Tryz.func331 rfl ?_
 repeat' ((conv=>whnf);first|refine za rfl rfl ?_)
 exact zf (by kernel_rfl)
attribute [irreducible] k80 iv8
end
section
variable {P:Program} {T:TT} {B:Bs} {N:Nat} {S:St} {a:Act} {w:World} {k:Kp} {g:Env} {o:Oper} {Q:Exit->Act->World->Prop}
def zuc(o:Oper):Bool:=match o.op with
 | .defer _=>false
 |_=>true
theorem zbhb{n l:Nat}{next:Act->World->Prop}(hnd:zuc o=true)(h:o.wp P a w next Q):o.wpIn (Fence.wide.inRound l) n P a w next Q:=by
 refine⟨λ_ _=>trivial,?_⟩
 rw[Oper.semAt_eq _ _ _ (λc e=>by simp[zuc,e]at hnd)]
 unfold Oper.wp at h
 generalize (execOp a.eval o).run P w=r at h
 cases r with
 |ok x w'=>
  cases x with
  |value v=>exact h
  |skip=>exact h
  |defer d=>exact h
  |enter f args=>exact⟨λhd=>by simp[Fence.wide]at hd,CallsIn.inRound l (callsIn_wide.2 h)⟩
  |row row args=>exact⟨λhd=>by simp[Fence.wide]at hd,λc cs _=>by
    obtain⟨v,w',r,s⟩:=h c cs
    exact⟨v,w',r,stepsIn_wide.2 s⟩⟩
  |_=>exact h.elim
 |halt x w'=>
  cases x with
  |panic v=>exact h
  |_=>exact h.elim
theorem zl6{n l:Nat}{ops:Array Oper}(hQ: ¬LetsOut Q): ∀{r:List Oper} {a:Act} {w:World},(∀o∈r,zuc o=true)->wpList P ops Q r a w->wpListIn (Fence.wide.inRound l) n P ops Q r a w
 |[],_,_,_,h=>h
 |o::r,a,w,hn,h=>by
  unfold wpList at h
  unfold wpListIn
  have ih: ∀a w,wpList P ops Q r a w->wpListIn (Fence.wide.inRound l) n P ops Q r a w:=λa w h=>zl6 hQ (λo ho=>hn o (by simp[ho])) h
  split at h
  ·rename_i hw
   rw[if_pos hw]
   rcases h with h |⟨_,h⟩
   ·exact zbhb (hn o (by simp)) (Oper.wp_mono (λa w h=>ih a w h) h)
   ·exact absurd h hQ
  ·rename_i hw
   rw[if_neg hw]
   exact⟨λ_ _=>trivial,ih _ _ h⟩
end
theorem zz4(n:Nat)(hn:1<=n)(Bs Bn oS oN b off m K L cap:Nat)(hm:0<m)(hL:m*K=L)(hlen:L<=cap)(hbig:L<=1000000000000)(Kp:World->World->Prop)(w:World)
  (hKp: ∀A B,Kp A B->B.cell? ⟨Bs,oS,none⟩=A.cell? ⟨Bs,oS,none⟩/\B.cell? ⟨Bn,oN,none⟩=A.cell? ⟨Bn,oN,none⟩)
  (hBs:w.cell? ⟨Bs,oS,none⟩=some (.slice (some ⟨b,off,none⟩) L cap)) (hBn:w.cell? ⟨Bn,oN,none⟩=some (.int .i64 m)):
  SeqStopsK (α:=Fin K) Fence.wide n bP 360 #[.pointer (some ⟨Bs,oS,none⟩), .pointer (some ⟨Bn,oN,none⟩)] (λx=> #[zg5 b off m x.val]) Kp (λxs=>xs.map (·.val)=upto (λj=>j) K) (λ_=>True) K w:=by
 intro l J Jx W hW hJ hJx hY h0
 have hc: ∀a v,w.cell? a=some v->W.cell? a=some v:=λa v h=>(World.cell?_of_block (hW.block _ (World.block_lt_of_cell? w a h))).trans h
 refine(z5p n hn l Bs Bn oS oN b off m K L cap hm hL hlen hbig Kp hKp (λpre W=>∃p:List (Fin K),p.map (·.val)=pre/\J p W) (λpre W=>∃p:List (Fin K),p.map (·.val)=pre/\Jx p W) ?_ ?_ W (hc _ _ hBs) (hc _ _ hBn) ⟨[],rfl,h0⟩).mono ?_
 ·rintro pre W ⟨p,hp,hj⟩
  exact⟨p,hp,hJ p W W.drew none hj ⟨rfl,rfl,rfl,Nat.le_refl _,λ_ _ _=>rfl⟩ (λr e=>by cases e)⟩
 ·rintro pre k W hk ⟨p,hp,hj⟩ hlt
  obtain⟨fn,tmps,assign,body,hy,hR⟩:=hY p ⟨k,hlt⟩ W hj (by rw[<-hp,List.length_map]at hk;omega)
  refine⟨fn,tmps,assign,body,hy,hR.mono ?_⟩
  rintro e W' (⟨h1,h2,h3⟩ |⟨h1,h2⟩)
  ·exact .inl ⟨h1,⟨_,by simp[hp],h2⟩,h3⟩
  ·exact .inr ⟨h1,⟨_,by simp[hp],h2⟩⟩
 ·rintro e W' ⟨hv,(⟨ys,rfl,p,hp,hj⟩ |⟨pre,_,p,hp,hj⟩)⟩
  ·exact⟨hv, .inl ⟨p,hp,hj⟩⟩
  ·exact⟨hv, .inr ⟨p,trivial,hj⟩⟩
abbrev valW(x:UInt64):Value:= .int .u64 (x.toNat:Int)
theorem zuq{w:World}{k:Kp}{g:Env}{b:Nat}{l:List UInt64}(h:(boxW l).at_ w k g (.pointer (some ⟨b,0,none⟩),some b)):k b=0/\∃cur ty,w.heap[b]?=some (.cells cur ty (0,0))/\cur.toList=l.map valW:=by
 simp only[Ow.at_]at h
 obtain⟨b',cur,ty,e,hh,hk,hs,hc⟩:=h
 injection e with e1 e2
 injection e2 with e2
 subst e2
 refine⟨hk,cur,ty,hh,?_⟩
 apply List.ext_getElem
 ·rw[Array.length_toList,hs];simp
 ·intro i h1 h2
  have h3:i<l.length:=by simpa using h2
  have:=hc i (.r (W l[i])) cur[i] (by simp[h3]) (by rw[Array.getElem?_eq_getElem])
  simp only[TF.at_,RV.at_]at this
  rw[Array.getElem_toList,this.2]
  simp
theorem z86{w:World}{k:Kp}{g:Env}{b:Nat}{l:List UInt64}{cur:Array Value}{ty:TypeId}(hk:k b=0)(hh:w.heap[b]?=some (.cells cur ty (0,0)))(hc:cur.toList=l.map valW):(boxW l).at_ w k g (.pointer (some ⟨b,0,none⟩),some b):=by
 simp only[Ow.at_]
 refine⟨b,cur,ty,rfl,hh,hk,by rw[<-Array.length_toList,hc];simp,λj f u hf hu=>?_⟩
 rw[<-Array.getElem?_toList,hc]at hu
 rw[List.getElem?_map,List.getElem?_map]at hf
 rw[List.getElem?_map]at hu
 cases hx:l[j]? with
 |none=>rw[hx]at hf;cases hf
 |some x=>
  rw[hx]at hf hu
  cases hf;cases hu
  exact⟨rfl,by simp[TF.at_,RV.at_]⟩
def zd8(l:List UInt8)(m x:Nat):List UInt8:=(l.drop (m*x)).take m
theorem zrj{l:List UInt8}{m K x:Nat}(hl:m*K=l.length)(hx:x<K):(zd8 l m x).length=m:=by
 have:m*x+m<=m*K:=by rw[<-Nat.mul_succ];exact Nat.mul_le_mul_left _ hx
 rw[zd8,List.length_take,List.length_drop]
 omega
end Go.Proofs.YtoegdgbghdnnfaaGreat.Sx
