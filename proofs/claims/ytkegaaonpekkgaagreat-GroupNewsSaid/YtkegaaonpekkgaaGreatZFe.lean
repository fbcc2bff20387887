import Derived.Test.YtkegaaonpekkgaaGreatZSxY
import Derived.Test.YtkegaaonpekkgaaGreatZEa
import Derived.Test.YtkegaaonpekkgaaGreatZSxBx
import Derived.Test.YtkegaaonpekkgaaGreatZKd
import Derived.Test.YtkegaaonpekkgaaGreatZNt
import Derived.Lib.AppendZerosOnto
namespace Go.Proofs.YtkegaaonpekkgaaGreat.Sx
open Go.RowKit
section
def zdm(x:Fe):List UInt64:=[x.a,x.b,x.c,x.d,x.e]
def bitB(o:List UInt8)(v:UInt64)(at_ k:Nat):List UInt8:=o.set ((at_+k)/8) (o.getD ((at_+k)/8) 0|||shl8 (UInt8.ofNat (shrW v k&&&1).toNat) ((at_+k)%8))
def rowB(o:List UInt8)(v:UInt64)(at_:Nat):Nat->List UInt8
 |0=>o
 |k+1=>bitB (rowB o v at_ k) v at_ k
def allF(x:Fe):Nat->List UInt8
 |0=>List.replicate 32 0
 |i+1=>rowB (allF x i) ((zdm x).getD i 0) (i*51) 51
theorem zjg(o:List UInt8)(v:UInt64)(at_:Nat): ∀k,(rowB o v at_ k).length=o.length
 |0=>rfl
 |k+1=>by rw[rowB,bitB,List.length_set,zjg o v at_ k]
theorem zit(x:Fe): ∀i,(allF x i).length=32
 |0=>by simp[allF]
 |i+1=>by rw[allF,zjg,zit x i]
theorem zmx(x:Fe)(i:Nat):allF x (i+1)=rowB (allF x i) ((zdm x).getD i 0) (i*51) 51:=rfl
theorem zn4(o:List UInt8)(v:UInt64)(at_:Nat):rowB o v at_ 0=o:=rfl
theorem zmy(x:Fe):allF x 0=List.replicate 32 0:=rfl
attribute [irreducible] rowB allF zdm
def Fe.bytes(x:Fe):List UInt8:=allF x.least 5
theorem Fe.bytes_len(x:Fe):x.bytes.length=32:=zit _ _
theorem Vquo.i64{a b:Int}{K:Int->Prop}(x y:Nat)(ha:a=(x:Int))(hb:b=(y:Int))(hy:0<y)(hx:x<9223372036854775808)(hK:K ((x/y:Nat):Int)):Vquo .i64 a b K:=by
 subst ha;subst hb
 refine⟨by omega,_,?_,hK⟩
 have h:=Nat.div_le_self x y
 rw[Int.tdiv_eq_ediv_of_nonneg (by omega),<-Int.natCast_ediv]
 generalize x/y=z at*
 exact wrap_i64 (by omega)
theorem zs32:(List.replicate ((32:Int).toNat) ([Value.int .u8 0].map ofC)).flatten=(List.replicate 32 (0:UInt8)).map U8:=by simp[ofC]
theorem zeu{l:List UInt8}{j:Nat}(h:j<l.length):(l.map U8)[j]?=some (U8 (l.getD j 0)):=by
 rw[List.getElem?_map,List.getElem?_eq_getElem h,List.getD_eq_getElem?_getD,List.getElem?_eq_getElem h]
 rfl
theorem z2e(x:Fe){i:Nat}(hi:i<5):(x.v.drop (i*1)).take 1=[W ((zdm x).getD i 0)]:=by
 have:i=0\/i=1\/i=2\/i=3\/i=4:=by omega
 unfold zdm
 rcases this with rfl |rfl |rfl |rfl |rfl<;>rfl
def outI(x:Fe)(i:Nat):St:={F:=[(3, .own 0),(12, .r (.ag x.v)),(13, .r (I i))],O:=[(0,some (.ch 5 1 32 ((allF x i).map U8) false))],nx:=1}
def inI(x:Fe)(i k:Nat):St:={F:=[(3, .own 0),(12, .r (.ag x.v)),(13, .r (I i)),(5, .r (W ((zdm x).getD i 0))),(6, .r (I ((i*51:Nat):Int))),(19, .r (I k))],O:=[(0,some (.ch 5 1 32 ((rowB (allF x i) ((zdm x).getD i 0) (i*51) k).map U8) false))],nx:=1}
set_option maxHeartbeats 1000000 in
theorem zos(x:Fe):aG 211 [.ag x.v] (bch x.bytes):=by
 refine za1 (T:=Tab) mixed Tab_ok Tryz.func211 rfl (by kernel_rfl) ?_
 refine za rfl rfl ?_
 refine ze (zkp x) ?_
 refine⟨rfl,by decide,by decide,by decide,_,_,rfl,zs32,Vpub.own ?_⟩
 refine za rfl rfl ?_
 refine Vloop.mkx (outI x.least) (λi=>i<=5) (λi=>5-i) 0 (by omega) (zac [(0,1)] rfl ⟨rfl,cr,cr,trivial⟩ ⟨⟨rfl,rfl,rfl,rfl,by rw[zmy];exact zn _⟩,trivial⟩) ?_
 intro i hi
 refine zh (λh=>zp ?_) (λh=>zq ?_)
 ·simp only[zb]at h
  have hi':i<5:=by omega
  refine zm (by omega) (by simp;omega) (z2e x.least hi') ?_
  refine zd (m:=((i*51:Nat):Int)) (by omega) (by omega) ?_
  refine Vloop.mkx (inI x.least i) (λk=>k<=51) (λk=>51-k) 0 (by omega) (zac [(0,0)] rfl ⟨rfl,cr,cr,cr,cr,cr,trivial⟩ ⟨⟨rfl,rfl,rfl,rfl,by rw[zn4];exact zn _⟩,trivial⟩) ?_
  intro k hk
  refine zh (λh=>zp ?_) (λh=>zq ?_)
  ·simp only[zb]at h
   have hk':k<51:=by omega
   have hL:(rowB (allF x.least i) ((zdm x.least).getD i 0) (i*51) k).length=32:=by rw[zjg,zit]
   refine aV ?_
   refine zd (m:=((i*51+k:Nat):Int)) (by omega) (by omega) ?_
   refine Vquo.i64 (i*51+k) 8 rfl rfl (by omega) (by omega) ?_
   refine Vadr.mk' ((i*51+k)/8) rfl (by omega) ?_
   refine zg (f:=U8 ((rowB (allF x.least i) ((zdm x.least).getD i 0) (i*51) k).getD ((i*51+k)/8) 0)) (by rw[Nat.mul_one];exact zeu (by rw[hL];omega)) ?_
   refine Vshr.w _ k rfl rfl ?_
   refine Vbits.wand _ 1 rfl rfl ?_
   refine Vint.u8 _ rfl ?_
   refine zd (m:=((i*51+k:Nat):Int)) (by omega) (by omega) ?_
   refine Vrem.nat (i*51+k) 8 rfl rfl (by omega) ?_
   refine Vshl.b _ ((i*51+k)%8) rfl rfl (by omega) ?_
   refine Vbits.or8 _ _ rfl rfl ?_
   refine Vadr.mk' ((i*51+k)/8) rfl (by omega) ?_
   refine⟨by rw[List.length_map,hL];show(i*51+k)/8*1+1<=32;omega,(rowB (allF x.least i) ((zdm x.least).getD i 0) (i*51) (k+1)).map U8,?_,?_⟩
   ·rw[rowB,bitB,Nat.mul_one]
    exact zc1 (by rw[hL];omega)
   refine zd (m:=((k+1:Nat):Int)) (by omega) (by omega) ?_
   exact⟨k+1,by omega,by omega,zac [(0,0)] rfl ⟨rfl,cr,cr,cr,cr,cr,trivial⟩ ⟨⟨rfl,rfl,rfl,rfl,zn _⟩,trivial⟩⟩
  ·simp only[zb]at h
   obtain rfl:k=51:=by omega
   refine⟨_,zo _,?_⟩
   refine zd (m:=((i+1:Nat):Int)) (by omega) (by omega) ?_
   exact⟨i+1,by omega,by omega,zac [(0,0)] rfl ⟨rfl,cr,cr,trivial⟩ ⟨⟨rfl,rfl,rfl,rfl,by rw[zmx];exact zn _⟩,trivial⟩⟩
 ·simp only[zb]at h
  obtain rfl:i=5:=by omega
  refine⟨_,zo _,?_⟩
  refine⟨_,zbd (id:=0) rfl,?_⟩
  exact congrArg (λn=>some (Ow.ch 5 1 n (x.bytes.map U8) true)) x.bytes_len.symm
end
section
def za7(b:List UInt8)(at_:Nat):Nat->UInt64
 |0=>0
 |j+1=>shlW (za7 b at_ j) 8|||UInt64.ofNat (b.getD (at_+(7-j)) 0).toNat
theorem zii(b:List UInt8)(at_:Nat):za7 b at_ 0=0:=rfl
theorem zih(b:List UInt8)(at_ j:Nat):za7 b at_ (j+1)=shlW (za7 b at_ j) 8|||UInt64.ofNat (b.getD (at_+(7-j)) 0).toNat:=rfl
attribute [irreducible] za7
def Fe.of(b:List UInt8):Fe:=⟨za7 b 0 8&&&msk,shrW (za7 b 6 8) 3&&&msk,shrW (za7 b 12 8) 6&&&msk,shrW (za7 b 19 8) 1&&&msk,shrW (za7 b 24 8) 12&&&msk⟩
abbrev boxB(b:List UInt8):Ow:= .box ((b.map U8).map .r)
theorem z1v{l:List UInt8}{j:Nat}(h:j<l.length):((l.map U8).map TF.r)[j]?=some (.r (U8 (l.getD j 0))):=by
 rw[List.getElem?_map,zeu h]
 rfl
def z6m(b:List UInt8)(at_:Nat)(v:Value)(j:Nat):St:={F:=[(0, .r (I at_)),(1, .own 0),(4, .r (W (za7 b at_ j))),(5, .r (I (7-(j:Int)))),(1000000, .nm 0 v)],O:=[(0,some (boxB b))],nx:=1}
theorem zz7(b:List UInt8)(at_:Nat)(v:Value)(j:Nat):stOk [(0,0)] (z6m b at_ v j)=true:=by
 have h:=zdz (b.map U8) 1
 simp only[stOk,z6m,boxB,List.all_cons,List.all_nil,zdq,h]
 rfl
theorem znn(v:Value)(b:List UInt8)(hb:b.length=32)(at_:Nat)(ha:at_<=24):Acts aP 424 1 [(0,boxB b)] [.r (I at_), .own 0] [(0,v)] 1 [(0,boxB b)] (.r (W (za7 b at_ 8))):=by
 refine zah (T:=Tab) mixed Tab_ok Tryz.func424 rfl (by kernel_rfl) rfl ⟨⟨_,_,rfl,rfl,zai,zai⟩,trivial⟩ ?_
 refine zy (z6m b at_ v) (λj=>j<=8) (λj=>8-j) 0 (by omega) (zac [(0,0)] (zz7 b at_ v _) ⟨cr,rfl,by rw[zii];exact cr,cr,⟨rfl,rfl⟩,trivial⟩ ⟨zae _,trivial⟩) ?_
 intro j hj
 refine zh (λh=>zp ?_) (λh=>zq ?_)
 ·simp only[zb]at h
  have hj':j<8:=by omega
  refine Vshl.w _ 8 rfl rfl (by decide) ?_
  refine zd (m:=((at_+(7-j):Nat):Int)) (by omega) (by omega) ?_
  refine Vadr.mk' (at_+(7-j)) rfl (by omega) ?_
  (conv=>whnf)
  generalize hq:lget _ _=q
  obtain rfl:q=some (TF.r (U8 (b.getD (at_+(7-j)) 0))):=hq.symm.trans ((zat _ ((at_+(7-j))*1)).trans (by rw[Nat.mul_one];exact z1v (by omega)))
  clear hq
  refine Vint.w _ rfl ?_
  refine Vbits.wor _ _ rfl rfl ?_
  refine zd (m:=7-((j+1:Nat):Int)) (by omega) (by omega) ?_
  exact⟨j+1,by omega,by omega,zac [(0,0)] (zz7 b at_ v _) ⟨cr,rfl,by rw[zih];exact cr,cr,⟨rfl,rfl⟩,trivial⟩ ⟨zae _,trivial⟩⟩
 ·simp only[zb]at h
  obtain rfl:j=8:=by omega
  exact zan (.inl rfl) [(0,0)] [(3, .r (W (za7 b at_ 8)))] [] (by have h:=zdz (b.map U8) 1;simp only[stOk,lift,boxB,List.map_cons,List.map_nil,List.append_nil,List.all_cons,List.all_nil,zdq,h];rfl) ⟨cr,⟨rfl,rfl⟩,trivial⟩ ⟨zae _,trivial⟩ ⟨⟨1000000,rfl⟩,trivial⟩ (cr)
theorem zhsb{l:List TF}{ys:List RV}(h:l.length=ys.length):l.take 0++(ys.take ys.length).map TF.r++l.drop (0+ys.length)=ys.map TF.r:=by
 rw[List.take_zero,List.nil_append,List.take_length,Nat.zero_add,<-h,List.drop_length,List.append_nil]
theorem h_of(b:List UInt8)(hb:b.length=32):aG 322 [bs b] (.r (.ag (Fe.of b).v)):=by
 refine aT Tryz.func322 rfl ?_
 refine Vstep.val Tab_ok ?_
 refine Vcutn.mk' 0 32 rfl rfl (by decide) (by decide) ?_
 refine Vstep.copyBox Tab_ok rfl rfl rfl rfl rfl rfl rfl (by decide) rfl (.inl rfl) (zs:=(b.map U8).map .r) ?_ ?_
 ·have e:Nat.min b.length 32=(b.map U8).length:=by rw[hb,List.length_map,hb];rfl
  rw[e]
  exact zhsb (by rw[List.length_map,List.length_map,hb];rfl)
 refine Vstep.nm 1 1000000 rfl λp=>Vstep.mkfunX [p] rfl ⟨_,_,rfl,⟨1,1000000,rfl,rfl⟩,rfl⟩ ?_
 refine Vstep.actsBox 1 (λv=>znn v b hb 0 (by decide)) (Handed.clo (fs:=[.r (I 0)]) (cs:=[.own 0]) rfl rfl ⟨_,_,rfl,cr,rfl⟩ ⟨_,_,rfl,⟨1,1000000,rfl,rfl⟩,rfl⟩) rfl ?_
 refine Vbits.wand _ msk rfl rfl ?_
 refine Vstep.actsBox 1 (λv=>znn v b hb 6 (by decide)) (Handed.clo (fs:=[.r (I 6)]) (cs:=[.own 0]) rfl rfl ⟨_,_,rfl,cr,rfl⟩ ⟨_,_,rfl,⟨1,1000000,rfl,rfl⟩,rfl⟩) rfl ?_
 refine Vshr.w _ 3 rfl rfl ?_
 refine Vbits.wand _ msk rfl rfl ?_
 refine Vstep.actsBox 1 (λv=>znn v b hb 12 (by decide)) (Handed.clo (fs:=[.r (I 12)]) (cs:=[.own 0]) rfl rfl ⟨_,_,rfl,cr,rfl⟩ ⟨_,_,rfl,⟨1,1000000,rfl,rfl⟩,rfl⟩) rfl ?_
 refine Vshr.w _ 6 rfl rfl ?_
 refine Vbits.wand _ msk rfl rfl ?_
 refine Vstep.actsBox 1 (λv=>znn v b hb 19 (by decide)) (Handed.clo (fs:=[.r (I 19)]) (cs:=[.own 0]) rfl rfl ⟨_,_,rfl,cr,rfl⟩ ⟨_,_,rfl,⟨1,1000000,rfl,rfl⟩,rfl⟩) rfl ?_
 refine Vshr.w _ 1 rfl rfl ?_
 refine Vbits.wand _ msk rfl rfl ?_
 refine Vstep.actsBox 1 (λv=>znn v b hb 24 (by decide)) (Handed.clo (fs:=[.r (I 24)]) (cs:=[.own 0]) rfl rfl ⟨_,_,rfl,cr,rfl⟩ ⟨_,_,rfl,⟨1,1000000,rfl,rfl⟩,rfl⟩) rfl ?_
 refine Vshr.w _ 12 rfl rfl ?_
 refine Vbits.wand _ msk rfl rfl ?_
 repeat' ((conv=>whnf);first|refine za rfl rfl ?_)
 exactλ_ _ _ h=>h
end
section
def rorW(x:UInt64)(n:Nat):UInt64:=shlW x (64-n)|||shrW x n
theorem Vbits.wandN{a b:Int}{K:Int->Prop}(x y:UInt64)(m:Nat)(ha:a=(x.toNat:Int))(hb:b=(y.toNat:Int))(hm:(x&&&y).toNat=m)(hK:K (m:Int)):Vbits .u64 .and a b K:=Vbits.wand x y ha hb (by rw[hm];exact hK)
theorem zjyb(x:UInt64)(n:Nat)(hn:1<=n/\n<=63):aG 528 [W x,I (-(n:Int))] (.r (W (rorW x n))):=by
 refine aT Tryz.func528 rfl ?_
 have e1:(UInt64.ofNat (18446744073709551616-n)).toNat=18446744073709551616-n:=by rw[UInt64.toNat_ofNat'];omega
 refine Vint.n ((UInt64.ofNat (18446744073709551616-n)).toNat:Int) (by rw[e1];simp only[IntKind.wrap];simp[IntKind.bits,IntKind.signed];omega) ?_
 refine Vbits.wandN (UInt64.ofNat (18446744073709551616-n)) 63 (64-n) rfl rfl (by
  rw[UInt64.toNat_and,e1]
  have:=Nat.and_two_pow_sub_one_eq_mod (18446744073709551616-n) 6
  have e:(63:UInt64).toNat=2^6-1:=rfl
  rw[e,this]
  omega) ?_
 refine Vshl.w x (64-n) rfl rfl (by omega) ?_
 refine Vint.u64 n (by omega) (by omega) ?_
 refine Vshr.w x n rfl rfl ?_
 refine Vbits.wor _ _ rfl rfl ?_
 exact cr
theorem zda(x:UInt64)(n:Nat)(hn:1<=n/\n<=63):aG 492 [W x,I n] (.r (W (rorW x n))):=by
 refine aT Tryz.func492 rfl ?_
 refine zd (m:= -(n:Int)) (by omega) (by omega) ?_
 refine ze (zjyb x n hn) ?_
 exact cr
abbrev boxW(l:List UInt64):Ow:= .box ((l.map W).map .r)
theorem zh5{l:List UInt64}{j:Nat}(h:j<l.length):lget ((l.map W).map TF.r) (j*1)=some (TF.r (W (l.getD j 0))):=zlt W 0 h
theorem zza{l:List UInt64}{j:Nat}{x:UInt64}{K:List TF->Prop}(h:j<l.length)(hK:K (((l.set j x).map W).map TF.r)):putK ((l.map W).map TF.r) (j*1) [TF.r (W x)] K:=zy9 h hK
def zh4(c:List UInt8):Nat->UInt64
 |0=>0
 |j+1=>shlW (zh4 c j) 8|||UInt64.ofNat (c.getD j 0).toNat
def wA(b:List UInt8)(t:Nat):List UInt64:=(List.range 80).map λi=>if i<t then zh4 (b.drop (8*i)) 8 else 0
def wI(b:List UInt8)(t j:Nat):List UInt64:=(wA b t).set t (zh4 (b.drop (8*t)) j)
theorem zz4(b:List UInt8)(t:Nat):(wA b t).length=80:=by simp[wA]
theorem zz5(b:List UInt8)(t j:Nat):(wI b t j).length=80:=by simp[wI,wA]
theorem ziib(b:List UInt8)(t:Nat)(ht:t<80):wI b t 0=wA b t:=by
 apply List.ext_getElem
 ·simp[wI]
 ·intro i h1 h2
  simp only[wI,List.getElem_set]
  split
  ·rename_i h;subst h;simp[wA,zh4]
  ·rfl
theorem zmvb(b:List UInt8)(t:Nat):wI b t 8=wA b (t+1):=by
 apply List.ext_getElem
 ·simp[wI,wA]
 ·intro i h1 h2
  simp only[wI,List.getElem_set,wA,List.getElem_map,List.getElem_range]
  split
  ·rename_i h;subst h;simp
  ·rename_i h
   by_cases h3:i<t
   ·rw[if_pos h3,if_pos (by omega)]
   ·rw[if_neg h3,if_neg (by omega)]
theorem zmwb(b:List UInt8)(t j:Nat)(ht:t<80):(wI b t j).getD t 0=zh4 (b.drop (8*t)) j:=by
 rw[wI,List.getD_eq_getElem?_getD,List.getElem?_set_self (by rw[zz4];exact ht)]
 rfl
theorem zmxb(b:List UInt8)(t j:Nat)(x:UInt64)(hx:x=zh4 (b.drop (8*t)) (j+1)):(wI b t j).set t x=wI b t (j+1):=by
 rw[hx,wI,List.set_set]
 rfl
theorem z37(c:List UInt8)(j:Nat):zh4 c (j+1)=shlW (zh4 c j) 8|||UInt64.ofNat (c.getD j 0).toNat:=rfl
attribute [irreducible] wA wI zh4
end
section
def wS(x y p q:UInt64):UInt64:=((rorW y 19^^^rorW y 61)^^^shrW y 6)+p+((rorW x 1^^^rorW x 8)^^^shrW x 7)+q
def wB(b:List UInt8):Nat->List UInt64
 |0=>wA b 16
 |k+1=>(wB b k).set (16+k) (wS ((wB b k).getD (k+1) 0) ((wB b k).getD (k+14) 0) ((wB b k).getD (k+9) 0) ((wB b k).getD k 0))
theorem zcy(b:List UInt8): ∀k,(wB b k).length=80
 |0=>zz4 b 16
 |k+1=>by rw[wB,List.length_set,zcy b k]
theorem zihb(b:List UInt8):wB b 0=wA b 16:=rfl
theorem zigb(b:List UInt8)(k:Nat):wB b (k+1)=(wB b k).set (16+k) (wS ((wB b k).getD (k+1) 0) ((wB b k).getD (k+14) 0) ((wB b k).getD (k+9) 0) ((wB b k).getD k 0)):=rfl
theorem zifb(b:List UInt8):wA b 0=List.replicate 80 0:=by
 apply List.ext_getElem
 ·simp[zz4]
 ·intro i h1 h2
  unfold wA
  simp only[List.getElem_map,List.getElem_replicate,Nat.not_lt_zero,if_false]
attribute [irreducible] wB
theorem z6v{x:UInt64}{l:List UInt64}{j:Nat}(h:j<l.length):(za8 (W x)&&(Nat.beq (cellsOf (W x)).length 1&&Nat.ble (j*1+1) ((l.map W).map TF.r).length))=true:=zss (by rw[List.length_map,List.length_map];exact h)
def woA(b:List UInt8)(t:Nat):St:={F:=[(0, .r (bs b)),(2, .own 0),(3, .own 1),(10, .r (I t))],O:=[(0,some (boxW (List.replicate 80 0))),(1,some (boxW (wA b t)))],nx:=2}
def woI(b:List UInt8)(t j:Nat):St:={F:=[(0, .r (bs b)),(2, .own 0),(3, .own 1),(10, .r (I t)),(4, .r (I t)),(19, .r (.sl 1 8 (((b.drop (8*t)).take 8).map U8))),(20, .r (I 8)),(21, .r (I j))],O:=[(0,some (boxW (List.replicate 80 0))),(1,some (boxW (wI b t j)))],nx:=2}
def woB(b:List UInt8)(k:Nat):St:={F:=[(2, .own 0),(3, .own 1),(7, .r (I ((16+k:Nat):Int)))],O:=[(0,some (boxW (List.replicate 80 0))),(1,some (boxW (wB b k)))],nx:=2}
theorem zavb(b:List UInt8)(t:Nat):stOk [(0,0),(1,1)] (woA b t)=true:=by
 simp only[stOk,woA,boxW,List.all_cons,List.all_nil,zdq,zdz]
 rfl
theorem zaxb(b:List UInt8)(t j:Nat):stOk [(0,0),(1,1)] (woI b t j)=true:=by
 simp only[stOk,woI,boxW,List.all_cons,List.all_nil,zdq,zdz]
 rfl
theorem zawb(b:List UInt8)(k:Nat):stOk [(0,0),(1,1)] (woB b k)=true:=by
 simp only[stOk,woB,boxW,List.all_cons,List.all_nil,zdq,zdz]
 rfl
set_option maxHeartbeats 1000000 in
theorem zg2b(b:List UInt8)(hb:b.length=128):aG 491 [bs b] (.r (.ag ((wB b 64).map W))):=by
 refine aT Tryz.func491 rfl ?_
 refine zy (woA b) (λt=>t<=16) (λt=>16-t) 0 (by omega) (zac [(0,0),(1,1)] (zavb b 0) ⟨cr,rfl,rfl,cr,trivial⟩ ⟨zae ((List.replicate 80 (0:UInt64)).map W),by rw[zifb];exact zae ((List.replicate 80 (0:UInt64)).map W),trivial⟩) ?_
 intro t ht
 refine zh (λh=>zp ?_) (λh=>zq ?_)
 ·simp only[zb]at h
  refine zd (m:=((8*t:Nat):Int)) (by omega) (by omega) ?_
  refine zd (m:=((8*t:Nat):Int)) (by omega) (by omega) ?_
  refine zd (m:=((8*t+8:Nat):Int)) (by omega) (by omega) ?_
  refine⟨by omega,by omega,by omega,8,((b.drop (8*t)).take 8).map U8,by omega,by rw[Nat.mul_one,Int.toNat_natCast,Nat.mul_one,<-List.map_drop,<-List.map_take],?_⟩
  refine zy (woI b t) (λj=>j<=8) (λj=>8-j) 0 (by omega) (zac [(0,0),(1,1)] (zaxb b t 0) ⟨cr,rfl,rfl,cr,cr,cr,cr,cr,trivial⟩ ⟨zae ((List.replicate 80 (0:UInt64)).map W),by rw[ziib b t (by omega)];exact zae ((wA b t).map W),trivial⟩) ?_
  intro j hj
  refine zh (λh=>zp ?_) (λh=>zq ?_)
  ·simp only[zb]at h
   have hc:((b.drop (8*t)).take 8).length=8:=by rw[List.length_take,List.length_drop];omega
   have ht':t<16:=by omega
   refine zm (by omega) (by omega) (za3 rfl (i:=j) (by rw[hc];omega)) (zg rfl ?_)
   refine Vadr.mk' t rfl (by omega) ?_
   (conv=>whnf)
   generalize hq:lget _ _=q
   obtain rfl:=hq.symm.trans (zh5 (by rw[zz5];omega))
   clear hq
   refine Vshl.w _ 8 rfl rfl (by decide) ?_
   refine Vint.w _ rfl ?_
   refine Vbits.wor _ _ rfl rfl ?_
   refine Vadr.mk' t rfl (by omega) ?_
   (conv=>whnf)
   generalize hq:(za8 _&&_)=q
   obtain rfl:=hq.symm.trans (z6v (x:=shlW ((wI b t j).getD t 0) 8|||UInt64.ofNat (((b.drop (8*t)).take 8)[j]).toNat) (j:=t) (by rw[zz5];omega))
   clear hq
   refine zza (by rw[zz5];omega) ?_
   rw[zmxb b t j _ (by
    rw[zmwb b t j (by omega),z37,List.getElem_take,List.getD_eq_getElem?_getD,List.getElem?_eq_getElem (by rw[List.length_drop];omega)]
    rfl)]
   refine zd (m:=((j+1:Nat):Int)) (by omega) (by omega) ?_
   exact⟨j+1,by omega,by omega,zac [(0,0),(1,1)] (zaxb b t (j+1)) ⟨cr,rfl,rfl,cr,cr,cr,cr,cr,trivial⟩ ⟨zae ((List.replicate 80 (0:UInt64)).map W),zae ((wI b t (j+1)).map W),trivial⟩⟩
  ·simp only[zb]at h
   obtain rfl:j=8:=by omega
   refine zd (m:=((t+1:Nat):Int)) (by omega) (by omega) ?_
   exact⟨t+1,by omega,by omega,zac [(0,0),(1,1)] (zavb b (t+1)) ⟨cr,rfl,rfl,cr,trivial⟩ ⟨zae ((List.replicate 80 (0:UInt64)).map W),by rw[<-zmvb b t];exact zae ((wI b t 8).map W),trivial⟩⟩
 ·simp only[zb]at h
  obtain rfl:t=16:=by omega
  refine zy (woB b) (λk=>k<=64) (λk=>64-k) 0 (by omega) (zac [(0,0),(1,1)] (zawb b 0) ⟨rfl,rfl,cr,trivial⟩ ⟨zae ((List.replicate 80 (0:UInt64)).map W),by rw[zihb];exact zae ((wA b 16).map W),trivial⟩) ?_
  intro k hk
  refine zh (λh=>zp ?_) (λh=>zq ?_)
  ·simp only[zb]at h
   have hk':k<64:=by omega
   refine aV ?_
   refine zd (m:=((k+1:Nat):Int)) (by omega) (by omega) ?_
   (conv=>whnf)
   generalize hq:za0 _ _ _ _ _=q
   obtain rfl:=hq.symm.trans (zbf rfl rfl rfl)
   clear hq
   refine Vadr.mk' (k+1) rfl (by omega) ?_
   (conv=>whnf)
   generalize hq:za0 _ _ _ _ _=q
   obtain rfl:=hq.symm.trans (zbf rfl rfl rfl)
   clear hq
   (conv=>whnf)
   generalize hq:lget _ _=q
   obtain rfl:=hq.symm.trans (zh5 (l:=wB b k) (j:=k+1) (by rw[zcy];omega))
   clear hq
   refine zd (m:=((k+14:Nat):Int)) (by omega) (by omega) ?_
   (conv=>whnf)
   generalize hq:za0 _ _ _ _ _=q
   obtain rfl:=hq.symm.trans (zbf rfl rfl rfl)
   clear hq
   refine Vadr.mk' (k+14) rfl (by omega) ?_
   (conv=>whnf)
   generalize hq:za0 _ _ _ _ _=q
   obtain rfl:=hq.symm.trans (zbf rfl rfl rfl)
   clear hq
   (conv=>whnf)
   generalize hq:lget _ _=q
   obtain rfl:=hq.symm.trans (zh5 (l:=wB b k) (j:=k+14) (by rw[zcy];omega))
   clear hq
   refine aV ?_
   refine ze (zda _ 19 (by decide)) ?_
   refine ze (zda _ 61 (by decide)) ?_
   refine Vbits.wxor _ _ rfl rfl ?_
   refine Vshr.w _ 6 rfl rfl ?_
   refine Vbits.wxor _ _ rfl rfl ?_
   refine zd (m:=((k+9:Nat):Int)) (by omega) (by omega) ?_
   (conv=>whnf)
   generalize hq:za0 _ _ _ _ _=q
   obtain rfl:=hq.symm.trans (zbf rfl rfl rfl)
   clear hq
   refine Vadr.mk' (k+9) rfl (by omega) ?_
   (conv=>whnf)
   generalize hq:za0 _ _ _ _ _=q
   obtain rfl:=hq.symm.trans (zbf rfl rfl rfl)
   clear hq
   (conv=>whnf)
   generalize hq:lget _ _=q
   obtain rfl:=hq.symm.trans (zh5 (l:=wB b k) (j:=k+9) (by rw[zcy];omega))
   clear hq
   refine Vint.wadd _ _ rfl rfl ?_
   refine ze (zda _ 1 (by decide)) ?_
   refine ze (zda _ 8 (by decide)) ?_
   refine Vbits.wxor _ _ rfl rfl ?_
   refine Vshr.w _ 7 rfl rfl ?_
   refine Vbits.wxor _ _ rfl rfl ?_
   refine Vint.wadd _ _ rfl rfl ?_
   refine zd (m:=(k:Int)) (by omega) (by omega) ?_
   (conv=>whnf)
   generalize hq:za0 _ _ _ _ _=q
   obtain rfl:=hq.symm.trans (zbf rfl rfl rfl)
   clear hq
   refine Vadr.mk' k rfl (by omega) ?_
   (conv=>whnf)
   generalize hq:za0 _ _ _ _ _=q
   obtain rfl:=hq.symm.trans (zbf rfl rfl rfl)
   clear hq
   (conv=>whnf)
   generalize hq:lget _ _=q
   obtain rfl:=hq.symm.trans (zh5 (l:=wB b k) (j:=k) (by rw[zcy];omega))
   clear hq
   refine Vint.wadd _ _ rfl rfl ?_
   (conv=>whnf)
   generalize hq:za0 _ _ _ _ _=q
   obtain rfl:=hq.symm.trans (zbf rfl rfl rfl)
   clear hq
   refine Vadr.mk' (16+k) rfl (by omega) ?_
   (conv=>whnf)
   generalize hq:(za8 _&&_)=q
   obtain rfl:=hq.symm.trans (z6v (x:=wS ((wB b k).getD (k+1) 0) ((wB b k).getD (k+14) 0) ((wB b k).getD (k+9) 0) ((wB b k).getD k 0)) (j:=16+k) (by rw[zcy];omega))
   clear hq
   refine zza (by rw[zcy];omega) ?_
   refine zd (m:=((16+(k+1):Nat):Int)) (by omega) (by omega) ?_
   exact⟨k+1,by omega,by omega,zac [(0,0),(1,1)] (zawb b (k+1)) ⟨rfl,rfl,cr,trivial⟩ ⟨zae ((List.replicate 80 (0:UInt64)).map W),by rw[zigb];exact zae _,trivial⟩⟩
  ·simp only[zb]at h
   obtain rfl:k=64:=by omega
   refine za (l:=((wB b 64).map W).map TF.r) (List.take_of_length_le (by simp[zcy])) (by simp[zcy]) ?_
   (conv=>whnf)
   generalize hq:St.rvs _ _=q
   obtain rfl:=hq.symm.trans (zg4 _ _)
   clear hq
   (conv=>whnf)
   generalize hq:(za8 _&&_)=q
   have hg:(za8 (.ag ((wB b 64).map W))&&(Nat.beq (cellsOf (.ag ((wB b 64).map W))).length 80&&Nat.ble (0+80) (((List.replicate 80 (0:UInt64)).map W).map TF.r).length))=true:=by
    have e1:(cellsOf (.ag ((wB b 64).map W))).length=80:=by show((wB b 64).map W).length=80;rw[List.length_map,zcy]
    rw[e1]
    have e2:za8 (.ag ((wB b 64).map W))=true:=rfl
    rw[e2]
    rfl
   obtain rfl:=hq.symm.trans hg
   clear hq
   show putK _ _ _ _
   rw[zej _ _ _ _ (by simp[zcy,cellsOf])]
   generalize hq:(List.take 0 _++_++_:List TF)=q
   have hg:(((List.replicate 80 (0:UInt64)).map W).map TF.r).take 0++((wB b 64).map W).map TF.r++(((List.replicate 80 (0:UInt64)).map W).map TF.r).drop (0+(((wB b 64).map W).map TF.r).length)=((wB b 64).map W).map TF.r:=by
    rw[List.length_map,List.length_map,zcy]
    exact List.append_nil _
   obtain rfl:=hq.symm.trans hg
   clear hq
   refine za (l:=((wB b 64).map W).map TF.r) (List.take_of_length_le (by simp[zcy])) (by simp[zcy]) ?_
   (conv=>whnf)
   generalize hq:St.rvs _ _=q
   obtain rfl:=hq.symm.trans (zg4 _ _)
   clear hq
   exact cr
end
section
structure X8 where
 a:UInt64
 b:UInt64
 c:UInt64
 d:UInt64
 e:UInt64
 f:UInt64
 g:UInt64
 h:UInt64
abbrev X8.l(x:X8):List UInt64:=[x.a,x.b,x.c,x.d,x.e,x.f,x.g,x.h]
def X8.t1(x:X8)(k w:UInt64):UInt64:=x.h+((rorW x.e 14^^^rorW x.e 18)^^^rorW x.e 41)+((x.e&&&x.f)^^^((18446744073709551615^^^x.e)&&&x.g))+k+w
def X8.t2(x:X8):UInt64:=((rorW x.a 28^^^rorW x.a 34)^^^rorW x.a 39)+(((x.a&&&x.b)^^^(x.a&&&x.c))^^^(x.b&&&x.c))
def X8.next(x:X8)(k w:UInt64):X8:=⟨x.t1 k w+x.t2,x.a,x.b,x.c,x.d+x.t1 k w,x.e,x.f,x.g⟩
def X8.add(x y:X8):X8:=⟨x.a+y.a,x.b+y.b,x.c+y.c,x.d+y.d,x.e+y.e,x.f+y.f,x.g+y.g,x.h+y.h⟩
def xN(s:X8)(k w:List UInt64):Nat->X8
 |0=>s
 |j+1=>(xN s k w j).next (k.getD j 0) (w.getD j 0)
theorem zimb(s:X8)(k w:List UInt64):xN s k w 0=s:=rfl
theorem zilb(s:X8)(k w:List UInt64)(j:Nat):xN s k w (j+1)=(xN s k w j).next (k.getD j 0) (w.getD j 0):=rfl
attribute [irreducible] xN
def z6e(s:X8)(k:List UInt64)(b:List UInt8):X8:=s.add (xN s k (wB b 64) 80)
abbrev X8.bx(x:X8):Ow:= .box [.r (W x.a), .r (W x.b), .r (W x.c), .r (W x.d), .r (W x.e), .r (W x.f), .r (W x.g), .r (W x.h)]
abbrev X8.v(x:X8):List RV:=[W x.a,W x.b,W x.c,W x.d,W x.e,W x.f,W x.g,W x.h]
def stI(s:X8)(k w:List UInt64)(j:Nat):St:={F:=[(3, .own 0),(4, .own 1),(6, .own 2),(7, .own 3),(8, .own 4),(18, .r (I j))],O:=[(0,some s.bx),(1,some (boxW k)),(2,some (X8.bx ⟨0,0,0,0,0,0,0,0⟩)),(3,some (boxW w)),(4,some (xN s k w j).bx)],nx:=5}
theorem zahb(s:X8)(k w:List UInt64)(j:Nat):stOk [(0,0),(1,1),(2,2),(3,3),(4,4)] (stI s k w j)=true:=by
 simp only[stOk,stI,boxW,List.all_cons,List.all_nil,zdq,zdz]
 rfl
set_option maxHeartbeats 4000000 in
theorem zcsb(s:X8)(k:List UInt64)(b:List UInt8)(hk:k.length=80)(hb:b.length=128):aG 430 [.ag s.v, .ag (k.map W),bs b] (.r (.ag (z6e s k b).v)):=by
 refine aT Tryz.func430 rfl ?_
 refine ze (zg2b b hb) ?_
 (conv=>whnf)
 generalize hq:(za8 _&&_)=q
 obtain rfl:=hq.symm.trans (zh0 (l:=(wB b 64).map W) 80 (by rw[List.length_map,zcy]) rfl)
 clear hq
 refine zeb (by rw[List.length_map,List.length_map,zcy];rfl) ?_
 refine za rfl rfl ?_
 refine zy (stI s k (wB b 64)) (λj=>j<=80) (λj=>80-j) 0 (by omega) (zac [(0,0),(1,1),(2,2),(3,3),(4,4)] (zahb s k (wB b 64) 0) ⟨rfl,rfl,rfl,rfl,rfl,cr,trivial⟩ ⟨(aD aZ),zae (k.map W),(aD aZ),zae ((wB b 64).map W),by rw[zimb];exact⟨_,_,rfl,cr,_,_,rfl,cr,_,_,rfl,cr,_,_,rfl,cr,_,_,rfl,cr,_,_,rfl,cr,_,_,rfl,cr,_,_,rfl,cr,rfl⟩,trivial⟩) ?_
 intro j hj
 refine zh (λh=>zp ?_) (λh=>zq ?_)
 ·simp only[zb]at h
  have hj':j<80:=by omega
  generalize hX:xN s k (wB b 64) j=x
  refine aV ?_
  refine Vadr.any (by decide) ?_
  refine Vadr.any (by decide) ?_
  refine aV ?_
  refine Vadr.any (by decide) ?_
  refine ze (zda _ 14 (by decide)) ?_
  refine ze (zda _ 18 (by decide)) ?_
  refine Vbits.wxor _ _ rfl rfl ?_
  refine ze (zda _ 41 (by decide)) ?_
  refine Vbits.wxor _ _ rfl rfl ?_
  refine Vint.wadd _ _ rfl rfl ?_
  refine Vadr.any (by decide) ?_
  refine Vbits.wand _ _ rfl rfl ?_
  refine Vbits.wxor 18446744073709551615 _ rfl rfl ?_
  refine Vadr.any (by decide) ?_
  refine Vbits.wand _ _ rfl rfl ?_
  refine Vbits.wxor _ _ rfl rfl ?_
  refine Vint.wadd _ _ rfl rfl ?_
  (conv=>whnf)
  generalize hq:za0 _ _ _ _ _=q
  obtain rfl:=hq.symm.trans (zbf rfl rfl rfl)
  clear hq
  refine Vadr.mk' j rfl (by omega) ?_
  (conv=>whnf)
  generalize hq:za0 _ _ _ _ _=q
  obtain rfl:=hq.symm.trans (zbf rfl rfl rfl)
  clear hq
  (conv=>whnf)
  generalize hq:lget _ _=q
  obtain rfl:=hq.symm.trans (zh5 (l:=k) (j:=j) (by rw[hk];omega))
  clear hq
  refine Vint.wadd _ _ rfl rfl ?_
  (conv=>whnf)
  generalize hq:za0 _ _ _ _ _=q
  obtain rfl:=hq.symm.trans (zbf rfl rfl rfl)
  clear hq
  refine Vadr.mk' j rfl (by omega) ?_
  (conv=>whnf)
  generalize hq:za0 _ _ _ _ _=q
  obtain rfl:=hq.symm.trans (zbf rfl rfl rfl)
  clear hq
  (conv=>whnf)
  generalize hq:lget _ _=q
  obtain rfl:=hq.symm.trans (zh5 (l:=wB b 64) (j:=j) (by rw[zcy];omega))
  clear hq
  refine Vint.wadd _ _ rfl rfl ?_
  refine aV ?_
  refine ze (zda _ 28 (by decide)) ?_
  refine ze (zda _ 34 (by decide)) ?_
  refine Vbits.wxor _ _ rfl rfl ?_
  refine ze (zda _ 39 (by decide)) ?_
  refine Vbits.wxor _ _ rfl rfl ?_
  refine Vadr.any (by decide) ?_
  refine Vbits.wand _ _ rfl rfl ?_
  refine Vadr.any (by decide) ?_
  refine Vbits.wand _ _ rfl rfl ?_
  refine Vbits.wxor _ _ rfl rfl ?_
  refine Vadr.any (by decide) ?_
  refine Vadr.any (by decide) ?_
  refine Vbits.wand _ _ rfl rfl ?_
  refine Vbits.wxor _ _ rfl rfl ?_
  refine Vint.wadd _ _ rfl rfl ?_
  refine aV ?_
  refine Vcutn.mk' 1 7 rfl rfl (by decide) (by decide) ?_
  refine Vcutn.mk' 0 7 rfl rfl (by decide) (by decide) ?_
  refine Vstep.copyBox (n:=7) (m:=7) (ys:=[W x.a,W x.b,W x.c,W x.d,W x.e,W x.f,W x.g]) (zs:=[.r (W x.a), .r (W x.a), .r (W x.b), .r (W x.c), .r (W x.d), .r (W x.e), .r (W x.f), .r (W x.g)]) Tab_ok rfl rfl rfl rfl rfl rfl rfl (by show 1*1+7<=8;decide) rfl (.inr ⟨0,rfl,by show 0+7<=8;decide,rfl⟩) rfl ?_
  refine Vadr.any (by decide) ?_
  refine Vint.wadd _ _ rfl rfl ?_
  refine Vadr.any (by decide) ?_
  refine Vint.wadd _ _ rfl rfl ?_
  refine Vadr.any (by decide) ?_
  refine zd (m:=((j+1:Nat):Int)) (by omega) (by omega) ?_
  exact⟨j+1,by omega,by omega,zac [(0,0),(1,1),(2,2),(3,3),(4,4)] (zahb s k (wB b 64) (j+1)) ⟨rfl,rfl,rfl,rfl,rfl,cr,trivial⟩ ⟨(aD aZ),zae (k.map W),(aD aZ),zae ((wB b 64).map W),by rw[zilb,hX];exact⟨_,_,rfl,cr,_,_,rfl,cr,_,_,rfl,cr,_,_,rfl,cr,_,_,rfl,cr,_,_,rfl,cr,_,_,rfl,cr,_,_,rfl,cr,rfl⟩,trivial⟩⟩
 ·simp only[zb]at h
  obtain rfl:j=80:=by omega
  generalize hX:xN s k (wB b 64) 80=x
  refine Vloop.rounds 9 ?_
  repeat' ((conv=>whnf);first|refine Vrounds.step mixed Tab_ok ?_|refine zt rfl (zp ?_)|refine zu rfl (zq ?_)|refine Vadr.any (by decide) ?_|refine Vint.any (k:= .i64) ?_|refine Vint.wadd _ _ rfl rfl ?_|refine za rfl rfl ?_|refine aV ?_)
  subst hX
  exact cr
end
section
variable {P:Program} {T:TT} {B:Bs} {N:Nat} {S:St} {a:Act} {w:World} {k:Kp} {g:Env} {o:Oper} {Q:Exit->Act->World->Prop}
abbrev zs(m:Nat):List Value:=List.replicate m (Value.int .u8 0)
abbrev zR(m:Nat):List RV:=List.replicate m (.i .u8 0)
theorem znxb(w:World)(k:Kp)(m:Nat):RV.listAt w k (zR m) (zs m):=by
 rw[RV.listAt_iff]
 refine⟨by simp,λj f u hf hu=>?_⟩
 rw[List.getElem?_replicate]at hf hu
 split at hf
 ·rename_i h
  rw[if_pos h]at hu
  cases hf;cases hu
  exact⟨rfl,by simp[RV.at_]⟩
 ·cases hf
theorem zso{z:Array Value}(h:z= #[.int .u8 0]) (m:Nat):Builtin.zeroCells z m=(zs m).toArray:=by
 subst h
 apply Array.ext'
 simp only[Builtin.zeroCells,List.size_toArray,List.length_cons,List.length_nil,Nat.zero_add,Nat.mul_one,Nat.mod_one,Array.toList_map,Array.toList_range]
 apply List.ext_getElem
 ·simp
 ·intro i h1 h2
  simp
theorem zk3(w:World)(t tn ty e:TypeId)(i:TypeInfo)(z:Value)(kq kn:IntKind)(ht:P.underlying t=some (.slice e))(htn:P.underlying tn=some (.int kn))(hi:P.info? e=some i)(hz:i.zero=some z)(hsize:i.size=1)(hby:i.bytes=1)(hzl:z.cells= #[.int .u8 0])
  (g sLen sCap:Nat) (cur:Array Value) (hg:w.heap[g]?=some (.cells cur e (0,0))) (m:Nat) (hm:0<m) (hroom:sLen+m<=sCap) (hfit:sLen+m<=cur.size) (hmm:m<=140737488355328):
  (Builtin.append_ #[t,tn] ty #[.slice (some ⟨g,0,none⟩) sLen sCap, .int kq (m:Int)]).run P w=
   .ok (.slice (some ⟨g,0,none⟩) (sLen+m) sCap) (w.setRow g (cur.toList.take sLen++zs m++cur.toList.drop (sLen+m)).toArray):=by
 have hst:=run_storeCells_at P g sLen e (zs m) 0 cur w hg (by simpa using hfit) (λu hu=>by rw[List.eq_of_mem_replicate hu];rfl)
 simp only[Nat.add_zero,List.length_replicate]at hst
 have hk:m≠0:=by omega
 have hw:IntKind.i64.wrap (m:Int)=m:=by rw[IntKind.wrap_i64];omega
 have hneg: ¬((m:Int)<0):=by omega
 have h48i: ¬(281474976710656< (m:Int)):=by omega
 have hzc:=zso hzl m
 simp[Builtin.append_,run_underlying ht,run_underlying htn,sizeOf,typeInfo,zeroValue,hi,hz,hsize,hby,asInt,asIntOf,hw,hneg,h48i,hk,hroom,hzc,Addr.add_lit,hst]
theorem zws{t t' ty e:TypeId}{kn kq:IntKind}{i:TypeInfo}{z:Value}(ht:P.underlying t=some (.slice e))(hu:P.underlying t'=some (.int kn))(hi:P.info? e=some i)(hz:i.zero=some z)
  (hsize:i.size=1) (hby:i.bytes=1) (hzl:z.cells= #[.int .u8 0])
  {n:Nat} {cells:List RV} {pub:Bool} {u:Value} {ob:Option Nat} (hch:chAt w k e 1 n cells pub u ob) (m:Nat) (hm:0<m) (hbytes:n+m<=140737488355328):
  ∃xs b cap cur w',(Builtin.append_ #[t,t'] ty #[u, .int kq (m:Int)]).run P w= .ok (.slice (some ⟨b,0,none⟩) (n+m) cap) w'/\RV.listAt w k cells xs/\
   w'.heap[b]?=some (.cells cur e (0,0))/\n+m<=cap/\cap<=maxLen/\cap*1<=cur.size/\cur.toList.take ((n+m)*1)=xs++zs m/\w.grownBy w' ob/\(ob=some b\/b=w.heap.size)/\
   (∀b0,ob=some b0->(∃cur0,w.heap[b0]?=some (.cells cur0 e (0,0))/\cur0.toList.take (n*1)=xs)/\(b=b0\/b=w.heap.size/\w'.heap[b0]?=w.heap[b0]?)):=by
 obtain⟨hcl,hch⟩:=hch
 have hl:(zs m).length=m:=List.length_replicate
 have hzs:z.cells.size=1:=by rw[hzl];rfl
 have h63:n+m<=maxLen:=by simp only[maxLen];omega
 have fin: ∀(xs:List Value) (old:Nat),xs.length=n->
   (w.drew.alloc (.cells (xs.toArray++(zs m).toArray++Builtin.zeroCells z.cells (grownCap w (n+m) old e-(n+m))) e)).heap[w.heap.size]?=some (.cells (xs.toArray++(zs m).toArray++Builtin.zeroCells z.cells (grownCap w (n+m) old e-(n+m))) e (0,0))/\
   n+m<=grownCap w (n+m) old e/\grownCap w (n+m) old e<=maxLen/\(xs.toArray++(zs m).toArray++Builtin.zeroCells z.cells (grownCap w (n+m) old e-(n+m))).size=grownCap w (n+m) old e*1/\
   (xs.toArray++(zs m).toArray++Builtin.zeroCells z.cells (grownCap w (n+m) old e-(n+m))).toList.take ((n+m)*1)=xs++zs m/\
   ∀row,w.grownBy (w.drew.alloc (.cells (xs.toArray++(zs m).toArray++Builtin.zeroCells z.cells (grownCap w (n+m) old e-(n+m))) e)) row:=λxs old hx=>by
  have hge:=grownCap_ge w (n+m) old e
  refine⟨heap_alloc_new w.drew _,hge,grownCap_le_maxLen w (n+m) old e h63,?_,?_,λrow=>⟨rfl,rfl,rfl,by simp,λk hk _=>Below.heap_alloc w.drew _ k hk⟩⟩
  ·simp only[Array.size_append,List.size_toArray,size_zeroCells,hzs,hl,hx]
   omega
  ·simp only[Array.toList_append]
   rw[show(n+m)*1=(xs++zs m).length by rw[aL,hl,hx,Nat.mul_one]]
   exact List.take_left
 rcases hch with⟨rfl,⟨rfl,p,rfl⟩ |⟨hn0,_,b,o,rfl,hnm,hbl,hcell⟩⟩ |⟨b,cap,cur,rfl,rfl,hh,hnc,hcm,hcs,hkb,hlist⟩
 ·have hc0:cells=[]:=List.eq_nil_of_length_eq_zero (by simpa using hcl)
  subst hc0
  cases p with
  |none=>
   have hr:=Lib.run_append_nil_zeros (P:=P) w t t' ty e i z kq kn ht hu hi hz m hm (by omega) (by omega) (by rw[hby];omega)
   rw[zso hzl m]at hr
   obtain⟨f1,f2,f3,f4,f5,f6⟩:=fin [] 0 rfl
   simp only[Nat.zero_add,List.nil_append,Array.empty_append]at f1 f2 f3 f4 f5 f6⊢
   exact⟨[],w.heap.size,_,_,_,hr,by simp[RV.listAt],f1,f2,f3,Nat.le_of_eq f4.symm,f5,f6 _, .inr rfl,λb0 h=>by cases h⟩
  |some p=>
   have hr:=Lib.run_append_grow_zeros (P:=P) w t t' ty e i z kq kn ht hu hi hz (some p) 0 0 [] (run_firstCells_some (P:=P) w.drew i.size 0 p 0 0 [] (by simp) (by simp)) m hm (by omega) (by omega) (by omega) (by rw[hby];omega) (growslice_fits (by omega) (by rw[hby];omega))
   rw[zso hzl m]at hr
   obtain⟨f1,f2,f3,f4,f5,f6⟩:=fin [] 0 rfl
   exact⟨[],w.heap.size,_,_,_,hr,by simp[RV.listAt],f1,f2,f3,Nat.le_of_eq f4.symm,f5,f6 _, .inr rfl,λb0 h=>by cases h⟩
 ·obtain⟨xs,hlist,hxl,hcell⟩:=RV.cells_list cells o hcell
  have hr:=Lib.run_append_grow_zeros (P:=P) w t t' ty e i z kq kn ht hu hi hz (some ⟨b,o,none⟩) n n xs (run_firstCells_some (P:=P) w.drew i.size n ⟨b,o,none⟩ n n xs (by rw[hsize,hxl,hcl]) (by simpa using(λj v hj=>by rw[Addr.add_mid];exact hcell j v hj: ∀j v,xs[j]?=some v->w.cell? ((⟨b,o,none⟩:Addr).add j)=some v))) m hm (by omega) (by omega) (by omega) (by rw[hby];omega) (growslice_fits (by omega) (by rw[hby];omega))
  rw[zso hzl m]at hr
  obtain⟨f1,f2,f3,f4,f5,f6⟩:=fin xs n (by rw[hxl,hcl,Nat.mul_one])
  exact⟨xs,w.heap.size,_,_,_,hr,hlist,f1,f2,f3,Nat.le_of_eq f4.symm,f5,f6 _, .inr rfl,λb0 hb0=>by cases hb0⟩
 ·have hxl:(cur.toList.take (n*1)).length=n:=by rw[za2 hlist,hcl,Nat.mul_one]
  have hlt:b<w.heap.size:=(Array.getElem?_eq_some_iff.1 hh).1
  by_cases hfit:n+m<=cap
  ·have hr:=zk3 (P:=P) w t t' ty e i z kq kn ht hu hi hz hsize hby hzl b n cap cur hh m hm hfit (by omega) (by omega)
   refine⟨_,b,cap,_,_,hr,hlist,setRow_heap w b cur _ e (0,0) hh,hfit,hcm,?_,?_,⟨rfl,rfl,rfl,by simp[World.setRow],λx hx hne=>setRow_other w b x _ (λh=>hne (by rw[h]))⟩, .inl rfl,λb0 hb0=>?_⟩
   ·simp only[List.size_toArray,aL,List.length_take,hl,List.length_drop,Array.length_toList]
    omega
   ·rw[Nat.mul_one]at hxl⊢
    rw[Nat.mul_one]
    rw[show n+m=(cur.toList.take n++zs m).length by rw[aL,hxl,hl],List.toList_toArray]
    exact List.take_left
   ·cases hb0
    exact⟨⟨cur,hh,rfl⟩, .inl rfl⟩
  ·have hr:=Lib.run_append_grow_zeros (P:=P) w t t' ty e i z kq kn ht hu hi hz (some ⟨b,0,none⟩) n cap (cur.toList.take (n*1)) (run_firstCells_some (P:=P) w.drew i.size n ⟨b,0,none⟩ n cap (cur.toList.take (n*1)) (by rw[hsize,hxl,Nat.mul_one]) (by
    have hc: ∀j v,(cur.toList.take (n*1))[j]?=some v->w.cell? ((⟨b,0,none⟩:Addr).add j)=some v:=λj v hj=>by
     rw[Addr.add_mid,Nat.zero_add,cell_of_row w b j cur e (0,0) hh]
     rw[List.getElem?_take]at hj
     split at hj
     ·simpa using hj
     ·cases hj
    simpa using hc)) m hm (by omega) (by omega) (by omega) (by rw[hby];omega) (growslice_fits (by omega) (by rw[hby];omega))
   rw[zso hzl m]at hr
   obtain⟨f1,f2,f3,f4,f5,f6⟩:=fin (cur.toList.take (n*1)) cap hxl
   refine⟨_,w.heap.size,_,_,_,hr,hlist,f1,f2,f3,Nat.le_of_eq f4.symm,f5,f6 _, .inr rfl,λb0 hb0=>?_⟩
   cases hb0
   exact⟨⟨cur,hh,rfl⟩, .inr ⟨rfl,Below.heap_alloc w.drew _ b hlt⟩⟩
theorem Vstep.appZ{x y:Operand}{t t' e:TypeId}{ti te ts:TI}{kn kq:IntKind}{f:TF}{id:Option Nat}{n:Nat}{cells:List RV}{pub:Bool}{m:Nat}{K:St->Prop}(hT:TOk P T)
  (hop:o.op= .call {callee:= .builtin .append,args:= #[x,y],argTypes:= #[t,t']}) (hti:tget T t=some ti) (hk:ti.k= .slice e) (hte:tget T e=some te) (hke:te.sz=1/\te.bytes=1/\te.zero=[.int .u8 0]) (hts:tget T t'=some ts) (hks:ts.k= .int kn)
  (hx:opr S x=some f) (hl:lhsv S e 1 f=some (id,e,1,n,cells,pub)) (hy:opr S y=some (.r (.i kq (m:Int)))) (hm:0<m) (hlen:n+m<=140737488355328)
  (hK:newK (S.strike id) o.dst (.r .any) (some (.ch e 1 (n+m) (cells++zR m) pub)) K):Vstep P S o K:=by
 rw[zaw]at hK
 refine Vstep.one (S':=(S.strike id).mk_ o.dst (.ch e 1 (n+m) (cells++zR m) pub)) ?_ hK
 rintro B N a w k Q ⟨g,hs⟩ hd
 obtain⟨q,hq⟩:=hT.get hti
 obtain⟨d,hdd,hko,_⟩:=q.desc
 rw[hq,hk]at*
 simp only[KOk]at hko
 subst hko
 obtain⟨qe,hqe⟩:=hT.get hte
 obtain⟨i,hi,hsz,hby,z,hz,hzc⟩:=qe.info
 rw[hqe]at hi
 obtain⟨qs,hqs⟩:=hT.get hts
 obtain⟨ds,hds,hkos,_⟩:=qs.desc
 rw[hqs,hks]at*
 simp only[KOk]at hkos
 subst hkos
 have hy':=(zaf hs hy).2
 simp only[TF.at_,RV.at_]at hy'
 obtain⟨ob,hch,hid⟩:=zye hs hl (zaf hs hx).2
 have run: ∀{v:Value} {w':World},(Builtin.append_ #[t,t'] o.type #[a.eval x, .int kq (m:Int)]).run P w= .ok v w'->(execOp a.eval o).run P w= .ok (.value v) w':=λ{v w'} hr=>by
  simp[execOp,hop,resolve,invoke,builtin,hy',hr]
 have hzl:z.cells= #[.int .u8 0]:=by rw[<-Array.toArray_toList (xs:=z.cells),hzc,hke.2.2]
 obtain⟨xs,b,cap,cur,w',hrun,hxs,hh,h1,h2,h3,h4,hgr,hbb,hb0⟩:=zws (ty:=o.type) hdd hds hi hz (hsz.trans hke.1) (hby.trans hke.2.1) hzl hch m hm hlen
 obtain⟨k',hsat⟩:=zsp (o:=o) hs hd hch hid (znxb w k m) (by rw[List.length_replicate,Nat.mul_one]) hxs hh h1 h2 h3 h4 hgr hbb hb0
 exact zau (run hrun) ⟨k',hsat⟩
end
end Go.Proofs.YtkegaaonpekkgaaGreat.Sx
