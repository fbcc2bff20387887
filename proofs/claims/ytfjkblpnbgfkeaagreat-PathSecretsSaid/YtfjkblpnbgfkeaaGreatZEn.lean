import Derived.Test.YtfjkblpnbgfkeaaGreatZKv
import Derived.Test.YtfjkblpnbgfkeaaGreatZSxSt
import Derived.Test.YtfjkblpnbgfkeaaGreatZBase
namespace Go.Proofs.YtfjkblpnbgfkeaaGreat.Sx
open Go.RowKit
section
abbrev Str(s:ByteArray):RV:= .x (.string s)
abbrev sB(s:ByteArray):List UInt8:=s.data.toList
def keyB(k:List UInt8):List UInt8:=if 64<k.length then shaB k else k
def zeh(k:List UInt8)(w:UInt8):List UInt8:=(List.range 64).map λi=>(keyB k).getD i 0^^^w
def macB(k t:List UInt8):List UInt8:=shaB (zeh k 92++shaB (zeh k 54++t))
theorem zja(k:List UInt8)(w:UInt8):(zeh k w).length=64:=by simp[zeh]
theorem zei(k t:List UInt8):(macB k t).length=32:=zc2 _
theorem zzb(k:List UInt8):(keyB k).length<=64:=by
 unfold keyB
 split
 ·rw[zc2];omega
 ·omega
theorem ze2b(x y:UInt8):IntKind.u8.wrap (((BitVec.ofInt 8 (x.toNat:Int)^^^BitVec.ofInt 8 (y.toNat:Int)).toNat:Nat):Int)=(((x^^^y).toNat:Nat):Int):=by
 have e: ∀z:UInt8,BitVec.ofInt 8 (z.toNat:Int)=z.toBitVec:=λz=>by
  rw[BitVec.ofInt_natCast]
  simp
 rw[e,e]
 have h:=(x^^^y).toNat_lt
 have e2:(x.toBitVec^^^y.toBitVec).toNat=(x^^^y).toNat:=by simp
 rw[e2]
 generalize (x^^^y).toNat=z at h
 simp only[IntKind.wrap]
 simp[IntKind.bits,IntKind.signed]
 omega
theorem Vbits.xor8{a b:Int}{K:Int->Prop}(x y:UInt8)(ha:a=(x.toNat:Int))(hb:b=(y.toNat:Int))(hK:K (((x^^^y).toNat:Nat):Int)):Vbits .u8 .xor a b K:=by
 subst ha;subst hb
 exact⟨_,(ze2b x y).symm,hK⟩
def zdz(k:List UInt8)(w:UInt8)(i:Nat):List UInt8:=(List.range 64).map λj=>if j<i then k.getD j 0^^^w else k.getD j 0
theorem zk4(k:List UInt8)(w:UInt8)(i:Nat):(zdz k w i).length=64:=by simp[zdz]
theorem z7n(k:List UInt8)(w:UInt8):zdz (keyB k) w 64=zeh k w:=by
 unfold zdz zeh
 exact List.map_congr_left λj hj=>by rw[if_pos (List.mem_range.1 hj)]
theorem z7p(k:List UInt8)(w:UInt8){i:Nat}(hi:i<64):(zdz k w i)[i]'(by rw[zk4];exact hi)=k.getD i 0:=by simp[zdz]
theorem z7q(k:List UInt8)(w:UInt8){i:Nat}(hi:i<64):(zdz k w i).set i (k.getD i 0^^^w)=zdz k w (i+1):=by
 apply List.ext_getElem
 ·simp[zdz]
 ·intro j h1 h2
  simp only[zdz,List.getElem_set,List.getElem_map,List.getElem_range]
  by_cases h:i=j
  ·subst h;simp
  ·rw[if_neg h]
   by_cases h3:j<i
   ·rw[if_pos h3,if_pos (by omega)]
   ·rw[if_neg h3,if_neg (by omega)]
theorem zta(k:List UInt8)(w:UInt8)(hk:k.length<=64):(k.map U8).take (Nat.min k.length 64*1)++(List.replicate 64 (RV.i .u8 0)).drop (Nat.min k.length 64*1)=(zdz k w 0).map U8:=by
 have e:Nat.min k.length 64*1=k.length:=by rw[Nat.mul_one];exact Nat.min_eq_left hk
 rw[e]
 apply List.ext_getElem
 ·simp[zdz];omega
 ·intro j h1 h2
  simp only[List.getElem_append,List.length_take,List.length_map,Nat.min_self,List.getElem_take,List.getElem_map,List.getElem_drop,List.getElem_replicate,zdz,List.getElem_range]
  split
  ·rename_i h;simp[List.getD,h]
  ·rename_i h;simp[List.getD,List.getElem?_eq_none (Nat.le_of_not_lt h)]
theorem zc0{α:Type}{f:α->RV}{l:List α}{i:Nat}{x:α}(hi:i<l.length):zbb (l.map f) i [f x]=(l.set i x).map f:=by
 unfold zbb
 simp only[List.length_cons,List.length_nil,Nat.zero_add]
 rw[<-List.map_take,<-List.map_drop]
 have:l.set i x=l.take i++[x]++l.drop (i+1):=by rw[List.set_eq_take_append_cons_drop,if_pos hi];simp
 rw[this]
 simp
def zy5(k:List UInt8)(w:UInt8)(i:Nat):St:={F:=[(1, .r (U8 w)),(5, .own 0),(18, .r (I 64)),(19, .r (I i))],O:=[(0,some (.ch 5 1 64 ((zdz k w i).map U8) false))],nx:=1}
theorem z7o(k:List UInt8)(w:UInt8):some (Ow.ch 5 1 64 ((zdz (keyB k) w 64).map U8) true)=some (Ow.ch 5 1 (zeh k w).length ((zeh k w).map U8) true):=by rw[z7n,zja]
theorem zs64:(List.replicate ((64:Int).toNat) ([Value.int .u8 0].map ofC)).flatten=List.replicate 64 (RV.i .u8 0):=by simp[ofC]
theorem z3i(k:List UInt8)(w:UInt8)(hk:k.length<=1000000000):zab Tryz.prog 210 [bs k,U8 w] (bch (zeh k w)):=by
 refine zbo (T:=Tab) mixed Tab_ok Tryz.func210 rfl (by kernel_rfl) ?_
 have hkey:=zzb k
 refine zh (λh=>zp ?a) (λh=>zq ?b)
 case' a=>
  simp only[zb]at h
  have hx:shaB ([k].flatMap id)=keyB k:=by unfold keyB;rw[if_pos (by omega)];simp
  refine zw ?_
  refine ze (zuj [k] (by simp;omega)) ?_
  rw[hx]
  refine⟨rfl,by decide,by decide,by decide,_,_,rfl,zs64,Vpub.own ?_⟩
  refine Vstep.copy (id:=2) Tab_ok rfl rfl rfl rfl rfl rfl rfl rfl (zta (keyB k) w hkey) ?_
  refine zx (zy5 (keyB k) w) (λi=>i<=64) (λi=>64-i) 0 (by omega) (zac [(0,2)] rfl ⟨cr,rfl,cr,cr,trivial⟩ ⟨⟨rfl,rfl,rfl,rfl,zn _⟩,trivial⟩) ?_
 case' b=>
  simp only[zb]at h
  have hx:k=keyB k:=by unfold keyB;rw[if_neg (by omega)]
  refine⟨rfl,by decide,by decide,by decide,_,_,rfl,zs64,Vpub.own ?_⟩
  refine Vstep.copy (id:=0) (zs:=(zdz (keyB k) w 0).map U8) Tab_ok rfl rfl rfl rfl rfl rfl rfl rfl (by rw[<-hx];exact zta k w (by omega)) ?_
  refine zx (zy5 (keyB k) w) (λi=>i<=64) (λi=>64-i) 0 (by omega) (zac [(0,0)] rfl ⟨cr,rfl,cr,cr,trivial⟩ ⟨⟨rfl,rfl,rfl,rfl,zn _⟩,trivial⟩) ?_
 all_goals
  intro i hi
  refine zh (λh=>zp ?_) (λh=>zq ?_)
  ·simp only[zb]at h
   have hi':i<64:=by omega
   refine Vadr.mk' i rfl hi' ?_
   refine zg (f:=U8 ((keyB k).getD i 0)) (by rw[Nat.mul_one,List.getElem?_map,List.getElem?_eq_getElem (by rw[zk4];exact hi'),z7p _ _ hi'];rfl) ?_
   refine Vbits.xor8 _ _ rfl rfl ?_
   refine Vadr.mk' i rfl hi' ?_
   refine⟨by simp[zk4];omega,(zdz (keyB k) w (i+1)).map U8,?_,?_⟩
   ·rw[<-z7q _ _ hi',Nat.mul_one]
    exact zc0 (by rw[zk4];exact hi')
   refine zd (m:=((i+1:Nat):Int)) (by omega) (by omega) ?_
   exact⟨i+1,by omega,by omega,zac [(0,0)] rfl ⟨cr,rfl,cr,cr,trivial⟩ ⟨⟨rfl,rfl,rfl,rfl,zn _⟩,trivial⟩⟩
  ·simp only[zb]at h
   obtain rfl:i=64:=by omega
   refine⟨_,zbw (id:=0) rfl,?_⟩
   exact z7o k w
theorem z9f(key:List UInt8)(parts:List (List UInt8))(hk:key.length<=1000000000)(hp:(parts.flatMap id).length<=10000000000):zab Tryz.prog 141 [bs key,bss parts] (bch (macB key (parts.flatMap id))):=by
 refine zaa (T:=Tab) mixed Tab_ok Tryz.func141 rfl (by kernel_rfl) ?_
 have e1: ∀l:List UInt8,[l].flatMap id=l:=λl=>by simp
 have e2:[zeh key 54,parts.flatMap id].flatMap id=zeh key 54++parts.flatMap id:=by simp
 refine ze (z3i key 54 hk) ?_
 refine ze (zio parts (by omega)) ?_
 refine zw ?_
 refine ze (zio [zeh key 54,parts.flatMap id] (by rw[e2,List.length_append,zja];omega)) ?_
 refine zw ?_
 refine ze (zuj [[zeh key 54,parts.flatMap id].flatMap id] (by rw[e2,e1,List.length_append,zja];omega)) ?_
 refine ze (z3i key 92 hk) ?_
 refine zw ?_
 refine ze (zuj [zeh key 92,shaB ([[zeh key 54,parts.flatMap id].flatMap id].flatMap id)] (by simp[zja,zc2])) ?_
 exact zdu (by simp[macB])
end
section
def zfb(x:Fe):List UInt64:=[x.a,x.b,x.c,x.d,x.e]
def bitB(o:List UInt8)(v:UInt64)(at_ k:Nat):List UInt8:=o.set ((at_+k)/8) (o.getD ((at_+k)/8) 0|||shl8 (UInt8.ofNat (shrW v k&&&1).toNat) ((at_+k)%8))
def rowB(o:List UInt8)(v:UInt64)(at_:Nat):Nat->List UInt8
 |0=>o
 |k+1=>bitB (rowB o v at_ k) v at_ k
def allF(x:Fe):Nat->List UInt8
 |0=>List.replicate 32 0
 |i+1=>rowB (allF x i) ((zfb x).getD i 0) (i*51) 51
theorem zlq(o:List UInt8)(v:UInt64)(at_:Nat): ∀k,(rowB o v at_ k).length=o.length
 |0=>rfl
 |k+1=>by rw[rowB,bitB,List.length_set,zlq o v at_ k]
theorem zkp(x:Fe): ∀i,(allF x i).length=32
 |0=>by simp[allF]
 |i+1=>by rw[allF,zlq,zkp x i]
theorem zsp(x:Fe)(i:Nat):allF x (i+1)=rowB (allF x i) ((zfb x).getD i 0) (i*51) 51:=rfl
theorem ztu(o:List UInt8)(v:UInt64)(at_:Nat):rowB o v at_ 0=o:=rfl
theorem zsq(x:Fe):allF x 0=List.replicate 32 0:=rfl
attribute [irreducible] rowB allF zfb
def Fe.bytes(x:Fe):List UInt8:=allF x.least 5
theorem Fe.bytes_len(x:Fe):x.bytes.length=32:=zkp _ _
theorem Vquo.i64{a b:Int}{K:Int->Prop}(x y:Nat)(ha:a=(x:Int))(hb:b=(y:Int))(hy:0<y)(hx:x<9223372036854775808)(hK:K ((x/y:Nat):Int)):Vquo .i64 a b K:=by
 subst ha;subst hb
 refine⟨by omega,_,?_,hK⟩
 have h:=Nat.div_le_self x y
 rw[Int.tdiv_eq_ediv_of_nonneg (by omega),<-Int.natCast_ediv]
 generalize x/y=z at*
 exact wrap_i64 (by omega)
theorem zs32:(List.replicate ((32:Int).toNat) ([Value.int .u8 0].map ofC)).flatten=(List.replicate 32 (0:UInt8)).map U8:=by simp[ofC]
theorem zfz{l:List UInt8}{j:Nat}(h:j<l.length):(l.map U8)[j]?=some (U8 (l.getD j 0)):=by
 rw[List.getElem?_map,List.getElem?_eq_getElem h,List.getD_eq_getElem?_getD,List.getElem?_eq_getElem h]
 rfl
theorem zzd(x:Fe){i:Nat}(hi:i<5):(x.v.drop (i*1)).take 1=[W ((zfb x).getD i 0)]:=by
 have:i=0\/i=1\/i=2\/i=3\/i=4:=by omega
 unfold zfb
 rcases this with rfl |rfl |rfl |rfl |rfl<;>rfl
def outI(x:Fe)(i:Nat):St:={F:=[(3, .own 0),(12, .r (.ag x.v)),(13, .r (I i))],O:=[(0,some (.ch 5 1 32 ((allF x i).map U8) false))],nx:=1}
def inI(x:Fe)(i k:Nat):St:={F:=[(3, .own 0),(12, .r (.ag x.v)),(13, .r (I i)),(5, .r (W ((zfb x).getD i 0))),(6, .r (I ((i*51:Nat):Int))),(19, .r (I k))],O:=[(0,some (.ch 5 1 32 ((rowB (allF x i) ((zfb x).getD i 0) (i*51) k).map U8) false))],nx:=1}
set_option maxHeartbeats 1000000 in
theorem zry(x:Fe):zab Tryz.prog 46 [.ag x.v] (bch x.bytes):=by
 refine zbo (T:=Tab) mixed Tab_ok Tryz.func46 rfl (by kernel_rfl) ?_
 refine za rfl rfl ?_
 refine ze (zkb x) ?_
 refine⟨rfl,by decide,by decide,by decide,_,_,rfl,zs32,Vpub.own ?_⟩
 refine za rfl rfl ?_
 refine Vloop.mkx (outI x.least) (λi=>i<=5) (λi=>5-i) 0 (by omega) (zac [(0,1)] rfl ⟨rfl,cr,cr,trivial⟩ ⟨⟨rfl,rfl,rfl,rfl,by rw[zsq];exact zn _⟩,trivial⟩) ?_
 intro i hi
 refine zh (λh=>zp ?_) (λh=>zq ?_)
 ·simp only[zb]at h
  have hi':i<5:=by omega
  refine zm (by omega) (by simp;omega) (zzd x.least hi') ?_
  refine zd (m:=((i*51:Nat):Int)) (by omega) (by omega) ?_
  refine Vloop.mkx (inI x.least i) (λk=>k<=51) (λk=>51-k) 0 (by omega) (zac [(0,0)] rfl ⟨rfl,cr,cr,cr,cr,cr,trivial⟩ ⟨⟨rfl,rfl,rfl,rfl,by rw[ztu];exact zn _⟩,trivial⟩) ?_
  intro k hk
  refine zh (λh=>zp ?_) (λh=>zq ?_)
  ·simp only[zb]at h
   have hk':k<51:=by omega
   have hL:(rowB (allF x.least i) ((zfb x.least).getD i 0) (i*51) k).length=32:=by rw[zlq,zkp]
   refine Vdraw.mk' (by kernel_rfl) ?_
   refine zd (m:=((i*51+k:Nat):Int)) (by omega) (by omega) ?_
   refine Vquo.i64 (i*51+k) 8 rfl rfl (by omega) (by omega) ?_
   refine Vadr.mk' ((i*51+k)/8) rfl (by omega) ?_
   refine zg (f:=U8 ((rowB (allF x.least i) ((zfb x.least).getD i 0) (i*51) k).getD ((i*51+k)/8) 0)) (by rw[Nat.mul_one];exact zfz (by rw[hL];omega)) ?_
   refine Vshr.w _ k rfl rfl ?_
   refine Vbits.wand _ 1 rfl rfl ?_
   refine Vint.u8 _ rfl ?_
   refine zd (m:=((i*51+k:Nat):Int)) (by omega) (by omega) ?_
   refine Vrem.nat (i*51+k) 8 rfl rfl (by omega) ?_
   refine Vshl.b _ ((i*51+k)%8) rfl rfl (by omega) ?_
   refine Vbits.or8 _ _ rfl rfl ?_
   refine Vadr.mk' ((i*51+k)/8) rfl (by omega) ?_
   refine⟨by rw[List.length_map,hL];show(i*51+k)/8*1+1<=32;omega,(rowB (allF x.least i) ((zfb x.least).getD i 0) (i*51) (k+1)).map U8,?_,?_⟩
   ·rw[rowB,bitB,Nat.mul_one]
    exact zc0 (by rw[hL];omega)
   refine zd (m:=((k+1:Nat):Int)) (by omega) (by omega) ?_
   exact⟨k+1,by omega,by omega,zac [(0,0)] rfl ⟨rfl,cr,cr,cr,cr,cr,trivial⟩ ⟨⟨rfl,rfl,rfl,rfl,zn _⟩,trivial⟩⟩
  ·simp only[zb]at h
   obtain rfl:k=51:=by omega
   refine⟨_,zo _,?_⟩
   refine zd (m:=((i+1:Nat):Int)) (by omega) (by omega) ?_
   exact⟨i+1,by omega,by omega,zac [(0,0)] rfl ⟨rfl,cr,cr,trivial⟩ ⟨⟨rfl,rfl,rfl,rfl,by rw[zsp];exact zn _⟩,trivial⟩⟩
 ·simp only[zb]at h
  obtain rfl:i=5:=by omega
  refine⟨_,zo _,?_⟩
  refine⟨_,zbw (id:=0) rfl,?_⟩
  exact congrArg (λn=>some (Ow.ch 5 1 n (x.bytes.map U8) true)) x.bytes_len.symm
end
end Go.Proofs.YtfjkblpnbgfkeaaGreat.Sx
