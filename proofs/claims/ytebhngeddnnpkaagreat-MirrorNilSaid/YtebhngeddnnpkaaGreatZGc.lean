import Derived.Test.YtebhngeddnnpkaaGreatZFw
import Derived.Test.YtebhngeddnnpkaaGreatZEq
import Derived.Test.YtebhngeddnnpkaaGreatZEn
import Derived.Test.YtebhngeddnnpkaaGreatZSxU
import Derived.Test.YtebhngeddnnpkaaGreatZKg
import Derived.Test.YtebhngeddnnpkaaGreatZQa
import Derived.Laws.BytesArg
import Derived.Lib.Bytes
namespace Go.Proofs.YtebhngeddnnpkaaGreat.Sx
open Go.RowKit
section
def zib(y:Fe):Fe:=((y.mul y).sub one).mul ((dC.mul (y.mul y)).add one).inv
theorem z0e(y:Fe):((y.mul y).sub one).mul ((dC.mul (y.mul y)).add one).inv=zib y:=rfl
attribute [irreducible] zib
theorem z7e(y:Fe):zab Tryz.prog 252 [.ag y.v] (.r (.tu [.ag (zcl (zib y)).1.v, .b (zcl (zib y)).2])):=by
 refine zaa (T:=Tab) mixed Tab_ok Tryz.func252 rfl (by kernel_rfl) ?_
 refine za rfl rfl ?_
 refine ze (zc2 y) ?_
 refine Vdraw.mk' (by kernel_rfl) ?_
 refine za rfl rfl ?_
 refine ze zif ?_
 refine ze (zfo (y.mul y) one) ?_
 refine ze h_d ?_
 refine za rfl rfl ?_
 refine ze (zbe dC (y.mul y)) ?_
 refine ze zif ?_
 refine ze (zey (dC.mul (y.mul y)) one) ?_
 refine ze (zkh ((dC.mul (y.mul y)).add one)) ?_
 refine ze (zbe ((y.mul y).sub one) ((dC.mul (y.mul y)).add one).inv) ?_
 rw[z0e]
 refine ze (z7k (zib y)) ?_
 refine za rfl rfl ?_
 exact⟨_,rfl,cr⟩
def zh5:Fe:=(numF 4).mul (numF 5).inv
theorem zz5:(numF 4).mul (numF 5).inv=zh5:=rfl
attribute [irreducible] zh5
def baseP:Pt:=Pt.of (zcl (zib zh5)).1 zh5
theorem zt5:zab Tryz.prog 136 [] (.r (.ag baseP.v)):=by
 refine zaa (T:=Tab) mixed Tab_ok Tryz.func136 rfl (by kernel_rfl) ?_
 refine ze h_n4 ?_
 refine ze h_n5 ?_
 refine ze (zkh (numF 5)) ?_
 refine ze (zbe (numF 4) (numF 5).inv) ?_
 rw[zz5]
 refine za rfl rfl ?_
 refine ze (z7e zh5) ?_
 refine za rfl rfl ?_
 refine za rfl rfl ?_
 refine ze (z2o (zcl (zib zh5)).1 zh5) ?_
 refine za rfl rfl ?_
 exact cr
attribute [irreducible] baseP
end
section
theorem z9j{l:List UInt64}{j:Nat}(h:j<l.length):(l.map W)[j*1]?=some (W (l.getD j 0)):=by
 rw[Nat.mul_one,List.getElem?_map,List.getElem?_eq_getElem h,List.getD_eq_getElem?_getD,List.getElem?_eq_getElem h]
 rfl
def mL(a b w:UInt64):UInt64:=a*b+w+0
def mIn(a:UInt64)(y:S4)(w:List UInt64)(i:Nat):Nat->List UInt64×UInt64
 |0=>(w,0)
 |k+1=>
  let s:=mIn a y w i k
  let b:=y.l.getD k 0
  let v:=s.1.getD (i+k) 0
  (s.1.set (i+k) (mL a b v+s.2+0),(mulH a b+carW (a*b) v 0)+carW (mL a b v) s.2 0)
theorem zrk(a:UInt64)(y:S4)(w:List UInt64)(i:Nat):mIn a y w i 0=(w,0):=rfl
theorem zlt(a:UInt64)(y:S4)(w:List UInt64)(i k:Nat):mIn a y w i (k+1)=((mIn a y w i k).1.set (i+k) (mL a (y.l.getD k 0) ((mIn a y w i k).1.getD (i+k) 0)+(mIn a y w i k).2+0),(mulH a (y.l.getD k 0)+carW (a*(y.l.getD k 0)) ((mIn a y w i k).1.getD (i+k) 0) 0)+carW (mL a (y.l.getD k 0) ((mIn a y w i k).1.getD (i+k) 0)) (mIn a y w i k).2 0):=rfl
theorem zn8(a:UInt64)(y:S4)(w:List UInt64)(i:Nat): ∀k,(mIn a y w i k).1.length=w.length
 |0=>rfl
 |k+1=>by rw[zlt,List.length_set,zn8 a y w i k]
attribute [irreducible] mIn
def mOut(x y:S4):Nat->List UInt64
 |0=>List.replicate 8 0
 |i+1=>(mIn (x.l.getD i 0) y (mOut x y i) i 4).1.set (i+4) (mIn (x.l.getD i 0) y (mOut x y i) i 4).2
theorem zyv(x y:S4):mOut x y 0=List.replicate 8 0:=rfl
theorem zo4(x y:S4)(i:Nat):mOut x y (i+1)=(mIn (x.l.getD i 0) y (mOut x y i) i 4).1.set (i+4) (mIn (x.l.getD i 0) y (mOut x y i) i 4).2:=rfl
theorem zil(x y:S4): ∀i,(mOut x y i).length=8
 |0=>by simp[mOut]
 |i+1=>by rw[zo4,List.length_set,zn8,zil x y i]
attribute [irreducible] mOut
def S4.mul(x y:S4):S4:=zkq (mOut x y 4)
def smO1(x y:S4)(i:Nat):St:={F:=[(3, .own 1),(4, .own 2),(5, .own 3),(16, .r (.ag x.v)),(17, .r (I i))],O:=[(1,some y.bx),(2,some (S4.bx ⟨0,0,0,0⟩)),(3,some (.ch 23 1 8 ((mOut x y i).map W) false))],nx:=4}
def smI1(x y:S4)(i k:Nat):St:={F:=[(3, .own 1),(4, .own 2),(5, .own 3),(16, .r (.ag x.v)),(17, .r (I i)),(6, .r (I i)),(7, .r (W (x.l.getD i 0))),(8, .r (W (mIn (x.l.getD i 0) y (mOut x y i) i k).2)),(22, .r (.ag y.v)),(23, .r (I k))],O:=[(1,some y.bx),(2,some (S4.bx ⟨0,0,0,0⟩)),(3,some (.ch 23 1 8 ((mIn (x.l.getD i 0) y (mOut x y i) i k).1.map W) false))],nx:=4}
theorem zs8:(List.replicate ((8:Int).toNat) ([Value.int .u64 0].map ofC)).flatten=(List.replicate 8 (0:UInt64)).map W:=by simp[ofC]
set_option maxHeartbeats 4000000 in
theorem z4n(x y:S4):zab Tryz.prog 267 [.ag x.v, .ag y.v] (.r (.ag (x.mul y).v)):=by
 refine zaa (T:=Tab) mixed Tab_ok Tryz.func267 rfl (by kernel_rfl) ?_
 refine⟨rfl,by decide,by decide,by decide,_,_,rfl,zs8,Vpub.own ?_⟩
 refine za rfl rfl ?_
 refine zy (smO1 x y) (λi=>i<=4) (λi=>4-i) 0 (by omega) (zad [(1,1),(2,2),(3,3)] rfl ⟨rfl,rfl,rfl,cr,cr,trivial⟩ ⟨⟨_,_,rfl,cr,_,_,rfl,cr,_,_,rfl,cr,_,_,rfl,cr,rfl⟩,⟨_,_,rfl,cr,_,_,rfl,cr,_,_,rfl,cr,_,_,rfl,cr,rfl⟩,⟨rfl,rfl,rfl,rfl,by rw[zyv];exact zn _⟩,trivial⟩) ?_
 intro i hi
 refine zh (λh=>zp ?_) (λh=>zq ?_)
 ·simp only[zb]at h
  have hi':i<4:=by omega
  refine zm (by omega) (by omega) (zv0 (l:=x.l) rfl (by show i<4;omega)) ?_
  refine za rfl rfl ?_
  refine zy (smI1 x y i) (λk=>k<=4) (λk=>4-k) 0 (by omega) (zad [(1,1),(2,2),(3,3)] rfl ⟨rfl,rfl,rfl,cr,cr,cr,cr,by rw[zrk];exact cr,cr,cr,trivial⟩ ⟨⟨_,_,rfl,cr,_,_,rfl,cr,_,_,rfl,cr,_,_,rfl,cr,rfl⟩,⟨_,_,rfl,cr,_,_,rfl,cr,_,_,rfl,cr,_,_,rfl,cr,rfl⟩,⟨rfl,rfl,rfl,rfl,by rw[zrk];exact zn _⟩,trivial⟩) ?_
  intro k hk
  have hL:(mIn (x.l.getD i 0) y (mOut x y i) i k).1.length=8:=by rw[zn8,zil]
  refine zh (λh=>zp ?_) (λh=>zq ?_)
  ·simp only[zb]at h
   have hk':k<4:=by omega
   refine zm (by omega) (by omega) (zv0 (l:=y.l) rfl (by show k<4;omega)) ?_
   refine ze (zn5 (x.l.getD i 0) (y.l.getD k 0)) ?_
   refine zd (m:=((i+k:Nat):Int)) (by omega) (by omega) ?_
   refine Vadr.mk' (i+k) rfl (by omega) ?_
   refine zg (z9j (by rw[hL];omega)) ?_
   refine Vcall.ext (zep (x.l.getD i 0*y.l.getD k 0) _ 0 (by decide)) ?_
   refine Vint.wadd _ _ rfl rfl ?_
   refine Vcall.ext (zep (mL (x.l.getD i 0) (y.l.getD k 0) ((mIn (x.l.getD i 0) y (mOut x y i) i k).1.getD (i+k) 0)) (mIn (x.l.getD i 0) y (mOut x y i) i k).2 0 (by decide)) ?_
   refine zd (m:=((i+k:Nat):Int)) (by omega) (by omega) ?_
   refine Vint.wadd _ _ rfl rfl ?_
   refine Vadr.mk' (i+k) rfl (by omega) ?_
   refine⟨by rw[List.length_map,hL];show(i+k)*1+1<=8;omega,(mIn (x.l.getD i 0) y (mOut x y i) i (k+1)).1.map W,?_,?_⟩
   ·rw[zlt,Nat.mul_one]
    exact zcs (by rw[hL];omega)
   refine zd (m:=((k+1:Nat):Int)) (by omega) (by omega) ?_
   exact⟨k+1,by omega,by omega,zad [(1,1),(2,2),(3,3)] rfl ⟨rfl,rfl,rfl,cr,cr,cr,cr,by rw[zlt];exact cr,cr,cr,trivial⟩ ⟨⟨_,_,rfl,cr,_,_,rfl,cr,_,_,rfl,cr,_,_,rfl,cr,rfl⟩,⟨_,_,rfl,cr,_,_,rfl,cr,_,_,rfl,cr,_,_,rfl,cr,rfl⟩,⟨rfl,rfl,rfl,rfl,zn _⟩,trivial⟩⟩
  ·simp only[zb]at h
   obtain rfl:k=4:=by omega
   refine zd (m:=((i+4:Nat):Int)) (by omega) (by omega) ?_
   refine Vadr.mk' (i+4) rfl (by omega) ?_
   refine⟨by rw[List.length_map,hL];show(i+4)*1+1<=8;omega,(mOut x y (i+1)).map W,?_,?_⟩
   ·rw[zo4,Nat.mul_one]
    exact zcs (by rw[hL];omega)
   refine zd (m:=((i+1:Nat):Int)) (by omega) (by omega) ?_
   exact⟨i+1,by omega,by omega,zad [(1,1),(2,2),(3,3)] rfl ⟨rfl,rfl,rfl,cr,cr,trivial⟩ ⟨⟨_,_,rfl,cr,_,_,rfl,cr,_,_,rfl,cr,_,_,rfl,cr,rfl⟩,⟨_,_,rfl,cr,_,_,rfl,cr,_,_,rfl,cr,_,_,rfl,cr,rfl⟩,⟨rfl,rfl,rfl,rfl,zn _⟩,trivial⟩⟩
 ·simp only[zb]at h
  obtain rfl:i=4:=by omega
  have hrd:=zq7 (mOut x y 4) (by rw[zil];omega)
  rw[<-zz0 _ _ (zil x y 4)]at hrd
  refine Vstep.sub (zbd (id:=3) rfl) (Vstep.val Tab_ok (ze hrd ?_))
  refine za rfl rfl ?_
  exact cr
end
section
section
variable {P:Program} {T:TT} {S:St}
theorem zwq{id t n:Nat}(vs:List RV)(hf:fget S.F t=some (.cut id 0 n))(ho:oget S.O id=some (.box (vs.map .r)))(hn:vs.length=n):Sub S ⟨(t, .r (.sl 1 n vs))::S.F,(id,none)::S.O,S.nx⟩:=by
 rintro B N a w k ⟨g,hs⟩
 obtain⟨b,k',hg,hle,hb,hc,h⟩:=hs.pub ho
 have hv:=(hs.facts t _ hf).2
 simp only[TF.at_]at hv
 obtain⟨b',c,e,hv,h1,h2⟩:=hv
 rw[hg]at e
 cases e
 refine⟨k',g,h.size,h.defers,h.keep,h.kk,λt' f hf'=>?_,h.owns,h.apart⟩
 rcases zav hf' with⟨rfl,rfl⟩ |⟨_,hf'⟩
 ·refine⟨trivial,?_⟩
  simp only[TF.at_,RV.at_]
  exact⟨_,c,hv,h1,h2,by rw[Nat.mul_one];exact hn,λ_=>⟨b,0,rfl,hb,hc⟩⟩
 ·exact h.facts t' f hf'
theorem Vcode.sub(hm:P.follows .mixedOrders=true)(hT:TOk P T){c:Code}{S':St}{Q:Exit->St->Prop}(hs:Sub S S')(h:vcg P T c S' Q):Vcode P c S Q:=
 ⟨λB N a w k Q' h0 hd hQ=>by
  obtain⟨k',h1⟩:=hs B N a w k h0
  exact zao hm hT c S' Q h B N a w k' Q' h1 hd hQ⟩
theorem Vstep.actsNew{o:Oper}{l:List RV}{f:FuncId}{args:List TF}{n:Nat}{K:St->Prop}(hA:Acts P f 0 [] args [] 1 [(0, .box (l.map .r))] (.cut 0 0 n))(hcall:Handed P S o [] f args)
  (hK:newK ⟨S.F,(S.nx,some (.box (l.map .r)))::S.O,S.nx+1⟩ o.dst (.cut S.nx 0 n) none K):Vstep P S o K:=by
 refine zj [] [] (λ_ _=>hA) hcall rfl trivial trivial ?_
 rw[zi7]
 rw[zar]at hK
 have e:(l.map TF.r).map (zdj (ren [] [] S.nx))=l.map TF.r:=by
  rw[List.map_map]
  exact List.map_congr_left λx _=>rfl
 have e2:zi8 [] [] S 1 [(0, .box (l.map .r))] (.cut 0 0 n) o.dst=St.new ⟨S.F,(S.nx,some (.box (l.map .r)))::S.O,S.nx+1⟩ o.dst (.cut S.nx 0 n) none:=by
  show St.put ⟨S.F,(S.nx,some (.box ((l.map TF.r).map (zdj (ren [] [] S.nx)))))::S.O,S.nx+1⟩ o.dst (.cut S.nx 0 n)=_
  rw[e]
  rfl
 rw[e2]
 exact hK
end
set_option maxRecDepth 100000 in
theorem z4g(ls:List (List UInt8))(hl:(ls.flatMap id).length<=10000000000):Acts Tryz.prog 265 0 [] [.r (bss ls)] [] 1 [(0,boxB (zcy ls))] (.cut 0 0 64):=by
 refine zbc (T:=Tab) mixed Tab_ok Tryz.func265 rfl (by kernel_rfl) rfl trivial ?_
 refine ze (zgu ls (by omega)) ?_
 refine ze (zt8 (ls.flatMap id) hl) ?_
 (conv=>whnf)
 generalize hq:(za5 _&&_)=q
 obtain rfl:=hq.symm.trans (zma (l:=(zcy ls).map U8) 64 (by rw[List.length_map,zb1]) rfl)
 clear hq
 refine zgy (by rw[List.length_map,List.length_map];show(List.replicate 64 (Value.int .u8 0)).length=_;rw[List.length_replicate];exact(zb1 ls).symm) ?_
 refine Vstep.val Tab_ok (Vcutn.mk' 0 64 rfl rfl (by decide) (by decide) ?_)
 exact za9 (.inl rfl) [(0,1)] [(2, .cut 0 0 64)] [] (by have h:=zd8 ((zcy ls).map U8) 1;simp only[stOk,lift,boxB,List.map_cons,List.map_nil,List.append_nil,List.all_cons,List.all_nil,zdy,h];rfl) ⟨⟨rfl,rfl,rfl⟩,trivial⟩ ⟨zae _,trivial⟩ trivial rfl
theorem zxr{l:List UInt8}{j:Nat}(h:j<l.length):lget ((l.map U8).map TF.r) (0+j*1)=some (TF.r (U8 (l.getD j 0))):=by
 rw[zat,Nat.zero_add,Nat.mul_one]
 exact zt1 h
theorem zqn{x:UInt8}{l:List UInt8}{j:Nat}(h:j<l.length):(za5 (U8 x)&&(Nat.beq (cellsOf (U8 x)).length 1&&Nat.ble (0+j*1+1) ((l.map U8).map TF.r).length))=true:=by
 rw[Nat.zero_add]
 exact ztq h
theorem zpa{l:List UInt8}{j:Nat}{x:UInt8}{K:List TF->Prop}(h:j<l.length)(hK:K (((l.set j x).map U8).map TF.r)):putK ((l.map U8).map TF.r) (0+j*1) [TF.r (U8 x)] K:=by
 rw[Nat.zero_add]
 exact zr5 h hK
theorem z2k(l:List UInt8)(n:Nat)(h:l.length=n):RV.sl 1 n (l.map U8)=bs l:=by rw[<-h];rfl
def zfp(h:List UInt8):List UInt8:=h.set 0 (h.getD 0 0&&& ~~~7)
def zd2(h:List UInt8):List UInt8:=(zfp h).set 31 (((zfp h).getD 31 0&&&63)|||64)
theorem zyj(h:List UInt8):(zfp h).length=h.length:=by simp[zfp]
theorem zox(h:List UInt8):(zd2 h).length=h.length:=by simp[zd2,zfp]
def secS(seed:List UInt8):S4:=scOf ((zd2 (zcy [seed])).take 32)
def secB(seed:List UInt8):List UInt8:=(zd2 (zcy [seed])).drop 32
set_option maxHeartbeats 1000000 in
theorem zq1(seed:List UInt8)(hs:seed.length<=1000000000):zab Tryz.prog 260 [bs seed] (.r (.tu [.ag (secS seed).v,bs (secB seed)])):=by
 refine zaa (T:=Tab) mixed Tab_ok Tryz.func260 rfl (by kernel_rfl) ?_
 refine Vpub.own ?_
 refine Vstep.sub (zbd (id:=1) rfl) (Vstep.actsNew (z4g [seed] (by simp;omega)) (zi rfl ⟨_,_,rfl,cr,rfl⟩) ?_)
 have hh:secS seed=scOf ((zd2 (zcy [seed])).take 32):=rfl
 have hb:secB seed=(zd2 (zcy [seed])).drop 32:=rfl
 have hl:=zb1 [seed]
 rw[hh,hb]
 generalize zcy [seed]=h at*
 have hl0:(zfp h).length=64:=by rw[zyj,hl]
 have hlB:(zd2 h).length=64:=by rw[zox,hl]
 refine Vadr.mk' 0 rfl (by decide) ?_
 (conv=>whnf)
 generalize hq:lget _ _=q
 obtain rfl:=hq.symm.trans (zxr (l:=h) (j:=0) (by omega))
 clear hq
 refine Vbits.andn8 _ 7 rfl rfl ?_
 refine Vadr.mk' 0 rfl (by decide) ?_
 (conv=>whnf)
 generalize hq:(za5 _&&_)=q
 obtain rfl:=hq.symm.trans (zqn (x:=h.getD 0 0&&& ~~~7) (l:=h) (j:=0) (by omega))
 clear hq
 refine zpa (l:=h) (j:=0) (by omega) ?_
 refine Vadr.mk' 31 rfl (by decide) ?_
 (conv=>whnf)
 generalize hq:lget _ _=q
 obtain rfl:=hq.symm.trans (zxr (l:=zfp h) (j:=31) (by omega))
 clear hq
 refine Vbits.and8 _ 63 rfl rfl ?_
 refine Vbits.or8 _ 64 rfl rfl ?_
 refine Vadr.mk' 31 rfl (by decide) ?_
 (conv=>whnf)
 generalize hq:(za5 _&&_)=q
 obtain rfl:=hq.symm.trans (zqn (x:=((zfp h).getD 31 0&&&63)|||64) (l:=zfp h) (j:=31) (by omega))
 clear hq
 refine zpa (l:=zfp h) (j:=31) (by omega) ?_
 refine Vdraw.code (Vcode.sub mixed Tab_ok (zwq (t:=4) (n:=64) ((zd2 h).map U8) rfl rfl (by rw[List.length_map,hlB])) ?_)
 refine Vdraw.mk' (by kernel_rfl) ?_
 have ht:((zd2 h).take 32).length=32:=by rw[List.length_take,hlB];rfl
 have hd:((zd2 h).drop 32).length=32:=by rw[List.length_drop,hlB]
 have hsc:=zra ((zd2 h).take 32) (by omega)
 rw[<-z2k _ _ ht]at hsc
 rw[<-z2k _ _ hd]
 refine⟨by decide,by decide,by decide,32,((zd2 h).take 32).map U8,rfl,by rw[List.map_take];rfl,?_⟩
 refine ze hsc ?_
 refine⟨by decide,by decide,by decide,32,((zd2 h).drop 32).map U8,rfl,by rw[List.map_drop];exact List.take_of_length_le (by rw[List.length_drop,List.length_map,hlB];decide),?_⟩
 refine za rfl rfl ?_
 exact⟨_,rfl,cr⟩
end
section
theorem zyh(seed:List UInt8)(hs:seed.length=32):zab Tryz.prog 138 [bs seed] (.r (.ag (secS seed).v)):=by
 refine zaa (T:=Tab) mixed Tab_ok Tryz.func138 rfl (by kernel_rfl) ?_
 refine zh (λh=>?_) (λh=>zq ?_)
 ·simp only[zb]at h
  exact absurd hs (by omega)
 refine ze (zq1 seed (by omega)) ?_
 refine za rfl rfl ?_
 refine za rfl rfl ?_
 exact cr
def pubS(seed:List UInt8):List UInt8:=(mulP baseP (secS seed) 253).bytes
theorem zr3(seed:List UInt8):(pubS seed).length=32:=Pt.bytes_len _
theorem zov(seed:List UInt8)(hs:seed.length=32):zab Tryz.prog 59 [bs seed] (.r (.tu [bs (pubS seed), .i .u8 0])):=by
 refine zaa (T:=Tab) mixed Tab_ok Tryz.func59 rfl (by kernel_rfl) ?_
 refine zh (λh=>?_) (λh=>zq ?_)
 ·simp only[zb]at h
  exact absurd hs (by omega)
 refine ze zt5 ?_
 refine ze (zyh seed hs) ?_
 refine ze (zya baseP (secS seed)) ?_
 refine ze (zq6 (mulP baseP (secS seed) 253)) ?_
 exact⟨_,rfl,cr⟩
end
section
def sigR(seed text:List UInt8):S4:=scOf (zcy [secB seed,text])
def sigP(seed text:List UInt8):List UInt8:=(mulP baseP (sigR seed text) 253).bytes
def sigK(seed text:List UInt8):S4:=scOf (zcy [sigP seed text,pubS seed,text])
def sigB(seed text:List UInt8):List UInt8:=sigP seed text++((sigR seed text).sum ((sigK seed text).mul (secS seed))).once.bytes
theorem zsg(seed text:List UInt8):(sigP seed text).length=32:=Pt.bytes_len _
theorem z13(seed text:List UInt8):(sigB seed text).length=64:=by rw[sigB,List.length_append,zsg,S4.bytes_len]
theorem z12(seed:List UInt8):(secB seed).length=32:=by rw[secB,List.length_drop,zox,zb1]
theorem zvb(a b:List UInt8):[a,b].flatMap id=a++b:=by simp
theorem z9i(a b c:List UInt8):[a,b,c].flatMap id=a++b++c:=by simp
set_option maxHeartbeats 1000000 in
theorem zyf(seed text P B L1 Q L2 R1:List UInt8)(s r k m z:S4)(M:Pt)(hs:seed.length=32)(ht:text.length<=1000000000)(hP:P.length=32)(hB:B.length=32)(hQ:Q.length=32)(hR:R1.length=32)(hL1:L1.length=64)(hL2:L2.length=64)
  (c1:zab Tryz.prog 59 [bs seed] (.r (.tu [bs P, .i .u8 0])))
  (c2:zab Tryz.prog 260 [bs seed] (.r (.tu [.ag s.v,bs B])))
  (c3:zab Tryz.prog 265 [bss [B,text]] (.r (bs L1)))
  (c4:zab Tryz.prog 264 [bs L1] (.r (.ag r.v)))
  (c6: ∀b:Pt,b=baseP->zab Tryz.prog 137 [.ag b.v, .ag r.v] (.r (.ag M.v)))
  (c7:zab Tryz.prog 139 [.ag M.v] (bch Q))
  (c8:zab Tryz.prog 265 [bss [Q,P,text]] (.r (bs L2)))
  (c9:zab Tryz.prog 264 [bs L2] (.r (.ag k.v)))
  (c10:zab Tryz.prog 267 [.ag k.v, .ag s.v] (.r (.ag m.v)))
  (c11:zab Tryz.prog 266 [.ag r.v, .ag m.v] (.r (.ag z.v)))
  (c12:zab Tryz.prog 268 [.ag z.v] (bch R1)):
  zab Tryz.prog 146 [bs seed,bs text] (.r (.tu [bs (Q++R1), .i .u8 0])):=by
 refine zaa (T:=Tab) mixed Tab_ok Tryz.func146 rfl (by kernel_rfl) ?_
 refine ze c1 ?_
 refine zu rfl (zq ?_)
 refine ze c2 ?_
 refine zw ?_
 refine ze c3 ?_
 refine ze c4 ?_
 refine Vdraw.mk' (by kernel_rfl) ?_
 obtain⟨b,hb⟩: ∃b,b=baseP:=⟨_,rfl⟩
 have c5:=zt5
 rw[<-hb]at c5
 refine ze c5 ?_
 refine za rfl rfl ?_
 refine ze (c6 b hb) ?_
 refine ze c7 ?_
 refine zw ?_
 refine ze c8 ?_
 refine ze c9 ?_
 refine Vdraw.mk' (by kernel_rfl) ?_
 refine za rfl rfl ?_
 refine za rfl rfl ?_
 refine za rfl rfl ?_
 refine ze c10 ?_
 refine ze c11 ?_
 refine ze c12 ?_
 refine zw ?_
 refine ze (zgu [Q,R1] (by rw[zvb,List.length_append];omega)) ?_
 exact⟨_,rfl,zf (by rw[zvb];rfl)⟩
theorem z7n(seed text:List UInt8)(hs:seed.length=32)(ht:text.length<=1000000000):zab Tryz.prog 146 [bs seed,bs text] (.r (.tu [bs (sigB seed text), .i .u8 0])):=by
 have h1:=z12 seed
 have h2:=zsg seed text
 have h3:=zr3 seed
 exact zyf seed text (pubS seed) (secB seed) (zcy [secB seed,text]) (sigP seed text) (zcy [sigP seed text,pubS seed,text]) _ (secS seed) (sigR seed text) (sigK seed text) ((sigK seed text).mul (secS seed)) _ (mulP baseP (sigR seed text) 253) hs ht h3 h1 h2 (S4.bytes_len _) (zb1 _) (zb1 _)
  (zov seed hs) (zq1 seed (by omega)) (zxx [secB seed,text] (by rw[zvb,List.length_append];omega)) (zra _ (by rw[zb1];omega)) (λb hb=>by rw[hb];exact zya baseP (sigR seed text)) (zq6 _)
  (zxx [sigP seed text,pubS seed,text] (by rw[z9i,List.length_append,List.length_append];omega)) (zra _ (by rw[zb1];omega)) (z4n _ _) (z4l _ _) (zye _)
theorem zpt(seed:List UInt8)(hs:seed.length≠32):zab Tryz.prog 59 [bs seed] (.r (.tu [bs [], .i .u8 1])):=by
 refine zaa (T:=Tab) mixed Tab_ok Tryz.func59 rfl (by kernel_rfl) ?_
 refine zt (by simp only[zb];omega) (zp ?_)
 exact⟨_,rfl,Cv.tu (zk (Cv.nil 1) (zn _))⟩
theorem zvw(seed text:List UInt8)(hs:seed.length≠32):zab Tryz.prog 146 [bs seed,bs text] (.r (.tu [bs [], .i .u8 1])):=by
 refine zaa (T:=Tab) mixed Tab_ok Tryz.func146 rfl (by kernel_rfl) ?_
 refine ze (zpt seed hs) ?_
 refine zt rfl (zp ?_)
 exact⟨_,rfl,Cv.tu (zk (Cv.nil 1) (zn _))⟩
end
section
def exp1(s info:List UInt8)(n:Nat):List UInt8:=(macB s (info++[1])).take n
theorem zlk(s info:List UInt8){n:Nat}(hn:n<=32):(exp1 s info n).length=n:=by
 unfold exp1
 rw[List.length_take,zdi]
 omega
def mlsB:List UInt8:=[77,76,83,32,49,46,48,32]
def labB(s label ctx:List UInt8)(n:Nat):List UInt8:=exp1 s (beB 2 n++vecB (mlsB++label)++vecB ctx) n
theorem Cv.sl{sz n:Nat}{cs ds:List RV}(h:Cvs cs ds):Cv (.sl sz n cs) (.sl sz n ds):=λw k v hv=>by
 simp only[RV.at_]at hv⊢
 obtain⟨a,c,e,h1,h2,h3,h4⟩:=hv
 exact⟨a,c,e,h1,h2,by rw[h.length];exact h3,λhn=>by obtain⟨b,o,ea,hb,hc⟩:=h4 hn;exact⟨b,o,ea,hb,h.cells hc⟩⟩
theorem zor(s info:List UInt8)(n:Nat)(hn:1<=n/\n<=32)(hs:s.length<=1000000000)(hi:info.length<=1000000000):zab Tryz.prog 245 [bs s,bs info,I n] (.r (.tu [bs (exp1 s info n),Er 0])):=by
 refine zaa (T:=Tab) mixed Tab_ok Tryz.func245 rfl (by kernel_rfl) ?_
 have hm:=zdi s (info++[1])
 refine Vcode.scope mixed Tab_ok 0 (λ_:Unit=>{F:=[(0, .r (bs s)),(1, .r (bs info)),(2, .r (I n)),(8, .own 0)],O:=[(0,some (.ch 5 1 32 ((macB s (info++[1])).map U8) true))],nx:=1}) (λ_=>True) (λ_=>0) rfl ?_ ?_
 ·refine zu (decide_eq_false (by omega)) ?_
  refine zu (decide_eq_false (by omega)) (zq ?_)
  refine zt (decide_eq_true (by omega)) (zp ?_)
  refine Vint.u8 1 rfl ?_
  refine zw ?_
  refine zw ?_
  refine Vcall.mk' (zvk s [[],info,[1]] hs (by simp;omega)) (zk (cr) (zk (Cv.sl (zk (Cv.nil _) (zn _))) Cvs.nil)) ?_
  refine Vapp.mk' (j:=32) (zs:=(macB s (info++[1])).map U8) (by simp[maxLen,zdi]) (by simp[zdi]) (by simp[zdi]) (by simp) ?_
  exact⟨(),trivial,zad [(0,3)] rfl ⟨cr,cr,cr,rfl,trivial⟩ ⟨⟨rfl,rfl,rfl,rfl,zn _⟩,trivial⟩⟩
 ·intro _ _
  refine zu (decide_eq_false (by omega)) (zq ?_)
  refine⟨by omega,by omega,by omega,n,(exp1 s info n).map U8,by omega,?_,?_⟩
  ·unfold exp1;rw[List.map_take];simp
  ·refine⟨_,rfl,zf ?_⟩
   simp only[bs,zlk s info hn.2]
   rfl
theorem zrt(s:ByteArray):((⟨#[77,76,83,32,49,46,48,32]⟩:ByteArray)++s).data.toList=mlsB++s.data.toList:=by simp[mlsB]
theorem ztp(s t:ByteArray):(s++t).size=s.size+t.size:=by simp
theorem zqv(s:List UInt8)(label:ByteArray)(ctx:List UInt8)(n:Nat)(hn:1<=n/\n<=32)(hs:s.length<=1000000000)(hl:label.size<=1048576)(hc:ctx.length<=1048576):
  zab Tryz.prog 132 [bs s,Str label,bs ctx,I n] (.r (.tu [bs (labB s (sB label) ctx n),Er 0])):=by
 refine zaa (T:=Tab) mixed Tab_ok Tryz.func132 rfl (by kernel_rfl) ?_
 refine zu (decide_eq_false (by omega)) ?_
 refine zu (decide_eq_false (by omega)) (zq ?_)
 refine zu (decide_eq_false (by omega)) ?_
 refine zu (decide_eq_false (by omega)) (zq ?_)
 refine Vint.u64 n rfl (by omega) ?_
 refine Vcall.mk' (zdz [] 2 n (by simp) (.inr (.inl rfl))) (zk (Cv.nil _) (zn _)) ?_
 have hd:=zrt label
 have hsz:label.data.toList.length=label.size:=rfl
 have hml:mlsB.length=8:=rfl
 refine⟨by show 8+label.size<=_;omega,?_⟩
 refine⟨by rw[ztp];show 8+label.size<=_;omega,?_⟩
 have hb:(beB 2 n).length=2:=zam 2 n
 refine ze (za7 ([]++beB 2 n) ((⟨#[77,76,83,32,49,46,48,32]⟩:ByteArray)++label).data.toList (by simp[hb]) (by rw[hd,List.length_append];omega)) ?_
 rw[hd]
 have hv:=zaj (mlsB++label.data.toList)
 have hv2:=zaj ctx
 rw[List.length_append]at hv
 refine ze (za7 ([]++beB 2 n++vecB (mlsB++label.data.toList)) ctx (by simp only[List.length_append,List.length_nil,hb];omega) (by omega)) ?_
 refine ze (zor s ([]++beB 2 n++vecB (mlsB++label.data.toList)++vecB ctx) n hn hs (by simp only[List.length_append,List.length_nil,hb];omega)) ?_
 exact⟨_,rfl,cr⟩
theorem zff(s:List UInt8)(label:ByteArray)(hs:s.length<=1000000000)(hl:label.size<=1048576):zab Tryz.prog 55 [bs s,Str label] (.r (bs (labB s (sB label) [] 32))):=by
 refine zaa (T:=Tab) mixed Tab_ok Tryz.func55 rfl (by kernel_rfl) ?_
 refine Vcall.mk' (zqv s label [] 32 (by omega) hs hl (by simp)) (zk (cr) (zk (cr) (zk (Cv.nil _) (zn _)))) ?_
 exact cr
end
section
def zku(label text:List UInt8):List UInt8:=vecB (mlsB++label)++vecB text
theorem zmt(label:ByteArray)(text:List UInt8)(hl:label.size<=1048576)(ht:text.length<=1000000000):zab Tryz.prog 147 [Str label,bs text] (bch (zku (sB label) text)):=by
 refine zaa (T:=Tab) mixed Tab_ok Tryz.func147 rfl (by kernel_rfl) ?_
 have hd:=zrt label
 have hsz:label.data.toList.length=label.size:=rfl
 have hml:mlsB.length=8:=rfl
 refine⟨by show 8+label.size<=_;omega,?_⟩
 refine⟨by rw[ztp];show 8+label.size<=_;omega,?_⟩
 refine Vcall.mk' (za7 [] ((⟨#[77,76,83,32,49,46,48,32]⟩:ByteArray)++label).data.toList (by simp) (by rw[hd,List.length_append];omega)) (zk (Cv.nil _) (zn _)) ?_
 rw[hd]
 have hv:=zaj (mlsB++label.data.toList)
 rw[List.length_append]at hv
 refine ze (za7 ([]++vecB (mlsB++label.data.toList)) text (by simp only[List.length_append,List.length_nil];omega) (by omega)) ?_
 exact zde (by simp[zku,sB])
def zqb(seed label text:List UInt8):List UInt8:=sigB seed (zku label text)
theorem zt4(seed:List UInt8)(label:ByteArray)(text:List UInt8)(hs:seed.length=32)(hl:label.size<=1048576)(ht:text.length<=500000000):zab Tryz.prog 62 [bs seed,Str label,bs text] (.r (.tu [bs (zqb seed (sB label) text),Er 0])):=by
 refine zaa (T:=Tab) mixed Tab_ok Tryz.func62 rfl (by kernel_rfl) ?_
 have hsz:(sB label).length=label.size:=rfl
 have hml:mlsB.length=8:=rfl
 have hv:=zaj (mlsB++sB label)
 have hv2:=zaj text
 rw[List.length_append]at hv
 refine ze (zmt label text hl (by omega)) ?_
 refine ze (z7n seed (zku (sB label) text) hs (by rw[zku,List.length_append];omega)) ?_
 exact⟨_,rfl,cr⟩
theorem zs4(seed:List UInt8)(label:ByteArray)(text:List UInt8)(hs:seed.length≠32)(hl:label.size<=1048576)(ht:text.length<=500000000):zab Tryz.prog 62 [bs seed,Str label,bs text] (.r (.tu [bs [],Er 1])):=by
 refine zaa (T:=Tab) mixed Tab_ok Tryz.func62 rfl (by kernel_rfl) ?_
 have hsz:(sB label).length=label.size:=rfl
 have hml:mlsB.length=8:=rfl
 have hv:=zaj (mlsB++sB label)
 have hv2:=zaj text
 rw[List.length_append]at hv
 refine ze (zmt label text hl (by omega)) ?_
 refine ze (zvw seed (zku (sB label) text) hs) ?_
 exact⟨_,rfl,cr⟩
end
section
def nums(l:List UInt8):List Int:=l.map λb=>(b.toNat:Int)
theorem znv{S:Nat->Prop}(p:AC)(l:List UInt8)(w:World)(hp:By w S p l):(convert 22 9 (.slice p.a l.length p.c)).run Tryz.prog w= .ok (.string (strOfNums (nums l))) w:=by
 rcases Nat.eq_zero_or_pos l.length with hn |hn
 ·have hl:l=[]:=List.eq_nil_of_length_eq_zero hn
  subst hl
  rw[run_convert_bytes_string w _ _ _ _ _ _ Tryz.underlying22 Tryz.underlying5 Tryz.underlying9]
  simp only[List.length_nil]
  cases p.a<;>simp[Conv.bytesToString,loadCells]
  all_goals rfl
 ·obtain⟨b,o,e,hc⟩:=hp.form hn
  rw[e]
  exact run_convert_bytes_arg w _ _ Tryz.underlying22 Tryz.underlying5 b o l.length p.c (nums l) (by simp[nums]) (λi hi=>by
   rw[hc i hi]
   simp[nums,hi]) _ Tryz.underlying9
theorem z5c(l m:List UInt8):((strOfNums (nums l)).toList==(strOfNums (nums m)).toList)=decide (l=m):=by
 have h: ∀l:List UInt8,(strOfNums (nums l)).toList=l:=λl=>by
  rw[Lib.strOfNums_toList]
  simp[Lib.bytesOf,nums,Function.comp_def]
 rw[h,h]
 by_cases e:l=m
 ·subst e
  simp
 ·simp[e]
theorem zu1(p q:AC)(l m:List UInt8){S:Nat->Prop}(w:World)(hp:By w S p l)(hq:By w S q m):
  Calls Tryz.prog 98 #[.slice p.a l.length p.c, .slice q.a m.length q.c] w λe w'=>e= .returned (.bool (decide (l=m)))/\w'=w:=by
 have g1:=znv p l w hp
 have g2:=znv q m w hq
 rw[<-z5c]
 generalize strOfNums (nums l)=s1 at*
 generalize strOfNums (nums m)=s2 at*
 obtain⟨a,c⟩:=p
 obtain⟨a',c'⟩:=q
 go_enter Tryz.func98,Tryz.ntmps98
 go_wp2_with fail
 go_ret
 exact⟨rfl,rfl⟩
theorem z0g(l m:List UInt8):zab Tryz.prog 98 [bs l,bs m] (.r (.b (decide (l=m)))):=
 zbh (za0 Tryz.func98 rfl (by kernel_rfl)) λw k vs hp=>by
  obtain⟨a,b,rfl,h1,h2⟩:=zeg hp
  obtain⟨p,rfl,hp1⟩:=zc5 h1
  obtain⟨q,rfl,hq1⟩:=zc5 h2
  exact(zu1 p q l m w hp1 hq1).mono λ_ _ ⟨e,hw⟩=>⟨_,e,hw▸Ext.refl _,k,λ_ _=>rfl,by simp[Res.at_,RV.at_]⟩
end
section
abbrev boxS:ByteArray:=⟨#[98,111,120]⟩
abbrev nl:RV:= .x (.slice none 0 0)
theorem zjq(seed label text:List UInt8):(zqb seed label text).length=64:=z13 _ _
def u64N(n:Int):Nat:=(n%18446744073709551616).toNat
theorem zzp(x:Int)(h:i64 x):IntKind.u64.wrap x=((u64N x:Nat):Int):=by
 unfold i64 at h
 unfold IntKind.wrap u64N
 simp only[IntKind.bits,IntKind.signed]
 simp
 omega
def zgg(l:Leaf)(group:List UInt8)(at_:Int):List UInt8:=if l.src.toNat=1 then za3 l else za3 l++vecB group++beB 4 (u64N at_)
def zfd(l:Leaf)(at_:Int):Bool:=decide (l.src.toNat=1)||(decide (0<=at_)&&decide (at_<65536))
theorem zg0(l:Leaf):(za3 l).length<=l.box.length+l.sign.length+l.ident.length+l.parent.length+17:=by
 have v1:=zaj l.box
 have v2:=zaj l.sign
 have v3:=zaj l.ident
 have v4:=zaj l.parent
 unfold za3
 split<;>simp only[List.length_append,List.length_cons,List.length_nil]<;>omega
theorem z2c(l:Leaf)(group:List UInt8)(at_:Int):(zgg l group at_).length<=l.box.length+l.sign.length+l.ident.length+l.parent.length+group.length+25:=by
 have h:=zg0 l
 have v:=zaj group
 have b:=zam 4 (u64N at_)
 unfold zgg
 split
 ·omega
 ·simp only[List.length_append]
  omega
theorem z7q(l:Leaf)(group:List UInt8)(at_:Int)(hl:l.fit)(hg:group.length<=1000000000)(ha:i64 at_):zab Tryz.prog 142 [.ag l.c,bs group,I at_] (.r (.tu [bs (zgg l group at_), .b (zfd l at_)])):=by
 refine zaa (T:=Tab) mixed Tab_ok Tryz.func142 rfl (by kernel_rfl) ?_
 obtain⟨h1,h2,h3,h4,h5⟩:=hl
 have hA:=zg0 l
 have hv:=zaj group
 refine za rfl rfl ?_
 refine Vcall.mk' (zie [] l (by simp) ⟨h1,h2,h3,h4,h5⟩) (zk (Cv.nil _) (zn _)) ?_
 rw[List.nil_append]
 refine zh (λh=>zp ?_) (λh=>zq ?_)
 ·simp only[zb]at h
  have h':l.src.toNat=1:=by omega
  have e1:zgg l group at_=za3 l:=if_pos h'
  have e2:zfd l at_=true:=by simp[zfd,h']
  rw[e1,e2]
  exact⟨_,rfl,cr⟩
 ·simp only[zb]at h
  have h':l.src.toNat≠1:=by omega
  have e1:zgg l group at_=za3 l++vecB group++beB 4 (u64N at_):=if_neg h'
  have e2:zfd l at_=(decide (0<=at_)&&decide (at_<65536)):=by simp[zfd,h']
  refine ze (za7 (za3 l) group (by omega) (by omega)) ?_
  refine Vint.n ((u64N at_:Nat):Int) (zzp at_ ha).symm ?_
  refine ze (zdz (za3 l++vecB group) 4 (u64N at_) (by rw[List.length_append];omega) (.inr (.inr (.inl rfl)))) ?_
  rw[e1,e2]
  refine zh (λh0=>?_) (λh0=>?_)
  ·simp only[zb]at h0
   have h0':0<=at_:=h0
   refine Vcmp.mk' (m:=decide (at_<65536)) rfl ?_
   exact⟨_,rfl,zf (by rw[decide_eq_true h0'];rfl)⟩
  ·simp only[zb]at h0
   have h0': ¬0<=at_:=h0
   exact⟨_,rfl,zf (by rw[decide_eq_false h0'];rfl)⟩
def zS64:List UInt8:=List.replicate 64 0
def z9o:List UInt8:=[76,101,97,102,78,111,100,101,84,66,83]
def Leaf.with(l:Leaf)(s:List UInt8):Leaf:={l with sig:=s}
def zei(l:Leaf)(seed:List UInt8)(at_:Int):Nat:=if(l.with zS64).right=true then if zfd l at_=true then if seed.length=32 then 0 else 1 else 1 else 3
def slOk(l:Leaf)(seed group:List UInt8)(at_:Int):Leaf:=l.with (zqb seed z9o (zgg l group at_))
def ziy(l:Leaf)(seed group:List UInt8)(at_:Int):RV:=if zei l seed at_=0 then .tu [.ag (slOk l seed group at_).c,Er 0]else .tu [.ag zl.c,Er (zei l seed at_)]
theorem zoe:Cv (.ag [.x (.slice none 0 0), .x (.slice none 0 0), .x (.slice none 0 0), .i .u8 0, .x (.slice none 0 0), .x (.slice none 0 0)]) (.ag zl.c):=Cv.ag (zk (Cv.nil 1) (zk (Cv.nil 1) (zk (Cv.nil 1) (zk (cr) (zk (Cv.nil 1) (zk (Cv.nil 1) Cvs.nil))))))
theorem zgz:(List.replicate ((64:Int).toNat) ([Value.int .u8 0].map ofC)).flatten=zS64.map U8:=by simp[ofC,zS64]
abbrev lsS:ByteArray:=⟨#[76,101,97,102,78,111,100,101,84,66,83]⟩
section
variable (l:Leaf) (z seed group:List UInt8) (at_:Int) (hl:l.fit) (hz:zS64=z)
include hl hz
set_option maxRecDepth 100000 in
theorem zyg(hr:(l.with z).right=false):zab Tryz.prog 60 [.ag l.c,bs seed,bs group,I at_] (.r (.tu [.ag zl.c,Er 3])):=by
 refine zaa (T:=Tab) mixed Tab_ok Tryz.func60 rfl (by kernel_rfl) ?_
 have hzl:64=z.length:=by rw[<-hz];decide
 refine za rfl rfl ?_
 refine ze (zdf l hl) ?_
 refine⟨rfl,by decide,by decide,by decide,z.length,z.map U8,hzl,by rw[zgz,hz],zw ?_⟩
 refine za rfl rfl ?_
 refine Vcall.bool (zgj (l.with z)) (λhr'=>absurd hr' (by rw[hr];simp)) (λ_=>zt rfl (zp ?_))
 refine za rfl rfl ?_
 exact⟨_,rfl,Cv.tu (zk zoe (zn _))⟩
variable (T:List UInt8) (β:Bool) (hr:(l.with z).right=true) (hT:zab Tryz.prog 142 [.ag (l.with z).c,bs group,I at_] (.r (.tu [bs T, .b β])))
include hr hT
set_option maxRecDepth 100000 in
theorem z01(hβ:β=false):zab Tryz.prog 60 [.ag l.c,bs seed,bs group,I at_] (.r (.tu [.ag zl.c,Er 1])):=by
 subst hβ
 refine zaa (T:=Tab) mixed Tab_ok Tryz.func60 rfl (by kernel_rfl) ?_
 have hzl:64=z.length:=by rw[<-hz];decide
 refine za rfl rfl ?_
 refine ze (zdf l hl) ?_
 refine⟨rfl,by decide,by decide,by decide,z.length,z.map U8,hzl,by rw[zgz,hz],zw ?_⟩
 refine za rfl rfl ?_
 refine Vcall.bool (zgj (l.with z)) (λ_=>zu rfl (zq ?_)) (λhr'=>absurd hr' (by rw[hr];simp))
 refine za rfl rfl ?_
 refine ze hT ?_
 refine zt rfl (zp ?_)
 refine za rfl rfl ?_
 exact⟨_,rfl,Cv.tu (zk zoe (zn _))⟩
set_option maxRecDepth 100000 in
theorem z02(q:List UInt8)(e:Nat)(hβ:β=true)(hq:zab Tryz.prog 62 [bs seed,Str lsS,bs T] (.r (.tu [bs q,Er e])))(he:e=1):zab Tryz.prog 60 [.ag l.c,bs seed,bs group,I at_] (.r (.tu [.ag zl.c,Er 1])):=by
 subst hβ;subst he
 refine zaa (T:=Tab) mixed Tab_ok Tryz.func60 rfl (by kernel_rfl) ?_
 have hzl:64=z.length:=by rw[<-hz];decide
 refine za rfl rfl ?_
 refine ze (zdf l hl) ?_
 refine⟨rfl,by decide,by decide,by decide,z.length,z.map U8,hzl,by rw[zgz,hz],zw ?_⟩
 refine za rfl rfl ?_
 refine Vcall.bool (zgj (l.with z)) (λ_=>zu rfl (zq ?_)) (λhr'=>absurd hr' (by rw[hr];simp))
 refine za rfl rfl ?_
 refine ze hT ?_
 refine zu rfl (zq ?_)
 refine ze hq ?_
 refine zt rfl (zp ?_)
 refine za rfl rfl ?_
 exact⟨_,rfl,Cv.tu (zk zoe (zn _))⟩
set_option maxRecDepth 100000 in
theorem z4p(q:List UInt8)(hβ:β=true)(hq:zab Tryz.prog 62 [bs seed,Str lsS,bs T] (.r (.tu [bs q,Er 0]))):zab Tryz.prog 60 [.ag l.c,bs seed,bs group,I at_] (.r (.tu [.ag (l.with q).c,Er 0])):=by
 subst hβ
 refine zaa (T:=Tab) mixed Tab_ok Tryz.func60 rfl (by kernel_rfl) ?_
 have hzl:64=z.length:=by rw[<-hz];decide
 refine za rfl rfl ?_
 refine ze (zdf l hl) ?_
 refine⟨rfl,by decide,by decide,by decide,z.length,z.map U8,hzl,by rw[zgz,hz],zw ?_⟩
 refine za rfl rfl ?_
 refine Vcall.bool (zgj (l.with z)) (λ_=>zu rfl (zq ?_)) (λhr'=>absurd hr' (by rw[hr];simp))
 refine za rfl rfl ?_
 refine ze hT ?_
 refine zu rfl (zq ?_)
 refine ze hq ?_
 refine zu rfl (zq ?_)
 refine za rfl rfl ?_
 refine za rfl rfl ?_
 exact⟨_,rfl,cr⟩
end
theorem zvx(l:Leaf)(seed group:List UInt8)(at_:Int)(hl:l.fit)(hg:group.length<=100000000)(hb:l.box.length+l.sign.length+l.ident.length+l.parent.length<=100000000)(ha:i64 at_):
  zab Tryz.prog 60 [.ag l.c,bs seed,bs group,I at_] (.r (ziy l seed group at_)):=by
 have hl':=hl
 obtain⟨h1,h2,h3,h4,h5⟩:=hl'
 have hf:(l.with zS64).fit:=⟨h1,h2,h3,h4,by show zS64.length<=_;decide⟩
 have ht:=z2c l group at_
 have hT:zab Tryz.prog 142 [.ag (l.with zS64).c,bs group,I at_] (.r (.tu [bs (zgg l group at_), .b (zfd l at_)])):=z7q (l.with zS64) group at_ hf (by omega) ha
 have herr: ∀e:Nat,zei l seed at_=e->e≠0->ziy l seed group at_= .tu [.ag zl.c,Er e]:=λe h h0=>by rw[ziy,h,if_neg h0]
 cases hr:(l.with zS64).right with
 |false=>
  rw[herr 3 (by unfold zei;rw[if_neg (by rw[hr];simp)]) (by decide)]
  exact zyg l zS64 seed group at_ hl rfl hr
 |true=>
  cases ho:zfd l at_ with
  |false=>
   rw[herr 1 (by unfold zei;rw[if_pos hr,if_neg (by rw[ho];simp)]) (by decide)]
   exact z01 l zS64 seed group at_ hl rfl _ _ hr hT ho
  |true=>
   by_cases hs:seed.length=32
   ·have hS:ziy l seed group at_= .tu [.ag (slOk l seed group at_).c,Er 0]:=by
     have:zei l seed at_=0:=by unfold zei;rw[if_pos hr,if_pos ho,if_pos hs]
     rw[ziy,if_pos this]
    rw[hS]
    exact z4p l zS64 seed group at_ hl rfl _ _ hr hT _ ho (zt4 seed lsS (zgg l group at_) hs (by decide) (by omega))
   ·rw[herr 1 (by unfold zei;rw[if_pos hr,if_pos ho,if_neg hs]) (by decide)]
    exact z02 l zS64 seed group at_ hl rfl _ _ hr hT _ _ ho (zs4 seed lsS (zgg l group at_) hs (by decide) (by omega)) rfl
end
end Go.Proofs.YtebhngeddnnpkaaGreat.Sx
