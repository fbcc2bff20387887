import Derived.Test.YtlofklpckddkfaaGreatZFw
import Derived.Test.YtlofklpckddkfaaGreatZEq
import Derived.Test.YtlofklpckddkfaaGreatZEn
import Derived.Test.YtlofklpckddkfaaGreatZSxU
import Derived.Test.YtlofklpckddkfaaGreatZKk
import Derived.Test.YtlofklpckddkfaaGreatZQa
import Derived.Laws.BytesArg
import Derived.Lib.Bytes
namespace Go.Proofs.YtlofklpckddkfaaGreat.Sx
open Go.RowKit
section
def zh6(y:Fe):Fe:=((y.mul y).sub one).mul ((dC.mul (y.mul y)).add one).inv
theorem z0b(y:Fe):((y.mul y).sub one).mul ((dC.mul (y.mul y)).add one).inv=zh6 y:=rfl
attribute [irreducible] zh6
theorem z7a(y:Fe):zab Tryz.prog 403 [.ag y.v] (.r (.tu [.ag (zcg (zh6 y)).1.v, .b (zcg (zh6 y)).2])):=by
 refine zaa (T:=Tab) mixed Tab_ok Tryz.func403 rfl (by kernel_rfl) ?_
 refine za rfl rfl ?_
 refine ze (zc2 y) ?_
 refine Vdraw.mk' (by kernel_rfl) ?_
 refine za rfl rfl ?_
 refine ze zh9 ?_
 refine ze (zfj (y.mul y) one) ?_
 refine ze h_d ?_
 refine za rfl rfl ?_
 refine ze (zbb dC (y.mul y)) ?_
 refine ze zh9 ?_
 refine ze (zeq (dC.mul (y.mul y)) one) ?_
 refine ze (zkm ((dC.mul (y.mul y)).add one)) ?_
 refine ze (zbb ((y.mul y).sub one) ((dC.mul (y.mul y)).add one).inv) ?_
 rw[z0b]
 refine ze (z7d (zh6 y)) ?_
 refine za rfl rfl ?_
 exact⟨_,rfl,cr⟩
def zh1:Fe:=(numF 4).mul (numF 5).inv
theorem zz3:(numF 4).mul (numF 5).inv=zh1:=rfl
attribute [irreducible] zh1
def baseP:Pt:=Pt.of (zcg (zh6 zh1)).1 zh1
theorem zt8:zab Tryz.prog 309 [] (.r (.ag baseP.v)):=by
 refine zaa (T:=Tab) mixed Tab_ok Tryz.func309 rfl (by kernel_rfl) ?_
 refine ze h_n4 ?_
 refine ze h_n5 ?_
 refine ze (zkm (numF 5)) ?_
 refine ze (zbb (numF 4) (numF 5).inv) ?_
 rw[zz3]
 refine za rfl rfl ?_
 refine ze (z7a zh1) ?_
 refine za rfl rfl ?_
 refine za rfl rfl ?_
 refine ze (z2n (zcg (zh6 zh1)).1 zh1) ?_
 refine za rfl rfl ?_
 exact cr
attribute [irreducible] baseP
end
section
theorem z9e{l:List UInt64}{j:Nat}(h:j<l.length):(l.map W)[j*1]?=some (W (l.getD j 0)):=by
 rw[Nat.mul_one,List.getElem?_map,List.getElem?_eq_getElem h,List.getD_eq_getElem?_getD,List.getElem?_eq_getElem h]
 rfl
def mL(a b w:UInt64):UInt64:=a*b+w+0
def mIn(a:UInt64)(y:S4)(w:List UInt64)(i:Nat):Nat->List UInt64×UInt64
 |0=>(w,0)
 |k+1=>
  let s:=mIn a y w i k
  let b:=y.l.getD k 0
  let v:=s.1.getD (i+k) 0
  (s.1.set (i+k) (mL a b v+s.2+0),(mulH a b+carW (a*b) v 0)+carW (mL a b v) s.2 0)
theorem zrm(a:UInt64)(y:S4)(w:List UInt64)(i:Nat):mIn a y w i 0=(w,0):=rfl
theorem zlx(a:UInt64)(y:S4)(w:List UInt64)(i k:Nat):mIn a y w i (k+1)=((mIn a y w i k).1.set (i+k) (mL a (y.l.getD k 0) ((mIn a y w i k).1.getD (i+k) 0)+(mIn a y w i k).2+0),(mulH a (y.l.getD k 0)+carW (a*(y.l.getD k 0)) ((mIn a y w i k).1.getD (i+k) 0) 0)+carW (mL a (y.l.getD k 0) ((mIn a y w i k).1.getD (i+k) 0)) (mIn a y w i k).2 0):=rfl
theorem zn6(a:UInt64)(y:S4)(w:List UInt64)(i:Nat): ∀k,(mIn a y w i k).1.length=w.length
 |0=>rfl
 |k+1=>by rw[zlx,List.length_set,zn6 a y w i k]
attribute [irreducible] mIn
def mOut(x y:S4):Nat->List UInt64
 |0=>List.replicate 8 0
 |i+1=>(mIn (x.l.getD i 0) y (mOut x y i) i 4).1.set (i+4) (mIn (x.l.getD i 0) y (mOut x y i) i 4).2
theorem zys(x y:S4):mOut x y 0=List.replicate 8 0:=rfl
theorem zo1(x y:S4)(i:Nat):mOut x y (i+1)=(mIn (x.l.getD i 0) y (mOut x y i) i 4).1.set (i+4) (mIn (x.l.getD i 0) y (mOut x y i) i 4).2:=rfl
theorem zij(x y:S4): ∀i,(mOut x y i).length=8
 |0=>by simp[mOut]
 |i+1=>by rw[zo1,List.length_set,zn6,zij x y i]
attribute [irreducible] mOut
def S4.mul(x y:S4):S4:=zkt (mOut x y 4)
def smO1(x y:S4)(i:Nat):St:={F:=[(3, .own 1),(4, .own 2),(5, .own 3),(16, .r (.ag x.v)),(17, .r (I i))],O:=[(1,some y.bx),(2,some (S4.bx ⟨0,0,0,0⟩)),(3,some (.ch 23 1 8 ((mOut x y i).map W) false))],nx:=4}
def smI1(x y:S4)(i k:Nat):St:={F:=[(3, .own 1),(4, .own 2),(5, .own 3),(16, .r (.ag x.v)),(17, .r (I i)),(6, .r (I i)),(7, .r (W (x.l.getD i 0))),(8, .r (W (mIn (x.l.getD i 0) y (mOut x y i) i k).2)),(22, .r (.ag y.v)),(23, .r (I k))],O:=[(1,some y.bx),(2,some (S4.bx ⟨0,0,0,0⟩)),(3,some (.ch 23 1 8 ((mIn (x.l.getD i 0) y (mOut x y i) i k).1.map W) false))],nx:=4}
theorem zs8:(List.replicate ((8:Int).toNat) ([Value.int .u64 0].map ofC)).flatten=(List.replicate 8 (0:UInt64)).map W:=by simp[ofC]
set_option maxHeartbeats 4000000 in
theorem z4l(x y:S4):zab Tryz.prog 332 [.ag x.v, .ag y.v] (.r (.ag (x.mul y).v)):=by
 refine zaa (T:=Tab) mixed Tab_ok Tryz.func332 rfl (by kernel_rfl) ?_
 refine⟨rfl,by decide,by decide,by decide,_,_,rfl,zs8,Vpub.own ?_⟩
 refine za rfl rfl ?_
 refine zy (smO1 x y) (λi=>i<=4) (λi=>4-i) 0 (by omega) (zad [(1,1),(2,2),(3,3)] rfl ⟨rfl,rfl,rfl,cr,cr,trivial⟩ ⟨⟨_,_,rfl,cr,_,_,rfl,cr,_,_,rfl,cr,_,_,rfl,cr,rfl⟩,⟨_,_,rfl,cr,_,_,rfl,cr,_,_,rfl,cr,_,_,rfl,cr,rfl⟩,⟨rfl,rfl,rfl,rfl,by rw[zys];exact zn _⟩,trivial⟩) ?_
 intro i hi
 refine zh (λh=>zp ?_) (λh=>zq ?_)
 ·simp only[zb]at h
  have hi':i<4:=by omega
  refine zm (by omega) (by omega) (zv5 (l:=x.l) rfl (by show i<4;omega)) ?_
  refine za rfl rfl ?_
  refine zy (smI1 x y i) (λk=>k<=4) (λk=>4-k) 0 (by omega) (zad [(1,1),(2,2),(3,3)] rfl ⟨rfl,rfl,rfl,cr,cr,cr,cr,by rw[zrm];exact cr,cr,cr,trivial⟩ ⟨⟨_,_,rfl,cr,_,_,rfl,cr,_,_,rfl,cr,_,_,rfl,cr,rfl⟩,⟨_,_,rfl,cr,_,_,rfl,cr,_,_,rfl,cr,_,_,rfl,cr,rfl⟩,⟨rfl,rfl,rfl,rfl,by rw[zrm];exact zn _⟩,trivial⟩) ?_
  intro k hk
  have hL:(mIn (x.l.getD i 0) y (mOut x y i) i k).1.length=8:=by rw[zn6,zij]
  refine zh (λh=>zp ?_) (λh=>zq ?_)
  ·simp only[zb]at h
   have hk':k<4:=by omega
   refine zm (by omega) (by omega) (zv5 (l:=y.l) rfl (by show k<4;omega)) ?_
   refine ze (zn3 (x.l.getD i 0) (y.l.getD k 0)) ?_
   refine zd (m:=((i+k:Nat):Int)) (by omega) (by omega) ?_
   refine Vadr.mk' (i+k) rfl (by omega) ?_
   refine zg (z9e (by rw[hL];omega)) ?_
   refine Vcall.ext (zei (x.l.getD i 0*y.l.getD k 0) _ 0 (by decide)) ?_
   refine Vint.wadd _ _ rfl rfl ?_
   refine Vcall.ext (zei (mL (x.l.getD i 0) (y.l.getD k 0) ((mIn (x.l.getD i 0) y (mOut x y i) i k).1.getD (i+k) 0)) (mIn (x.l.getD i 0) y (mOut x y i) i k).2 0 (by decide)) ?_
   refine zd (m:=((i+k:Nat):Int)) (by omega) (by omega) ?_
   refine Vint.wadd _ _ rfl rfl ?_
   refine Vadr.mk' (i+k) rfl (by omega) ?_
   refine⟨by rw[List.length_map,hL];show(i+k)*1+1<=8;omega,(mIn (x.l.getD i 0) y (mOut x y i) i (k+1)).1.map W,?_,?_⟩
   ·rw[zlx,Nat.mul_one]
    exact zco (by rw[hL];omega)
   refine zd (m:=((k+1:Nat):Int)) (by omega) (by omega) ?_
   exact⟨k+1,by omega,by omega,zad [(1,1),(2,2),(3,3)] rfl ⟨rfl,rfl,rfl,cr,cr,cr,cr,by rw[zlx];exact cr,cr,cr,trivial⟩ ⟨⟨_,_,rfl,cr,_,_,rfl,cr,_,_,rfl,cr,_,_,rfl,cr,rfl⟩,⟨_,_,rfl,cr,_,_,rfl,cr,_,_,rfl,cr,_,_,rfl,cr,rfl⟩,⟨rfl,rfl,rfl,rfl,zn _⟩,trivial⟩⟩
  ·simp only[zb]at h
   obtain rfl:k=4:=by omega
   refine zd (m:=((i+4:Nat):Int)) (by omega) (by omega) ?_
   refine Vadr.mk' (i+4) rfl (by omega) ?_
   refine⟨by rw[List.length_map,hL];show(i+4)*1+1<=8;omega,(mOut x y (i+1)).map W,?_,?_⟩
   ·rw[zo1,Nat.mul_one]
    exact zco (by rw[hL];omega)
   refine zd (m:=((i+1:Nat):Int)) (by omega) (by omega) ?_
   exact⟨i+1,by omega,by omega,zad [(1,1),(2,2),(3,3)] rfl ⟨rfl,rfl,rfl,cr,cr,trivial⟩ ⟨⟨_,_,rfl,cr,_,_,rfl,cr,_,_,rfl,cr,_,_,rfl,cr,rfl⟩,⟨_,_,rfl,cr,_,_,rfl,cr,_,_,rfl,cr,_,_,rfl,cr,rfl⟩,⟨rfl,rfl,rfl,rfl,zn _⟩,trivial⟩⟩
 ·simp only[zb]at h
  obtain rfl:i=4:=by omega
  have hrd:=zqx (mOut x y 4) (by rw[zij];omega)
  rw[<-zzx _ _ (zij x y 4)]at hrd
  refine Vstep.sub (zbe (id:=3) rfl) (Vstep.val Tab_ok (ze hrd ?_))
  refine za rfl rfl ?_
  exact cr
end
section
section
variable {P:Program} {T:TT} {S:St}
theorem zws{id t n:Nat}(vs:List RV)(hf:fget S.F t=some (.cut id 0 n))(ho:oget S.O id=some (.box (vs.map .r)))(hn:vs.length=n):Sub S ⟨(t, .r (.sl 1 n vs))::S.F,(id,none)::S.O,S.nx⟩:=by
 rintro B N a w k ⟨g,hs⟩
 obtain⟨b,k',hg,hle,hb,hc,h⟩:=hs.pub ho
 have hv:=(hs.facts t _ hf).2
 simp only[TF.at_]at hv
 obtain⟨b',c,e,hv,h1,h2⟩:=hv
 rw[hg]at e
 cases e
 refine⟨k',g,h.size,h.defers,h.keep,h.kk,λt' f hf'=>?_,h.owns,h.apart⟩
 rcases zau hf' with⟨rfl,rfl⟩ |⟨_,hf'⟩
 ·refine⟨trivial,?_⟩
  simp only[TF.at_,RV.at_]
  exact⟨_,c,hv,h1,h2,by rw[Nat.mul_one];exact hn,λ_=>⟨b,0,rfl,hb,hc⟩⟩
 ·exact h.facts t' f hf'
theorem Vcode.sub(hm:P.follows .mixedOrders=true)(hT:TOk P T){c:Code}{S':St}{Q:Exit->St->Prop}(hs:Sub S S')(h:vcg P T c S' Q):Vcode P c S Q:=
 ⟨λB N a w k Q' h0 hd hQ=>by
  obtain⟨k',h1⟩:=hs B N a w k h0
  exact zap hm hT c S' Q h B N a w k' Q' h1 hd hQ⟩
theorem Vstep.actsNew{o:Oper}{l:List RV}{f:FuncId}{args:List TF}{n:Nat}{K:St->Prop}(hA:Acts P f 0 [] args [] 1 [(0, .box (l.map .r))] (.cut 0 0 n))(hcall:Handed P S o [] f args)
  (hK:newK ⟨S.F,(S.nx,some (.box (l.map .r)))::S.O,S.nx+1⟩ o.dst (.cut S.nx 0 n) none K):Vstep P S o K:=by
 refine zj [] [] (λ_ _=>hA) hcall rfl trivial trivial ?_
 rw[zi5]
 rw[zaq]at hK
 have e:(l.map TF.r).map (zde (ren [] [] S.nx))=l.map TF.r:=by
  rw[List.map_map]
  exact List.map_congr_left λx _=>rfl
 have e2:zi6 [] [] S 1 [(0, .box (l.map .r))] (.cut 0 0 n) o.dst=St.new ⟨S.F,(S.nx,some (.box (l.map .r)))::S.O,S.nx+1⟩ o.dst (.cut S.nx 0 n) none:=by
  show St.put ⟨S.F,(S.nx,some (.box ((l.map TF.r).map (zde (ren [] [] S.nx)))))::S.O,S.nx+1⟩ o.dst (.cut S.nx 0 n)=_
  rw[e]
  rfl
 rw[e2]
 exact hK
end
set_option maxRecDepth 100000 in
theorem z4e(ls:List (List UInt8))(hl:(ls.flatMap id).length<=10000000000):Acts Tryz.prog 308 0 [] [.r (bss ls)] [] 1 [(0,boxB (zcx ls))] (.cut 0 0 64):=by
 refine zbf (T:=Tab) mixed Tab_ok Tryz.func308 rfl (by kernel_rfl) rfl trivial ?_
 refine ze (zgm ls (by omega)) ?_
 refine ze (zub (ls.flatMap id) hl) ?_
 (conv=>whnf)
 generalize hq:(za5 _&&_)=q
 obtain rfl:=hq.symm.trans (zma (l:=(zcx ls).map U8) 64 (by rw[List.length_map,zbz]) rfl)
 clear hq
 refine zgu (by rw[List.length_map,List.length_map];show(List.replicate 64 (Value.int .u8 0)).length=_;rw[List.length_replicate];exact(zbz ls).symm) ?_
 refine Vstep.val Tab_ok (Vcutn.mk' 0 64 rfl rfl (by decide) (by decide) ?_)
 exact zba (.inl rfl) [(0,1)] [(2, .cut 0 0 64)] [] (by have h:=zd1 ((zcx ls).map U8) 1;simp only[stOk,lift,boxB,List.map_cons,List.map_nil,List.append_nil,List.all_cons,List.all_nil,zds,h];rfl) ⟨⟨rfl,rfl,rfl⟩,trivial⟩ ⟨zae _,trivial⟩ trivial rfl
theorem zxq{l:List UInt8}{j:Nat}(h:j<l.length):lget ((l.map U8).map TF.r) (0+j*1)=some (TF.r (U8 (l.getD j 0))):=by
 rw[zas,Nat.zero_add,Nat.mul_one]
 exact zt5 h
theorem zqb{x:UInt8}{l:List UInt8}{j:Nat}(h:j<l.length):(za5 (U8 x)&&(Nat.beq (cellsOf (U8 x)).length 1&&Nat.ble (0+j*1+1) ((l.map U8).map TF.r).length))=true:=by
 rw[Nat.zero_add]
 exact ztv h
theorem zo7{l:List UInt8}{j:Nat}{x:UInt8}{K:List TF->Prop}(h:j<l.length)(hK:K (((l.set j x).map U8).map TF.r)):putK ((l.map U8).map TF.r) (0+j*1) [TF.r (U8 x)] K:=by
 rw[Nat.zero_add]
 exact zr4 h hK
theorem z2k(l:List UInt8)(n:Nat)(h:l.length=n):RV.sl 1 n (l.map U8)=bs l:=by rw[<-h];rfl
def zfk(h:List UInt8):List UInt8:=h.set 0 (h.getD 0 0&&& ~~~7)
def zdv(h:List UInt8):List UInt8:=(zfk h).set 31 (((zfk h).getD 31 0&&&63)|||64)
theorem zyh(h:List UInt8):(zfk h).length=h.length:=by simp[zfk]
theorem zot(h:List UInt8):(zdv h).length=h.length:=by simp[zdv,zfk]
def secS(seed:List UInt8):S4:=scOf ((zdv (zcx [seed])).take 32)
def secB(seed:List UInt8):List UInt8:=(zdv (zcx [seed])).drop 32
set_option maxHeartbeats 1000000 in
theorem zqs(seed:List UInt8)(hs:seed.length<=1000000000):zab Tryz.prog 329 [bs seed] (.r (.tu [.ag (secS seed).v,bs (secB seed)])):=by
 refine zaa (T:=Tab) mixed Tab_ok Tryz.func329 rfl (by kernel_rfl) ?_
 refine Vpub.own ?_
 refine Vstep.sub (zbe (id:=1) rfl) (Vstep.actsNew (z4e [seed] (by simp;omega)) (zi rfl ⟨_,_,rfl,cr,rfl⟩) ?_)
 have hh:secS seed=scOf ((zdv (zcx [seed])).take 32):=rfl
 have hb:secB seed=(zdv (zcx [seed])).drop 32:=rfl
 have hl:=zbz [seed]
 rw[hh,hb]
 generalize zcx [seed]=h at*
 have hl0:(zfk h).length=64:=by rw[zyh,hl]
 have hlB:(zdv h).length=64:=by rw[zot,hl]
 refine Vadr.mk' 0 rfl (by decide) ?_
 (conv=>whnf)
 generalize hq:lget _ _=q
 obtain rfl:=hq.symm.trans (zxq (l:=h) (j:=0) (by omega))
 clear hq
 refine Vbits.andn8 _ 7 rfl rfl ?_
 refine Vadr.mk' 0 rfl (by decide) ?_
 (conv=>whnf)
 generalize hq:(za5 _&&_)=q
 obtain rfl:=hq.symm.trans (zqb (x:=h.getD 0 0&&& ~~~7) (l:=h) (j:=0) (by omega))
 clear hq
 refine zo7 (l:=h) (j:=0) (by omega) ?_
 refine Vadr.mk' 31 rfl (by decide) ?_
 (conv=>whnf)
 generalize hq:lget _ _=q
 obtain rfl:=hq.symm.trans (zxq (l:=zfk h) (j:=31) (by omega))
 clear hq
 refine Vbits.and8 _ 63 rfl rfl ?_
 refine Vbits.or8 _ 64 rfl rfl ?_
 refine Vadr.mk' 31 rfl (by decide) ?_
 (conv=>whnf)
 generalize hq:(za5 _&&_)=q
 obtain rfl:=hq.symm.trans (zqb (x:=((zfk h).getD 31 0&&&63)|||64) (l:=zfk h) (j:=31) (by omega))
 clear hq
 refine zo7 (l:=zfk h) (j:=31) (by omega) ?_
 refine Vdraw.code (Vcode.sub mixed Tab_ok (zws (t:=4) (n:=64) ((zdv h).map U8) rfl rfl (by rw[List.length_map,hlB])) ?_)
 refine Vdraw.mk' (by kernel_rfl) ?_
 have ht:((zdv h).take 32).length=32:=by rw[List.length_take,hlB];rfl
 have hd:((zdv h).drop 32).length=32:=by rw[List.length_drop,hlB]
 have hsc:=zq0 ((zdv h).take 32) (by omega)
 rw[<-z2k _ _ ht]at hsc
 rw[<-z2k _ _ hd]
 refine⟨by decide,by decide,by decide,32,((zdv h).take 32).map U8,rfl,by rw[List.map_take];rfl,?_⟩
 refine ze hsc ?_
 refine⟨by decide,by decide,by decide,32,((zdv h).drop 32).map U8,rfl,by rw[List.map_drop];exact List.take_of_length_le (by rw[List.length_drop,List.length_map,hlB];decide),?_⟩
 refine za rfl rfl ?_
 exact⟨_,rfl,cr⟩
end
section
theorem zyd(seed:List UInt8)(hs:seed.length=32):zab Tryz.prog 379 [bs seed] (.r (.ag (secS seed).v)):=by
 refine zaa (T:=Tab) mixed Tab_ok Tryz.func379 rfl (by kernel_rfl) ?_
 refine zh (λh=>?_) (λh=>zq ?_)
 ·simp only[zb]at h
  exact absurd hs (by omega)
 refine ze (zqs seed (by omega)) ?_
 refine za rfl rfl ?_
 refine za rfl rfl ?_
 exact cr
def pubS(seed:List UInt8):List UInt8:=(mulP baseP (secS seed) 253).bytes
theorem zr2(seed:List UInt8):(pubS seed).length=32:=Pt.bytes_len _
theorem zos(seed:List UInt8)(hs:seed.length=32):zab Tryz.prog 262 [bs seed] (.r (.tu [bs (pubS seed), .i .u8 0])):=by
 refine zaa (T:=Tab) mixed Tab_ok Tryz.func262 rfl (by kernel_rfl) ?_
 refine zh (λh=>?_) (λh=>zq ?_)
 ·simp only[zb]at h
  exact absurd hs (by omega)
 refine ze zt8 ?_
 refine ze (zyd seed hs) ?_
 refine ze (zx7 baseP (secS seed)) ?_
 refine ze (zqw (mulP baseP (secS seed) 253)) ?_
 exact⟨_,rfl,cr⟩
end
section
def sigR(seed text:List UInt8):S4:=scOf (zcx [secB seed,text])
def sigP(seed text:List UInt8):List UInt8:=(mulP baseP (sigR seed text) 253).bytes
def sigK(seed text:List UInt8):S4:=scOf (zcx [sigP seed text,pubS seed,text])
def sigB(seed text:List UInt8):List UInt8:=sigP seed text++((sigR seed text).sum ((sigK seed text).mul (secS seed))).once.bytes
theorem zsf(seed text:List UInt8):(sigP seed text).length=32:=Pt.bytes_len _
theorem z13(seed text:List UInt8):(sigB seed text).length=64:=by rw[sigB,List.length_append,zsf,S4.bytes_len]
theorem z12(seed:List UInt8):(secB seed).length=32:=by rw[secB,List.length_drop,zot,zbz]
theorem zvd(a b:List UInt8):[a,b].flatMap id=a++b:=by simp
theorem z9d(a b c:List UInt8):[a,b,c].flatMap id=a++b++c:=by simp
set_option maxHeartbeats 1000000 in
theorem zyb(seed text P B L1 Q L2 R1:List UInt8)(s r k m z:S4)(M:Pt)(hs:seed.length=32)(ht:text.length<=1000000000)(hP:P.length=32)(hB:B.length=32)(hQ:Q.length=32)(hR:R1.length=32)(hL1:L1.length=64)(hL2:L2.length=64)
  (c1:zab Tryz.prog 262 [bs seed] (.r (.tu [bs P, .i .u8 0])))
  (c2:zab Tryz.prog 329 [bs seed] (.r (.tu [.ag s.v,bs B])))
  (c3:zab Tryz.prog 308 [bss [B,text]] (.r (bs L1)))
  (c4:zab Tryz.prog 307 [bs L1] (.r (.ag r.v)))
  (c6: ∀b:Pt,b=baseP->zab Tryz.prog 310 [.ag b.v, .ag r.v] (.r (.ag M.v)))
  (c7:zab Tryz.prog 330 [.ag M.v] (bch Q))
  (c8:zab Tryz.prog 308 [bss [Q,P,text]] (.r (bs L2)))
  (c9:zab Tryz.prog 307 [bs L2] (.r (.ag k.v)))
  (c10:zab Tryz.prog 332 [.ag k.v, .ag s.v] (.r (.ag m.v)))
  (c11:zab Tryz.prog 331 [.ag r.v, .ag m.v] (.r (.ag z.v)))
  (c12:zab Tryz.prog 333 [.ag z.v] (bch R1)):
  zab Tryz.prog 210 [bs seed,bs text] (.r (.tu [bs (Q++R1), .i .u8 0])):=by
 refine zaa (T:=Tab) mixed Tab_ok Tryz.func210 rfl (by kernel_rfl) ?_
 refine ze c1 ?_
 refine zu rfl (zq ?_)
 refine ze c2 ?_
 refine zw ?_
 refine ze c3 ?_
 refine ze c4 ?_
 refine Vdraw.mk' (by kernel_rfl) ?_
 obtain⟨b,hb⟩: ∃b,b=baseP:=⟨_,rfl⟩
 have c5:=zt8
 rw[<-hb]at c5
 refine ze c5 ?_
 refine za rfl rfl ?_
 refine ze (c6 b hb) ?_
 refine ze c7 ?_
 refine zw ?_
 refine ze c8 ?_
 refine ze c9 ?_
 refine Vdraw.mk' (by kernel_rfl) ?_
 refine za rfl rfl ?_
 refine za rfl rfl ?_
 refine za rfl rfl ?_
 refine ze c10 ?_
 refine ze c11 ?_
 refine ze c12 ?_
 refine zw ?_
 refine ze (zgm [Q,R1] (by rw[zvd,List.length_append];omega)) ?_
 exact⟨_,rfl,zf (by rw[zvd];rfl)⟩
theorem z7g(seed text:List UInt8)(hs:seed.length=32)(ht:text.length<=1000000000):zab Tryz.prog 210 [bs seed,bs text] (.r (.tu [bs (sigB seed text), .i .u8 0])):=by
 have h1:=z12 seed
 have h2:=zsf seed text
 have h3:=zr2 seed
 exact zyb seed text (pubS seed) (secB seed) (zcx [secB seed,text]) (sigP seed text) (zcx [sigP seed text,pubS seed,text]) _ (secS seed) (sigR seed text) (sigK seed text) ((sigK seed text).mul (secS seed)) _ (mulP baseP (sigR seed text) 253) hs ht h3 h1 h2 (S4.bytes_len _) (zbz _) (zbz _)
  (zos seed hs) (zqs seed (by omega)) (zxy [secB seed,text] (by rw[zvd,List.length_append];omega)) (zq0 _ (by rw[zbz];omega)) (λb hb=>by rw[hb];exact zx7 baseP (sigR seed text)) (zqw _)
  (zxy [sigP seed text,pubS seed,text] (by rw[z9d,List.length_append,List.length_append];omega)) (zq0 _ (by rw[zbz];omega)) (z4l _ _) (z4j _ _) (zya _)
theorem zpn(seed:List UInt8)(hs:seed.length≠32):zab Tryz.prog 262 [bs seed] (.r (.tu [bs [], .i .u8 1])):=by
 refine zaa (T:=Tab) mixed Tab_ok Tryz.func262 rfl (by kernel_rfl) ?_
 refine zt (by simp only[zb];omega) (zp ?_)
 exact⟨_,rfl,Cv.tu (zk (Cv.nil 1) (zn _))⟩
theorem zvx(seed text:List UInt8)(hs:seed.length≠32):zab Tryz.prog 210 [bs seed,bs text] (.r (.tu [bs [], .i .u8 1])):=by
 refine zaa (T:=Tab) mixed Tab_ok Tryz.func210 rfl (by kernel_rfl) ?_
 refine ze (zpn seed hs) ?_
 refine zt rfl (zp ?_)
 exact⟨_,rfl,Cv.tu (zk (Cv.nil 1) (zn _))⟩
end
section
def exp1(s info:List UInt8)(n:Nat):List UInt8:=(macB s (info++[1])).take n
theorem zlp(s info:List UInt8){n:Nat}(hn:n<=32):(exp1 s info n).length=n:=by
 unfold exp1
 rw[List.length_take,zdd]
 omega
def mlsB:List UInt8:=[77,76,83,32,49,46,48,32]
def labB(s label ctx:List UInt8)(n:Nat):List UInt8:=exp1 s (beB 2 n++vecB (mlsB++label)++vecB ctx) n
theorem Cv.sl{sz n:Nat}{cs ds:List RV}(h:Cvs cs ds):Cv (.sl sz n cs) (.sl sz n ds):=λw k v hv=>by
 simp only[RV.at_]at hv⊢
 obtain⟨a,c,e,h1,h2,h3,h4⟩:=hv
 exact⟨a,c,e,h1,h2,by rw[h.length];exact h3,λhn=>by obtain⟨b,o,ea,hb,hc⟩:=h4 hn;exact⟨b,o,ea,hb,h.cells hc⟩⟩
theorem zop(s info:List UInt8)(n:Nat)(hn:1<=n/\n<=32)(hs:s.length<=1000000000)(hi:info.length<=1000000000):zab Tryz.prog 229 [bs s,bs info,I n] (.r (.tu [bs (exp1 s info n),Er 0])):=by
 refine zaa (T:=Tab) mixed Tab_ok Tryz.func229 rfl (by kernel_rfl) ?_
 have hm:=zdd s (info++[1])
 refine Vcode.scope mixed Tab_ok 0 (λ_:Unit=>{F:=[(0, .r (bs s)),(1, .r (bs info)),(2, .r (I n)),(8, .own 0)],O:=[(0,some (.ch 5 1 32 ((macB s (info++[1])).map U8) true))],nx:=1}) (λ_=>True) (λ_=>0) rfl ?_ ?_
 ·refine zu (decide_eq_false (by omega)) ?_
  refine zu (decide_eq_false (by omega)) (zq ?_)
  refine zt (decide_eq_true (by omega)) (zp ?_)
  refine Vint.u8 1 rfl ?_
  refine zw ?_
  refine zw ?_
  refine Vcall.mk' (zvn s [[],info,[1]] hs (by simp;omega)) (zk (cr) (zk (Cv.sl (zk (Cv.nil _) (zn _))) Cvs.nil)) ?_
  refine Vapp.mk' (j:=32) (zs:=(macB s (info++[1])).map U8) (by simp[maxLen,zdd]) (by simp[zdd]) (by simp[zdd]) (by simp) ?_
  exact⟨(),trivial,zad [(0,3)] rfl ⟨cr,cr,cr,rfl,trivial⟩ ⟨⟨rfl,rfl,rfl,rfl,zn _⟩,trivial⟩⟩
 ·intro _ _
  refine zu (decide_eq_false (by omega)) (zq ?_)
  refine⟨by omega,by omega,by omega,n,(exp1 s info n).map U8,by omega,?_,?_⟩
  ·unfold exp1;rw[List.map_take];simp
  ·refine⟨_,rfl,zf ?_⟩
   simp only[bs,zlp s info hn.2]
   rfl
theorem zrs(s:ByteArray):((⟨#[77,76,83,32,49,46,48,32]⟩:ByteArray)++s).data.toList=mlsB++s.data.toList:=by simp[mlsB]
theorem ztu(s t:ByteArray):(s++t).size=s.size+t.size:=by simp
theorem zql(s:List UInt8)(label:ByteArray)(ctx:List UInt8)(n:Nat)(hn:1<=n/\n<=32)(hs:s.length<=1000000000)(hl:label.size<=1048576)(hc:ctx.length<=1048576):
  zab Tryz.prog 125 [bs s,Str label,bs ctx,I n] (.r (.tu [bs (labB s (sB label) ctx n),Er 0])):=by
 refine zaa (T:=Tab) mixed Tab_ok Tryz.func125 rfl (by kernel_rfl) ?_
 refine zu (decide_eq_false (by omega)) ?_
 refine zu (decide_eq_false (by omega)) (zq ?_)
 refine zu (decide_eq_false (by omega)) ?_
 refine zu (decide_eq_false (by omega)) (zq ?_)
 refine Vint.u64 n rfl (by omega) ?_
 refine Vcall.mk' (zec [] 2 n (by simp) (.inr (.inl rfl))) (zk (Cv.nil _) (zn _)) ?_
 have hd:=zrs label
 have hsz:label.data.toList.length=label.size:=rfl
 have hml:mlsB.length=8:=rfl
 refine⟨by show 8+label.size<=_;omega,?_⟩
 refine⟨by rw[ztu];show 8+label.size<=_;omega,?_⟩
 have hb:(beB 2 n).length=2:=zay 2 n
 refine ze (za6 ([]++beB 2 n) ((⟨#[77,76,83,32,49,46,48,32]⟩:ByteArray)++label).data.toList (by simp[hb]) (by rw[hd,List.length_append];omega)) ?_
 rw[hd]
 have hv:=zal (mlsB++label.data.toList)
 have hv2:=zal ctx
 rw[List.length_append]at hv
 refine ze (za6 ([]++beB 2 n++vecB (mlsB++label.data.toList)) ctx (by simp only[List.length_append,List.length_nil,hb];omega) (by omega)) ?_
 refine ze (zop s ([]++beB 2 n++vecB (mlsB++label.data.toList)++vecB ctx) n hn hs (by simp only[List.length_append,List.length_nil,hb];omega)) ?_
 exact⟨_,rfl,cr⟩
theorem zfa(s:List UInt8)(label:ByteArray)(hs:s.length<=1000000000)(hl:label.size<=1048576):zab Tryz.prog 54 [bs s,Str label] (.r (bs (labB s (sB label) [] 32))):=by
 refine zaa (T:=Tab) mixed Tab_ok Tryz.func54 rfl (by kernel_rfl) ?_
 refine Vcall.mk' (zql s label [] 32 (by omega) hs hl (by simp)) (zk (cr) (zk (cr) (zk (Cv.nil _) (zn _)))) ?_
 exact cr
end
section
def zkx(label text:List UInt8):List UInt8:=vecB (mlsB++label)++vecB text
theorem zmr(label:ByteArray)(text:List UInt8)(hl:label.size<=1048576)(ht:text.length<=1000000000):zab Tryz.prog 196 [Str label,bs text] (bch (zkx (sB label) text)):=by
 refine zaa (T:=Tab) mixed Tab_ok Tryz.func196 rfl (by kernel_rfl) ?_
 have hd:=zrs label
 have hsz:label.data.toList.length=label.size:=rfl
 have hml:mlsB.length=8:=rfl
 refine⟨by show 8+label.size<=_;omega,?_⟩
 refine⟨by rw[ztu];show 8+label.size<=_;omega,?_⟩
 refine Vcall.mk' (za6 [] ((⟨#[77,76,83,32,49,46,48,32]⟩:ByteArray)++label).data.toList (by simp) (by rw[hd,List.length_append];omega)) (zk (Cv.nil _) (zn _)) ?_
 rw[hd]
 have hv:=zal (mlsB++label.data.toList)
 rw[List.length_append]at hv
 refine ze (za6 ([]++vecB (mlsB++label.data.toList)) text (by simp only[List.length_append,List.length_nil];omega) (by omega)) ?_
 exact zfx (by simp[zkx,sB])
def zpx(seed label text:List UInt8):List UInt8:=sigB seed (zkx label text)
theorem zt7(seed:List UInt8)(label:ByteArray)(text:List UInt8)(hs:seed.length=32)(hl:label.size<=1048576)(ht:text.length<=500000000):zab Tryz.prog 109 [bs seed,Str label,bs text] (.r (.tu [bs (zpx seed (sB label) text),Er 0])):=by
 refine zaa (T:=Tab) mixed Tab_ok Tryz.func109 rfl (by kernel_rfl) ?_
 have hsz:(sB label).length=label.size:=rfl
 have hml:mlsB.length=8:=rfl
 have hv:=zal (mlsB++sB label)
 have hv2:=zal text
 rw[List.length_append]at hv
 refine ze (zmr label text hl (by omega)) ?_
 refine ze (z7g seed (zkx (sB label) text) hs (by rw[zkx,List.length_append];omega)) ?_
 exact⟨_,rfl,cr⟩
theorem zs6(seed:List UInt8)(label:ByteArray)(text:List UInt8)(hs:seed.length≠32)(hl:label.size<=1048576)(ht:text.length<=500000000):zab Tryz.prog 109 [bs seed,Str label,bs text] (.r (.tu [bs [],Er 1])):=by
 refine zaa (T:=Tab) mixed Tab_ok Tryz.func109 rfl (by kernel_rfl) ?_
 have hsz:(sB label).length=label.size:=rfl
 have hml:mlsB.length=8:=rfl
 have hv:=zal (mlsB++sB label)
 have hv2:=zal text
 rw[List.length_append]at hv
 refine ze (zmr label text hl (by omega)) ?_
 refine ze (zvx seed (zkx (sB label) text) hs) ?_
 exact⟨_,rfl,cr⟩
end
section
def nums(l:List UInt8):List Int:=l.map λb=>(b.toNat:Int)
theorem znu{S:Nat->Prop}(p:AC)(l:List UInt8)(w:World)(hp:By w S p l):(convert 22 9 (.slice p.a l.length p.c)).run Tryz.prog w= .ok (.string (strOfNums (nums l))) w:=by
 rcases Nat.eq_zero_or_pos l.length with hn |hn
 ·have hl:l=[]:=List.eq_nil_of_length_eq_zero hn
  subst hl
  rw[run_convert_bytes_string w _ _ _ _ _ _ Tryz.underlying22 Tryz.underlying5 Tryz.underlying9]
  simp only[List.length_nil]
  cases p.a<;>simp[Conv.bytesToString,loadCells]
  all_goals rfl
 ·obtain⟨b,o,e,hc⟩:=hp.form hn
  rw[e]
  exact run_convert_bytes_arg w _ _ Tryz.underlying22 Tryz.underlying5 b o l.length p.c (nums l) (by simp[nums]) (λi hi=>by
   rw[hc i hi]
   simp[nums,hi]) _ Tryz.underlying9
theorem z5a(l m:List UInt8):((strOfNums (nums l)).toList==(strOfNums (nums m)).toList)=decide (l=m):=by
 have h: ∀l:List UInt8,(strOfNums (nums l)).toList=l:=λl=>by
  rw[Lib.strOfNums_toList]
  simp[Lib.bytesOf,nums,Function.comp_def]
 rw[h,h]
 by_cases e:l=m
 ·subst e
  simp
 ·simp[e]
theorem zu4(p q:AC)(l m:List UInt8){S:Nat->Prop}(w:World)(hp:By w S p l)(hq:By w S q m):
  Calls Tryz.prog 65 #[.slice p.a l.length p.c, .slice q.a m.length q.c] w λe w'=>e= .returned (.bool (decide (l=m)))/\w'=w:=by
 have g1:=znu p l w hp
 have g2:=znu q m w hq
 rw[<-z5a]
 generalize strOfNums (nums l)=s1 at*
 generalize strOfNums (nums m)=s2 at*
 obtain⟨a,c⟩:=p
 obtain⟨a',c'⟩:=q
 go_enter Tryz.func65,Tryz.ntmps65
 go_wp2_with fail
 go_ret
 exact⟨rfl,rfl⟩
theorem z0d(l m:List UInt8):zab Tryz.prog 65 [bs l,bs m] (.r (.b (decide (l=m)))):=
 zby (za2 Tryz.func65 rfl (by kernel_rfl)) λw k vs hp=>by
  obtain⟨a,b,rfl,h1,h2⟩:=zez hp
  obtain⟨p,rfl,hp1⟩:=zd7 h1
  obtain⟨q,rfl,hq1⟩:=zd7 h2
  exact(zu4 p q l m w hp1 hq1).mono λ_ _ ⟨e,hw⟩=>⟨_,e,hw▸Ext.refl _,k,λ_ _=>rfl,by simp[Res.at_,RV.at_]⟩
end
section
abbrev boxS:ByteArray:=⟨#[98,111,120]⟩
abbrev nl:RV:= .x (.slice none 0 0)
theorem zjp(seed label text:List UInt8):(zpx seed label text).length=64:=z13 _ _
def u64N(n:Int):Nat:=(n%18446744073709551616).toNat
theorem zzm(x:Int)(h:i64 x):IntKind.u64.wrap x=((u64N x:Nat):Int):=by
 unfold i64 at h
 unfold IntKind.wrap u64N
 simp only[IntKind.bits,IntKind.signed]
 simp
 omega
def zf8(l:Leaf)(group:List UInt8)(at_:Int):List UInt8:=if l.src.toNat=1 then zbj l else zbj l++vecB group++beB 4 (u64N at_)
def ze8(l:Leaf)(at_:Int):Bool:=decide (l.src.toNat=1)||(decide (0<=at_)&&decide (at_<65536))
theorem zgx(l:Leaf):(zbj l).length<=l.box.length+l.sign.length+l.ident.length+l.parent.length+17:=by
 have v1:=zal l.box
 have v2:=zal l.sign
 have v3:=zal l.ident
 have v4:=zal l.parent
 unfold zbj
 split<;>simp only[List.length_append,List.length_cons,List.length_nil]<;>omega
theorem z2b(l:Leaf)(group:List UInt8)(at_:Int):(zf8 l group at_).length<=l.box.length+l.sign.length+l.ident.length+l.parent.length+group.length+25:=by
 have h:=zgx l
 have v:=zal group
 have b:=zay 4 (u64N at_)
 unfold zf8
 split
 ·omega
 ·simp only[List.length_append]
  omega
theorem z7j(l:Leaf)(group:List UInt8)(at_:Int)(hl:l.fit)(hg:group.length<=1000000000)(ha:i64 at_):zab Tryz.prog 216 [.ag l.c,bs group,I at_] (.r (.tu [bs (zf8 l group at_), .b (ze8 l at_)])):=by
 refine zaa (T:=Tab) mixed Tab_ok Tryz.func216 rfl (by kernel_rfl) ?_
 obtain⟨h1,h2,h3,h4,h5⟩:=hl
 have hA:=zgx l
 have hv:=zal group
 refine za rfl rfl ?_
 refine Vcall.mk' (zh8 [] l (by simp) ⟨h1,h2,h3,h4,h5⟩) (zk (Cv.nil _) (zn _)) ?_
 rw[List.nil_append]
 refine zh (λh=>zp ?_) (λh=>zq ?_)
 ·simp only[zb]at h
  have h':l.src.toNat=1:=by omega
  have e1:zf8 l group at_=zbj l:=if_pos h'
  have e2:ze8 l at_=true:=by simp[ze8,h']
  rw[e1,e2]
  exact⟨_,rfl,cr⟩
 ·simp only[zb]at h
  have h':l.src.toNat≠1:=by omega
  have e1:zf8 l group at_=zbj l++vecB group++beB 4 (u64N at_):=if_neg h'
  have e2:ze8 l at_=(decide (0<=at_)&&decide (at_<65536)):=by simp[ze8,h']
  refine ze (za6 (zbj l) group (by omega) (by omega)) ?_
  refine Vint.n ((u64N at_:Nat):Int) (zzm at_ ha).symm ?_
  refine ze (zec (zbj l++vecB group) 4 (u64N at_) (by rw[List.length_append];omega) (.inr (.inr (.inl rfl)))) ?_
  rw[e1,e2]
  refine zh (λh0=>?_) (λh0=>?_)
  ·simp only[zb]at h0
   have h0':0<=at_:=h0
   refine Vcmp.mk' (m:=decide (at_<65536)) rfl ?_
   exact⟨_,rfl,zf (by rw[decide_eq_true h0'];rfl)⟩
  ·simp only[zb]at h0
   have h0': ¬0<=at_:=h0
   exact⟨_,rfl,zf (by rw[decide_eq_false h0'];rfl)⟩
def zS64:List UInt8:=List.replicate 64 0
def z9j:List UInt8:=[76,101,97,102,78,111,100,101,84,66,83]
def Leaf.with(l:Leaf)(s:List UInt8):Leaf:={l with sig:=s}
def zea(l:Leaf)(seed:List UInt8)(at_:Int):Nat:=if(l.with zS64).right=true then if ze8 l at_=true then if seed.length=32 then 0 else 1 else 1 else 3
def slOk(l:Leaf)(seed group:List UInt8)(at_:Int):Leaf:=l.with (zpx seed z9j (zf8 l group at_))
def zix(l:Leaf)(seed group:List UInt8)(at_:Int):RV:=if zea l seed at_=0 then .tu [.ag (slOk l seed group at_).c,Er 0]else .tu [.ag zl.c,Er (zea l seed at_)]
theorem zod:Cv (.ag [.x (.slice none 0 0), .x (.slice none 0 0), .x (.slice none 0 0), .i .u8 0, .x (.slice none 0 0), .x (.slice none 0 0)]) (.ag zl.c):=Cv.ag (zk (Cv.nil 1) (zk (Cv.nil 1) (zk (Cv.nil 1) (zk (cr) (zk (Cv.nil 1) (zk (Cv.nil 1) Cvs.nil))))))
theorem zgw:(List.replicate ((64:Int).toNat) ([Value.int .u8 0].map ofC)).flatten=zS64.map U8:=by simp[ofC,zS64]
abbrev lsS:ByteArray:=⟨#[76,101,97,102,78,111,100,101,84,66,83]⟩
section
variable (l:Leaf) (z seed group:List UInt8) (at_:Int) (hl:l.fit) (hz:zS64=z)
include hl hz
set_option maxRecDepth 100000 in
theorem zyc(hr:(l.with z).right=false):zab Tryz.prog 114 [.ag l.c,bs seed,bs group,I at_] (.r (.tu [.ag zl.c,Er 3])):=by
 refine zaa (T:=Tab) mixed Tab_ok Tryz.func114 rfl (by kernel_rfl) ?_
 have hzl:64=z.length:=by rw[<-hz];decide
 refine za rfl rfl ?_
 refine ze (zcv l hl) ?_
 refine⟨rfl,by decide,by decide,by decide,z.length,z.map U8,hzl,by rw[zgw,hz],zw ?_⟩
 refine za rfl rfl ?_
 refine Vcall.bool (zgb (l.with z)) (λhr'=>absurd hr' (by rw[hr];simp)) (λ_=>zt rfl (zp ?_))
 refine za rfl rfl ?_
 exact⟨_,rfl,Cv.tu (zk zod (zn _))⟩
variable (T:List UInt8) (β:Bool) (hr:(l.with z).right=true) (hT:zab Tryz.prog 216 [.ag (l.with z).c,bs group,I at_] (.r (.tu [bs T, .b β])))
include hr hT
set_option maxRecDepth 100000 in
theorem z00(hβ:β=false):zab Tryz.prog 114 [.ag l.c,bs seed,bs group,I at_] (.r (.tu [.ag zl.c,Er 1])):=by
 subst hβ
 refine zaa (T:=Tab) mixed Tab_ok Tryz.func114 rfl (by kernel_rfl) ?_
 have hzl:64=z.length:=by rw[<-hz];decide
 refine za rfl rfl ?_
 refine ze (zcv l hl) ?_
 refine⟨rfl,by decide,by decide,by decide,z.length,z.map U8,hzl,by rw[zgw,hz],zw ?_⟩
 refine za rfl rfl ?_
 refine Vcall.bool (zgb (l.with z)) (λ_=>zu rfl (zq ?_)) (λhr'=>absurd hr' (by rw[hr];simp))
 refine za rfl rfl ?_
 refine ze hT ?_
 refine zt rfl (zp ?_)
 refine za rfl rfl ?_
 exact⟨_,rfl,Cv.tu (zk zod (zn _))⟩
set_option maxRecDepth 100000 in
theorem z01(q:List UInt8)(e:Nat)(hβ:β=true)(hq:zab Tryz.prog 109 [bs seed,Str lsS,bs T] (.r (.tu [bs q,Er e])))(he:e=1):zab Tryz.prog 114 [.ag l.c,bs seed,bs group,I at_] (.r (.tu [.ag zl.c,Er 1])):=by
 subst hβ;subst he
 refine zaa (T:=Tab) mixed Tab_ok Tryz.func114 rfl (by kernel_rfl) ?_
 have hzl:64=z.length:=by rw[<-hz];decide
 refine za rfl rfl ?_
 refine ze (zcv l hl) ?_
 refine⟨rfl,by decide,by decide,by decide,z.length,z.map U8,hzl,by rw[zgw,hz],zw ?_⟩
 refine za rfl rfl ?_
 refine Vcall.bool (zgb (l.with z)) (λ_=>zu rfl (zq ?_)) (λhr'=>absurd hr' (by rw[hr];simp))
 refine za rfl rfl ?_
 refine ze hT ?_
 refine zu rfl (zq ?_)
 refine ze hq ?_
 refine zt rfl (zp ?_)
 refine za rfl rfl ?_
 exact⟨_,rfl,Cv.tu (zk zod (zn _))⟩
set_option maxRecDepth 100000 in
theorem z4n(q:List UInt8)(hβ:β=true)(hq:zab Tryz.prog 109 [bs seed,Str lsS,bs T] (.r (.tu [bs q,Er 0]))):zab Tryz.prog 114 [.ag l.c,bs seed,bs group,I at_] (.r (.tu [.ag (l.with q).c,Er 0])):=by
 subst hβ
 refine zaa (T:=Tab) mixed Tab_ok Tryz.func114 rfl (by kernel_rfl) ?_
 have hzl:64=z.length:=by rw[<-hz];decide
 refine za rfl rfl ?_
 refine ze (zcv l hl) ?_
 refine⟨rfl,by decide,by decide,by decide,z.length,z.map U8,hzl,by rw[zgw,hz],zw ?_⟩
 refine za rfl rfl ?_
 refine Vcall.bool (zgb (l.with z)) (λ_=>zu rfl (zq ?_)) (λhr'=>absurd hr' (by rw[hr];simp))
 refine za rfl rfl ?_
 refine ze hT ?_
 refine zu rfl (zq ?_)
 refine ze hq ?_
 refine zu rfl (zq ?_)
 refine za rfl rfl ?_
 refine za rfl rfl ?_
 exact⟨_,rfl,cr⟩
end
theorem zvy(l:Leaf)(seed group:List UInt8)(at_:Int)(hl:l.fit)(hg:group.length<=100000000)(hb:l.box.length+l.sign.length+l.ident.length+l.parent.length<=100000000)(ha:i64 at_):
  zab Tryz.prog 114 [.ag l.c,bs seed,bs group,I at_] (.r (zix l seed group at_)):=by
 have hl':=hl
 obtain⟨h1,h2,h3,h4,h5⟩:=hl'
 have hf:(l.with zS64).fit:=⟨h1,h2,h3,h4,by show zS64.length<=_;decide⟩
 have ht:=z2b l group at_
 have hT:zab Tryz.prog 216 [.ag (l.with zS64).c,bs group,I at_] (.r (.tu [bs (zf8 l group at_), .b (ze8 l at_)])):=z7j (l.with zS64) group at_ hf (by omega) ha
 have herr: ∀e:Nat,zea l seed at_=e->e≠0->zix l seed group at_= .tu [.ag zl.c,Er e]:=λe h h0=>by rw[zix,h,if_neg h0]
 cases hr:(l.with zS64).right with
 |false=>
  rw[herr 3 (by unfold zea;rw[if_neg (by rw[hr];simp)]) (by decide)]
  exact zyc l zS64 seed group at_ hl rfl hr
 |true=>
  cases ho:ze8 l at_ with
  |false=>
   rw[herr 1 (by unfold zea;rw[if_pos hr,if_neg (by rw[ho];simp)]) (by decide)]
   exact z00 l zS64 seed group at_ hl rfl _ _ hr hT ho
  |true=>
   by_cases hs:seed.length=32
   ·have hS:zix l seed group at_= .tu [.ag (slOk l seed group at_).c,Er 0]:=by
     have:zea l seed at_=0:=by unfold zea;rw[if_pos hr,if_pos ho,if_pos hs]
     rw[zix,if_pos this]
    rw[hS]
    exact z4n l zS64 seed group at_ hl rfl _ _ hr hT _ ho (zt7 seed lsS (zf8 l group at_) hs (by decide) (by omega))
   ·rw[herr 1 (by unfold zea;rw[if_pos hr,if_pos ho,if_neg hs]) (by decide)]
    exact z01 l zS64 seed group at_ hl rfl _ _ hr hT _ _ ho (zs6 seed lsS (zf8 l group at_) hs (by decide) (by omega)) rfl
end
end Go.Proofs.YtlofklpckddkfaaGreat.Sx
