import Derived.Test.YtddokcpcpoihmaaGreatZFw
import Derived.Test.YtddokcpcpoihmaaGreatZEq
import Derived.Test.YtddokcpcpoihmaaGreatZEa
import Derived.Test.YtddokcpcpoihmaaGreatZFb
import Derived.Test.YtddokcpcpoihmaaGreatZKi
import Derived.Test.YtddokcpcpoihmaaGreatZSha
namespace Go.Proofs.YtddokcpcpoihmaaGreat.Sx
open Go.RowKit
section
def zda(y:Fe):Fe:=((y.mul y).sub one).mul ((dC.mul (y.mul y)).add one).inv
theorem zyq(y:Fe):((y.mul y).sub one).mul ((dC.mul (y.mul y)).add one).inv=zda y:=rfl
attribute [irreducible] zda
theorem zv7(y:Fe):zab Tryz.prog 118 [.ag y.v] (.r (.tu [.ag (zbd (zda y)).1.v, .b (zbd (zda y)).2])):=by
 refine zaa (T:=Tab) mixed Tab_ok Tryz.func118 rfl (by kernel_rfl) ?_
 refine za rfl rfl ?_
 refine zd (zci y) ?_
 refine Vdraw.mk' (by kernel_rfl) ?_
 refine za rfl rfl ?_
 refine zd zhu ?_
 refine zd (ze7 (y.mul y) one) ?_
 refine zd h_d ?_
 refine za rfl rfl ?_
 refine zd (zaz dC (y.mul y)) ?_
 refine zd zhu ?_
 refine zd (zd1 (dC.mul (y.mul y)) one) ?_
 refine zd (zjl ((dC.mul (y.mul y)).add one)) ?_
 refine zd (zaz ((y.mul y).sub one) ((dC.mul (y.mul y)).add one).inv) ?_
 rw[zyq]
 refine zd (z4l (zda y)) ?_
 refine za rfl rfl ?_
 exact⟨_,rfl,cr⟩
def zhl:Fe:=(numF 4).mul (numF 5).inv
theorem zyg:(numF 4).mul (numF 5).inv=zhl:=rfl
attribute [irreducible] zhl
def baseP:Pt:=Pt.of (zbd (zda zhl)).1 zhl
theorem zna:zab Tryz.prog 57 [] (.r (.ag baseP.v)):=by
 refine zaa (T:=Tab) mixed Tab_ok Tryz.func57 rfl (by kernel_rfl) ?_
 refine zd h_n4 ?_
 refine zd h_n5 ?_
 refine zd (zjl (numF 5)) ?_
 refine zd (zaz (numF 4) (numF 5).inv) ?_
 rw[zyg]
 refine za rfl rfl ?_
 refine zd (zv7 zhl) ?_
 refine za rfl rfl ?_
 refine za rfl rfl ?_
 refine zd (zuf (zbd (zda zhl)).1 zhl) ?_
 refine za rfl rfl ?_
 exact cr
attribute [irreducible] baseP
end
section
theorem z6a{l:List UInt64}{j:Nat}(h:j<l.length):(l.map W)[j*1]?=some (W (l.getD j 0)):=by
 rw[Nat.mul_one,List.getElem?_map,List.getElem?_eq_getElem h,List.getD_eq_getElem?_getD,List.getElem?_eq_getElem h]
 rfl
def mL(a b w:UInt64):UInt64:=a*b+w+0
def mIn(a:UInt64)(y:S4)(w:List UInt64)(i:Nat):Nat->List UInt64×UInt64
 |0=>(w,0)
 |k+1=>
  let s:=mIn a y w i k
  let b:=y.l.getD k 0
  let v:=s.1.getD (i+k) 0
  (s.1.set (i+k) (mL a b v+s.2+0),(mulH a b+carW (a*b) v 0)+carW (mL a b v) s.2 0)
theorem zqq(a:UInt64)(y:S4)(w:List UInt64)(i:Nat):mIn a y w i 0=(w,0):=rfl
theorem zkz(a:UInt64)(y:S4)(w:List UInt64)(i k:Nat):mIn a y w i (k+1)=((mIn a y w i k).1.set (i+k) (mL a (y.l.getD k 0) ((mIn a y w i k).1.getD (i+k) 0)+(mIn a y w i k).2+0),(mulH a (y.l.getD k 0)+carW (a*(y.l.getD k 0)) ((mIn a y w i k).1.getD (i+k) 0) 0)+carW (mL a (y.l.getD k 0) ((mIn a y w i k).1.getD (i+k) 0)) (mIn a y w i k).2 0):=rfl
theorem znd(a:UInt64)(y:S4)(w:List UInt64)(i:Nat): ∀k,(mIn a y w i k).1.length=w.length
 |0=>rfl
 |k+1=>by rw[zkz,List.length_set,znd a y w i k]
attribute [irreducible] mIn
def mOut(x y:S4):Nat->List UInt64
 |0=>List.replicate 8 0
 |i+1=>(mIn (x.l.getD i 0) y (mOut x y i) i 4).1.set (i+4) (mIn (x.l.getD i 0) y (mOut x y i) i 4).2
theorem zw7(x y:S4):mOut x y 0=List.replicate 8 0:=rfl
theorem zoa(x y:S4)(i:Nat):mOut x y (i+1)=(mIn (x.l.getD i 0) y (mOut x y i) i 4).1.set (i+4) (mIn (x.l.getD i 0) y (mOut x y i) i 4).2:=rfl
theorem zhz(x y:S4): ∀i,(mOut x y i).length=8
 |0=>by simp[mOut]
 |i+1=>by rw[zoa,List.length_set,znd,zhz x y i]
attribute [irreducible] mOut
def S4.mul(x y:S4):S4:=zjs (mOut x y 4)
def smO1(x y:S4)(i:Nat):St:={F:=[(3, .own 1),(4, .own 2),(5, .own 3),(16, .r (.ag x.v)),(17, .r (I i))],O:=[(1,some y.bx),(2,some (S4.bx ⟨0,0,0,0⟩)),(3,some (.ch 104 1 8 ((mOut x y i).map W) false))],nx:=4}
def smI1(x y:S4)(i k:Nat):St:={F:=[(3, .own 1),(4, .own 2),(5, .own 3),(16, .r (.ag x.v)),(17, .r (I i)),(6, .r (I i)),(7, .r (W (x.l.getD i 0))),(8, .r (W (mIn (x.l.getD i 0) y (mOut x y i) i k).2)),(22, .r (.ag y.v)),(23, .r (I k))],O:=[(1,some y.bx),(2,some (S4.bx ⟨0,0,0,0⟩)),(3,some (.ch 104 1 8 ((mIn (x.l.getD i 0) y (mOut x y i) i k).1.map W) false))],nx:=4}
theorem zs8:(List.replicate ((8:Int).toNat) ([Value.int .u64 0].map ofC)).flatten=(List.replicate 8 (0:UInt64)).map W:=by simp[ofC]
set_option maxHeartbeats 4000000 in
theorem z2h(x y:S4):zab Tryz.prog 132 [.ag x.v, .ag y.v] (.r (.ag (x.mul y).v)):=by
 refine zaa (T:=Tab) mixed Tab_ok Tryz.func132 rfl (by kernel_rfl) ?_
 refine⟨rfl,by decide,by decide,by decide,_,_,rfl,zs8,Vpub.own ?_⟩
 refine za rfl rfl ?_
 refine zw (smO1 x y) (λi=>i<=4) (λi=>4-i) 0 (by omega) (zac [(1,1),(2,2),(3,3)] rfl ⟨rfl,rfl,rfl,cr,cr,trivial⟩ ⟨⟨_,_,rfl,cr,_,_,rfl,cr,_,_,rfl,cr,_,_,rfl,cr,rfl⟩,⟨_,_,rfl,cr,_,_,rfl,cr,_,_,rfl,cr,_,_,rfl,cr,rfl⟩,⟨rfl,rfl,rfl,rfl,by rw[zw7];exact zm _⟩,trivial⟩) ?_
 intro i hi
 refine zg (λh=>zo ?_) (λh=>zp ?_)
 ·simp only[zb]at h
  have hi':i<4:=by omega
  refine zk (by omega) (by omega) (zuj (l:=x.l) rfl (by show i<4;omega)) ?_
  refine za rfl rfl ?_
  refine zw (smI1 x y i) (λk=>k<=4) (λk=>4-k) 0 (by omega) (zac [(1,1),(2,2),(3,3)] rfl ⟨rfl,rfl,rfl,cr,cr,cr,cr,by rw[zqq];exact cr,cr,cr,trivial⟩ ⟨⟨_,_,rfl,cr,_,_,rfl,cr,_,_,rfl,cr,_,_,rfl,cr,rfl⟩,⟨_,_,rfl,cr,_,_,rfl,cr,_,_,rfl,cr,_,_,rfl,cr,rfl⟩,⟨rfl,rfl,rfl,rfl,by rw[zqq];exact zm _⟩,trivial⟩) ?_
  intro k hk
  have hL:(mIn (x.l.getD i 0) y (mOut x y i) i k).1.length=8:=by rw[znd,zhz]
  refine zg (λh=>zo ?_) (λh=>zp ?_)
  ·simp only[zb]at h
   have hk':k<4:=by omega
   refine zk (by omega) (by omega) (zuj (l:=y.l) rfl (by show k<4;omega)) ?_
   refine zd (zm9 (x.l.getD i 0) (y.l.getD k 0)) ?_
   refine zc (m:=((i+k:Nat):Int)) (by omega) (by omega) ?_
   refine Vadr.mk' (i+k) rfl (by omega) ?_
   refine zf (z6a (by rw[hL];omega)) ?_
   refine Vcall.ext (zd9 (x.l.getD i 0*y.l.getD k 0) _ 0 (by decide)) ?_
   refine Vint.wadd _ _ rfl rfl ?_
   refine Vcall.ext (zd9 (mL (x.l.getD i 0) (y.l.getD k 0) ((mIn (x.l.getD i 0) y (mOut x y i) i k).1.getD (i+k) 0)) (mIn (x.l.getD i 0) y (mOut x y i) i k).2 0 (by decide)) ?_
   refine zc (m:=((i+k:Nat):Int)) (by omega) (by omega) ?_
   refine Vint.wadd _ _ rfl rfl ?_
   refine Vadr.mk' (i+k) rfl (by omega) ?_
   refine⟨by rw[List.length_map,hL];show(i+k)*1+1<=8;omega,(mIn (x.l.getD i 0) y (mOut x y i) i (k+1)).1.map W,?_,?_⟩
   ·rw[zkz,Nat.mul_one]
    exact zbj (by rw[hL];omega)
   refine zc (m:=((k+1:Nat):Int)) (by omega) (by omega) ?_
   exact⟨k+1,by omega,by omega,zac [(1,1),(2,2),(3,3)] rfl ⟨rfl,rfl,rfl,cr,cr,cr,cr,by rw[zkz];exact cr,cr,cr,trivial⟩ ⟨⟨_,_,rfl,cr,_,_,rfl,cr,_,_,rfl,cr,_,_,rfl,cr,rfl⟩,⟨_,_,rfl,cr,_,_,rfl,cr,_,_,rfl,cr,_,_,rfl,cr,rfl⟩,⟨rfl,rfl,rfl,rfl,zm _⟩,trivial⟩⟩
  ·simp only[zb]at h
   obtain rfl:k=4:=by omega
   refine zc (m:=((i+4:Nat):Int)) (by omega) (by omega) ?_
   refine Vadr.mk' (i+4) rfl (by omega) ?_
   refine⟨by rw[List.length_map,hL];show(i+4)*1+1<=8;omega,(mOut x y (i+1)).map W,?_,?_⟩
   ·rw[zoa,Nat.mul_one]
    exact zbj (by rw[hL];omega)
   refine zc (m:=((i+1:Nat):Int)) (by omega) (by omega) ?_
   exact⟨i+1,by omega,by omega,zac [(1,1),(2,2),(3,3)] rfl ⟨rfl,rfl,rfl,cr,cr,trivial⟩ ⟨⟨_,_,rfl,cr,_,_,rfl,cr,_,_,rfl,cr,_,_,rfl,cr,rfl⟩,⟨_,_,rfl,cr,_,_,rfl,cr,_,_,rfl,cr,_,_,rfl,cr,rfl⟩,⟨rfl,rfl,rfl,rfl,zm _⟩,trivial⟩⟩
 ·simp only[zb]at h
  obtain rfl:i=4:=by omega
  have hrd:=zqc (mOut x y 4) (by rw[zhz];omega)
  rw[<-zya _ _ (zhz x y 4)]at hrd
  refine Vstep.sub (zbe (id:=3) rfl) (Vstep.val Tab_ok (zd hrd ?_))
  refine za rfl rfl ?_
  exact cr
end
section
section
variable {P:Program} {T:TT} {S:St}
theorem zu4{id t n:Nat}(vs:List RV)(hf:fget S.F t=some (.cut id 0 n))(ho:oget S.O id=some (.box (vs.map .r)))(hn:vs.length=n):Sub S ⟨(t, .r (.sl 1 n vs))::S.F,(id,none)::S.O,S.nx⟩:=by
 rintro B N a w k ⟨g,hs⟩
 obtain⟨b,k',hg,hle,hb,hc,h⟩:=hs.pub ho
 have hv:=(hs.facts t _ hf).2
 simp only[TF.at_]at hv
 obtain⟨b',c,e,hv,h1,h2⟩:=hv
 rw[hg]at e
 cases e
 refine⟨k',g,h.size,h.defers,h.keep,h.kk,λt' f hf'=>?_,h.owns,h.apart⟩
 rcases zav hf' with⟨rfl,rfl⟩ |⟨_,hf'⟩
 ·refine⟨trivial,?_⟩
  simp only[TF.at_,RV.at_]
  exact⟨_,c,hv,h1,h2,by rw[Nat.mul_one];exact hn,λ_=>⟨b,0,rfl,hb,hc⟩⟩
 ·exact h.facts t' f hf'
theorem Vcode.sub(hm:P.follows .mixedOrders=true)(hT:TOk P T){c:Code}{S':St}{Q:Exit->St->Prop}(hs:Sub S S')(h:vcg P T c S' Q):Vcode P c S Q:=
 ⟨λB N a w k Q' h0 hd hQ=>by
  obtain⟨k',h1⟩:=hs B N a w k h0
  exact zap hm hT c S' Q h B N a w k' Q' h1 hd hQ⟩
theorem Vstep.actsNew{o:Oper}{l:List RV}{f:FuncId}{args:List TF}{n:Nat}{K:St->Prop}(hA:Acts P f 0 [] args [] 1 [(0, .box (l.map .r))] (.cut 0 0 n))(hcall:Handed P S o [] f args)
  (hK:newK ⟨S.F,(S.nx,some (.box (l.map .r)))::S.O,S.nx+1⟩ o.dst (.cut S.nx 0 n) none K):Vstep P S o K:=by
 refine zi [] [] (λ_ _=>hA) hcall rfl trivial trivial ?_
 rw[zie]
 rw[zas]at hK
 have e:(l.map TF.r).map (zcz (ren [] [] S.nx))=l.map TF.r:=by
  rw[List.map_map]
  exact List.map_congr_left λx _=>rfl
 have e2:zif [] [] S 1 [(0, .box (l.map .r))] (.cut 0 0 n) o.dst=St.new ⟨S.F,(S.nx,some (.box (l.map .r)))::S.O,S.nx+1⟩ o.dst (.cut S.nx 0 n) none:=by
  show St.put ⟨S.F,(S.nx,some (.box ((l.map TF.r).map (zcz (ren [] [] S.nx)))))::S.O,S.nx+1⟩ o.dst (.cut S.nx 0 n)=_
  rw[e]
  rfl
 rw[e2]
 exact hK
end
set_option maxRecDepth 100000 in
theorem z2b(ls:List (List UInt8))(hl:(ls.flatMap id).length<=10000000000):Acts Tryz.prog 129 0 [] [.r (bss ls)] [] 1 [(0,boxB (zbu ls))] (.cut 0 0 64):=by
 refine zc3 (T:=Tab) mixed Tab_ok Tryz.func129 rfl (by kernel_rfl) rfl trivial ?_
 refine zd (zf6 ls (by omega)) ?_
 refine zd (zsw (ls.flatMap id) hl) ?_
 (conv=>whnf)
 generalize hq:(za2 _&&_)=q
 obtain rfl:=hq.symm.trans (zlg (l:=(zbu ls).map U8) 64 (by rw[List.length_map,zbl]) rfl)
 clear hq
 refine zga (by rw[List.length_map,List.length_map];show(List.replicate 64 (Value.int .u8 0)).length=_;rw[List.length_replicate];exact(zbl ls).symm) ?_
 refine Vstep.val Tab_ok (Vcutn.mk' 0 64 rfl rfl (by decide) (by decide) ?_)
 exact zg0 (.inl rfl) [(0,1)] [(2, .cut 0 0 64)] [] (by have h:=zdv ((zbu ls).map U8) 1;simp only[stOk,lift,boxB,List.map_cons,List.map_nil,List.append_nil,List.all_cons,List.all_nil,zde,h];rfl) ⟨⟨rfl,rfl,rfl⟩,trivial⟩ ⟨zae _,trivial⟩ trivial rfl
theorem zv2{l:List UInt8}{j:Nat}(h:j<l.length):lget ((l.map U8).map TF.r) (0+j*1)=some (TF.r (U8 (l.getD j 0))):=by
 rw[zal,Nat.zero_add,Nat.mul_one]
 exact zst h
theorem zpm{x:UInt8}{l:List UInt8}{j:Nat}(h:j<l.length):(za2 (U8 x)&&(Nat.beq (cellsOf (U8 x)).length 1&&Nat.ble (0+j*1+1) ((l.map U8).map TF.r).length))=true:=by
 rw[Nat.zero_add]
 exact zsn h
theorem zog{l:List UInt8}{j:Nat}{x:UInt8}{K:List TF->Prop}(h:j<l.length)(hK:K (((l.set j x).map U8).map TF.r)):putK ((l.map U8).map TF.r) (0+j*1) [TF.r (U8 x)] K:=by
 rw[Nat.zero_add]
 exact zq4 h hK
theorem zgd(l:List UInt8)(n:Nat)(h:l.length=n):RV.sl 1 n (l.map U8)=bs l:=by rw[<-h];rfl
def ze8(h:List UInt8):List UInt8:=h.set 0 (h.getD 0 0&&& ~~~7)
def zdo(h:List UInt8):List UInt8:=(ze8 h).set 31 (((ze8 h).getD 31 0&&&63)|||64)
theorem zwy(h:List UInt8):(ze8 h).length=h.length:=by simp[ze8]
theorem zn5(h:List UInt8):(zdo h).length=h.length:=by simp[zdo,ze8]
def secS(seed:List UInt8):S4:=scOf ((zdo (zbu [seed])).take 32)
def secB(seed:List UInt8):List UInt8:=(zdo (zbu [seed])).drop 32
set_option maxHeartbeats 1000000 in
theorem zp2(seed:List UInt8)(hs:seed.length<=1000000000):zab Tryz.prog 126 [bs seed] (.r (.tu [.ag (secS seed).v,bs (secB seed)])):=by
 refine zaa (T:=Tab) mixed Tab_ok Tryz.func126 rfl (by kernel_rfl) ?_
 refine Vpub.own ?_
 refine Vstep.sub (zbe (id:=1) rfl) (Vstep.actsNew (z2b [seed] (by simp;omega)) (zh rfl ⟨_,_,rfl,cr,rfl⟩) ?_)
 have hh:secS seed=scOf ((zdo (zbu [seed])).take 32):=rfl
 have hb:secB seed=(zdo (zbu [seed])).drop 32:=rfl
 have hl:=zbl [seed]
 rw[hh,hb]
 generalize zbu [seed]=h at*
 have hl0:(ze8 h).length=64:=by rw[zwy,hl]
 have hlB:(zdo h).length=64:=by rw[zn5,hl]
 refine Vadr.mk' 0 rfl (by decide) ?_
 (conv=>whnf)
 generalize hq:lget _ _=q
 obtain rfl:=hq.symm.trans (zv2 (l:=h) (j:=0) (by omega))
 clear hq
 refine Vbits.andn8 _ 7 rfl rfl ?_
 refine Vadr.mk' 0 rfl (by decide) ?_
 (conv=>whnf)
 generalize hq:(za2 _&&_)=q
 obtain rfl:=hq.symm.trans (zpm (x:=h.getD 0 0&&& ~~~7) (l:=h) (j:=0) (by omega))
 clear hq
 refine zog (l:=h) (j:=0) (by omega) ?_
 refine Vadr.mk' 31 rfl (by decide) ?_
 (conv=>whnf)
 generalize hq:lget _ _=q
 obtain rfl:=hq.symm.trans (zv2 (l:=ze8 h) (j:=31) (by omega))
 clear hq
 refine Vbits.and8 _ 63 rfl rfl ?_
 refine Vbits.or8 _ 64 rfl rfl ?_
 refine Vadr.mk' 31 rfl (by decide) ?_
 (conv=>whnf)
 generalize hq:(za2 _&&_)=q
 obtain rfl:=hq.symm.trans (zpm (x:=((ze8 h).getD 31 0&&&63)|||64) (l:=ze8 h) (j:=31) (by omega))
 clear hq
 refine zog (l:=ze8 h) (j:=31) (by omega) ?_
 refine Vdraw.code (Vcode.sub mixed Tab_ok (zu4 (t:=4) (n:=64) ((zdo h).map U8) rfl rfl (by rw[List.length_map,hlB])) ?_)
 refine Vdraw.mk' (by kernel_rfl) ?_
 have ht:((zdo h).take 32).length=32:=by rw[List.length_take,hlB];rfl
 have hd:((zdo h).drop 32).length=32:=by rw[List.length_drop,hlB]
 have hsc:=zl2 ((zdo h).take 32) (by omega)
 rw[<-zgd _ _ ht]at hsc
 rw[<-zgd _ _ hd]
 refine⟨by decide,by decide,by decide,32,((zdo h).take 32).map U8,rfl,by rw[List.map_take];rfl,?_⟩
 refine zd hsc ?_
 refine⟨by decide,by decide,by decide,32,((zdo h).drop 32).map U8,rfl,by rw[List.map_drop];exact List.take_of_length_le (by rw[List.length_drop,List.length_map,hlB];decide),?_⟩
 refine za rfl rfl ?_
 exact⟨_,rfl,cr⟩
end
section
theorem zwt(seed:List UInt8)(hs:seed.length=32):zab Tryz.prog 59 [bs seed] (.r (.ag (secS seed).v)):=by
 refine zaa (T:=Tab) mixed Tab_ok Tryz.func59 rfl (by kernel_rfl) ?_
 refine zg (λh=>?_) (λh=>zp ?_)
 ·simp only[zb]at h
  exact absurd hs (by omega)
 refine zd (zp2 seed (by omega)) ?_
 refine za rfl rfl ?_
 refine za rfl rfl ?_
 exact cr
def pubS(seed:List UInt8):List UInt8:=(mulP baseP (secS seed) 253).bytes
theorem zf9(seed:List UInt8):(pubS seed).length=32:=Pt.bytes_len _
theorem ziq(seed:List UInt8)(hs:seed.length=32):zab Tryz.prog 22 [bs seed] (.r (.tu [bs (pubS seed), .i .u8 0])):=by
 refine zaa (T:=Tab) mixed Tab_ok Tryz.func22 rfl (by kernel_rfl) ?_
 refine zg (λh=>?_) (λh=>zp ?_)
 ·simp only[zb]at h
  exact absurd hs (by omega)
 refine zd zna ?_
 refine zd (zwt seed hs) ?_
 refine zd (zl1 baseP (secS seed)) ?_
 refine zd (zp9 (mulP baseP (secS seed) 253)) ?_
 exact⟨_,rfl,cr⟩
end
section
def sigR(seed text:List UInt8):S4:=scOf (zbu [secB seed,text])
def sigP(seed text:List UInt8):List UInt8:=(mulP baseP (sigR seed text) 253).bytes
def sigK(seed text:List UInt8):S4:=scOf (zbu [sigP seed text,pubS seed,text])
def sigB(seed text:List UInt8):List UInt8:=sigP seed text++((sigR seed text).sum ((sigK seed text).mul (secS seed))).once.bytes
theorem zrg(seed text:List UInt8):(sigP seed text).length=32:=Pt.bytes_len _
theorem z0b(seed text:List UInt8):(sigB seed text).length=64:=by rw[sigB,List.length_append,zrg,S4.bytes_len]
theorem zz9(seed:List UInt8):(secB seed).length=32:=by rw[secB,List.length_drop,zn5,zbl]
theorem ztz(a b:List UInt8):[a,b].flatMap id=a++b:=by simp
theorem z0t(a b c:List UInt8):[a,b,c].flatMap id=a++b++c:=by simp
set_option maxHeartbeats 1000000 in
theorem zwk(seed text P B L1 Q L2 R1:List UInt8)(s r k m z:S4)(M:Pt)(hs:seed.length=32)(ht:text.length<=1000000000)(hP:P.length=32)(hB:B.length=32)(hQ:Q.length=32)(hR:R1.length=32)(hL1:L1.length=64)(hL2:L2.length=64)
  (c1:zab Tryz.prog 22 [bs seed] (.r (.tu [bs P, .i .u8 0])))
  (c2:zab Tryz.prog 126 [bs seed] (.r (.tu [.ag s.v,bs B])))
  (c3:zab Tryz.prog 129 [bss [B,text]] (.r (bs L1)))
  (c4:zab Tryz.prog 128 [bs L1] (.r (.ag r.v)))
  (c6: ∀b:Pt,b=baseP->zab Tryz.prog 58 [.ag b.v, .ag r.v] (.r (.ag M.v)))
  (c7:zab Tryz.prog 60 [.ag M.v] (bch Q))
  (c8:zab Tryz.prog 129 [bss [Q,P,text]] (.r (bs L2)))
  (c9:zab Tryz.prog 128 [bs L2] (.r (.ag k.v)))
  (c10:zab Tryz.prog 132 [.ag k.v, .ag s.v] (.r (.ag m.v)))
  (c11:zab Tryz.prog 131 [.ag r.v, .ag m.v] (.r (.ag z.v)))
  (c12:zab Tryz.prog 133 [.ag z.v] (bch R1)):
  zab Tryz.prog 61 [bs seed,bs text] (.r (.tu [bs (Q++R1), .i .u8 0])):=by
 refine zaa (T:=Tab) mixed Tab_ok Tryz.func61 rfl (by kernel_rfl) ?_
 refine zd c1 ?_
 refine zt rfl (zp ?_)
 refine zd c2 ?_
 refine zu ?_
 refine zd c3 ?_
 refine zd c4 ?_
 refine Vdraw.mk' (by kernel_rfl) ?_
 obtain⟨b,hb⟩: ∃b,b=baseP:=⟨_,rfl⟩
 have c5:=zna
 rw[<-hb]at c5
 refine zd c5 ?_
 refine za rfl rfl ?_
 refine zd (c6 b hb) ?_
 refine zd c7 ?_
 refine zu ?_
 refine zd c8 ?_
 refine zd c9 ?_
 refine Vdraw.mk' (by kernel_rfl) ?_
 refine za rfl rfl ?_
 refine za rfl rfl ?_
 refine za rfl rfl ?_
 refine zd c10 ?_
 refine zd c11 ?_
 refine zd c12 ?_
 refine zu ?_
 refine zd (zf6 [Q,R1] (by rw[ztz,List.length_append];omega)) ?_
 exact⟨_,rfl,ze (by rw[ztz];rfl)⟩
theorem z4n(seed text:List UInt8)(hs:seed.length=32)(ht:text.length<=1000000000):zab Tryz.prog 61 [bs seed,bs text] (.r (.tu [bs (sigB seed text), .i .u8 0])):=by
 have h1:=zz9 seed
 have h2:=zrg seed text
 have h3:=zf9 seed
 exact zwk seed text (pubS seed) (secB seed) (zbu [secB seed,text]) (sigP seed text) (zbu [sigP seed text,pubS seed,text]) _ (secS seed) (sigR seed text) (sigK seed text) ((sigK seed text).mul (secS seed)) _ (mulP baseP (sigR seed text) 253) hs ht h3 h1 h2 (S4.bytes_len _) (zbl _) (zbl _)
  (ziq seed hs) (zp2 seed (by omega)) (zp4 [secB seed,text] (by rw[ztz,List.length_append];omega)) (zl2 _ (by rw[zbl];omega)) (λb hb=>by rw[hb];exact zl1 baseP (sigR seed text)) (zp9 _)
  (zp4 [sigP seed text,pubS seed,text] (by rw[z0t,List.length_append,List.length_append];omega)) (zl2 _ (by rw[zbl];omega)) (z2h _ _) (z2f _ _) (zwi _)
theorem zou(seed:List UInt8)(hs:seed.length≠32):zab Tryz.prog 22 [bs seed] (.r (.tu [bs [], .i .u8 1])):=by
 refine zaa (T:=Tab) mixed Tab_ok Tryz.func22 rfl (by kernel_rfl) ?_
 refine zq (by simp only[zb];omega) (zo ?_)
 exact⟨_,rfl,Cv.tu (zj (Cv.nil 1) (zm _))⟩
theorem zuh(seed text:List UInt8)(hs:seed.length≠32):zab Tryz.prog 61 [bs seed,bs text] (.r (.tu [bs [], .i .u8 1])):=by
 refine zaa (T:=Tab) mixed Tab_ok Tryz.func61 rfl (by kernel_rfl) ?_
 refine zd (zou seed hs) ?_
 refine zq rfl (zo ?_)
 exact⟨_,rfl,Cv.tu (zj (Cv.nil 1) (zm _))⟩
end
section
def exp1(s info:List UInt8)(n:Nat):List UInt8:=(macB s (info++[1])).take n
theorem zkr(s info:List UInt8){n:Nat}(hn:n<=32):(exp1 s info n).length=n:=by
 unfold exp1
 rw[List.length_take,zey]
 omega
def mlsB:List UInt8:=[77,76,83,32,49,46,48,32]
def labB(s label ctx:List UInt8)(n:Nat):List UInt8:=exp1 s (beB 2 n++vecB (mlsB++label)++vecB ctx) n
theorem Cv.sl{sz n:Nat}{cs ds:List RV}(h:Cvs cs ds):Cv (.sl sz n cs) (.sl sz n ds):=λw k v hv=>by
 simp only[RV.at_]at hv⊢
 obtain⟨a,c,e,h1,h2,h3,h4⟩:=hv
 exact⟨a,c,e,h1,h2,by rw[h.length];exact h3,λhn=>by obtain⟨b,o,ea,hb,hc⟩:=h4 hn;exact⟨b,o,ea,hb,h.cells hc⟩⟩
theorem zn3(s info:List UInt8)(n:Nat)(hn:1<=n/\n<=32)(hs:s.length<=1000000000)(hi:info.length<=1000000000):zab Tryz.prog 167 [bs s,bs info,I n] (.r (.tu [bs (exp1 s info n),Er 0])):=by
 refine zaa (T:=Tab) mixed Tab_ok Tryz.func167 rfl (by kernel_rfl) ?_
 have hm:=zey s (info++[1])
 refine Vcode.scope mixed Tab_ok 0 (λ_:Unit=>{F:=[(0, .r (bs s)),(1, .r (bs info)),(2, .r (I n)),(8, .own 0)],O:=[(0,some (.ch 5 1 32 ((macB s (info++[1])).map U8) true))],nx:=1}) (λ_=>True) (λ_=>0) rfl ?_ ?_
 ·refine zt (decide_eq_false (by omega)) ?_
  refine zt (decide_eq_false (by omega)) (zp ?_)
  refine zq (decide_eq_true (by omega)) (zo ?_)
  refine Vint.u8 1 rfl ?_
  refine zu ?_
  refine zu ?_
  refine Vcall.mk' (z0u s [[],info,[1]] hs (by simp;omega)) (zj (cr) (zj (Cv.sl (zj (Cv.nil _) (zm _))) Cvs.nil)) ?_
  refine Vapp.mk' (j:=32) (zs:=(macB s (info++[1])).map U8) (by simp[maxLen,zey]) (by simp[zey]) (by simp[zey]) (by simp) ?_
  exact⟨(),trivial,zac [(0,3)] rfl ⟨cr,cr,cr,rfl,trivial⟩ ⟨⟨rfl,rfl,rfl,rfl,zm _⟩,trivial⟩⟩
 ·intro _ _
  refine zt (decide_eq_false (by omega)) (zp ?_)
  refine⟨by omega,by omega,by omega,n,(exp1 s info n).map U8,by omega,?_,?_⟩
  ·unfold exp1;rw[List.map_take];simp
  ·refine⟨_,rfl,ze ?_⟩
   simp only[bs,zkr s info hn.2]
   rfl
theorem zqv(s:ByteArray):((⟨#[77,76,83,32,49,46,48,32]⟩:ByteArray)++s).data.toList=mlsB++s.data.toList:=by simp[mlsB]
theorem zsm(s t:ByteArray):(s++t).size=s.size+t.size:=by simp
theorem zyt(s:List UInt8)(label:ByteArray)(ctx:List UInt8)(n:Nat)(hn:1<=n/\n<=32)(hs:s.length<=1000000000)(hl:label.size<=1048576)(hc:ctx.length<=1048576):
  zab Tryz.prog 98 [bs s,Str label,bs ctx,I n] (.r (.tu [bs (labB s (sB label) ctx n),Er 0])):=by
 refine zaa (T:=Tab) mixed Tab_ok Tryz.func98 rfl (by kernel_rfl) ?_
 refine zt (decide_eq_false (by omega)) ?_
 refine zt (decide_eq_false (by omega)) (zp ?_)
 refine zt (decide_eq_false (by omega)) ?_
 refine zt (decide_eq_false (by omega)) (zp ?_)
 refine Vint.u64 n rfl (by omega) ?_
 refine Vcall.mk' (zeu [] 2 n (by simp) (.inr (.inl rfl))) (zj (Cv.nil _) (zm _)) ?_
 have hd:=zqv label
 have hsz:label.data.toList.length=label.size:=rfl
 have hml:mlsB.length=8:=rfl
 refine⟨by show 8+label.size<=_;omega,?_⟩
 refine⟨by rw[zsm];show 8+label.size<=_;omega,?_⟩
 have hb:(beB 2 n).length=2:=zar 2 n
 refine zd (za8 ([]++beB 2 n) ((⟨#[77,76,83,32,49,46,48,32]⟩:ByteArray)++label).data.toList (by simp[hb]) (by rw[hd,List.length_append];omega)) ?_
 rw[hd]
 have hv:=zam (mlsB++label.data.toList)
 have hv2:=zam ctx
 rw[List.length_append]at hv
 refine zd (za8 ([]++beB 2 n++vecB (mlsB++label.data.toList)) ctx (by simp only[List.length_append,List.length_nil,hb];omega) (by omega)) ?_
 refine zd (zn3 s ([]++beB 2 n++vecB (mlsB++label.data.toList)++vecB ctx) n hn hs (by simp only[List.length_append,List.length_nil,hb];omega)) ?_
 exact⟨_,rfl,cr⟩
theorem zku(s:List UInt8)(label:ByteArray)(hs:s.length<=1000000000)(hl:label.size<=1048576):zab Tryz.prog 48 [bs s,Str label] (.r (bs (labB s (sB label) [] 32))):=by
 refine zaa (T:=Tab) mixed Tab_ok Tryz.func48 rfl (by kernel_rfl) ?_
 refine Vcall.mk' (zyt s label [] 32 (by omega) hs hl (by simp)) (zj (cr) (zj (cr) (zj (Cv.nil _) (zm _)))) ?_
 exact cr
end
section
def Node.small(n:Node):Bool:=decide (n.leaf.box.length<=200/\n.leaf.sign.length<=200/\n.leaf.ident.length<=200/\n.leaf.parent.length<=200/\n.leaf.sig.length<=200/\n.par.box.length<=200/\n.par.hash.length<=200/\n.par.late.length<=60)
theorem zv1(n:Node):zab Tryz.prog 13 [.ag n.c] (.r (.b n.small)):=by
 refine zaa (T:=Tab) mixed Tab_ok Tryz.func13 rfl (by kernel_rfl) ?_
 refine Vdraw.mk' (by kernel_rfl) ?_
 refine za rfl rfl ?_
 refine za rfl rfl ?_
 (repeat' (first |refine zg (λh=>?_) (λh=>?_) |refine ze ?_ |refine zo ?_ |refine zp ?_))
 all_goals refine congrArg RV.b (Eq.symm ?_)
 all_goals simp only[Node.small,zb]at*
 all_goals omega
def zl:Leaf:=⟨[],[],[],0,[],[]⟩
end
section
theorem z1e:Tryz.prog.underlying 3=some (.int .i64):=by kernel_rfl
end
section
def inR(h k:Nat)(x:Int):Prop:=((k*2^(h+1):Nat):Int)<=x/\x+2<=((k*2^(h+1)+2^(h+1):Nat):Int)
end
section
abbrev z6o(O:List Spot)(z:Int):Bool:=(z59 O z).isSome
end
section
theorem zgm{S:St}(pub:Bool)(id i:Nat)(e:TypeId)(sz:Nat){cells:List TF}(ho:oget S.O id=some (.box cells))(hc:cells[i]?=some (.r (.x (.slice none 0 0)))):
  Sub S {F:=S.F,O:=(id,some (.box (cells.set i (.own S.nx))))::(S.nx,some (.ch e sz 0 [] pub))::S.O,nx:=S.nx+1}:=by
 rintro B N a w k ⟨g,hs⟩
 have h:=hs.adopt (dst:=none) (λd hd=>by cases hd) (o:= .ch e sz 0 [] pub) (vb:=(.slice none 0 0,none)) trivial ⟨by simp, .inl ⟨rfl, .inl ⟨rfl,none,rfl⟩⟩⟩ (λb hb=>by cases hb) (λi o' b _ hb=>by cases hb)
 have e0:a.put none (.slice none 0 0)=a:=rfl
 simp only[St.mk_]at h
 rw[e0]at h
 obtain⟨p1,p2,p3,p4⟩:=hs.owns id _ ho
 have hid:oget ((S.nx,some (Ow.ch e sz 0 [] pub))::S.O) id=some (.box cells):=by
  simp only[oget]
  split
  ·rename_i hb;have:=Nat.eq_of_beq_eq_true hb;omega
  ·exact ho
 have hg:(g.set S.nx ((Value.slice none 0 0),none)) S.nx=((Value.slice none 0 0),none):=by rw[Env.set_eq]
 have old: ∀x ox,oget ((id,some (Ow.box (cells.set i (.own S.nx))))::(S.nx,some (Ow.ch e sz 0 [] pub))::S.O) x=some ox->∃ox',oget ((S.nx,some (Ow.ch e sz 0 [] pub))::S.O) x=some ox':=λx ox hx=>by
  rcases zak hx with⟨rfl,_⟩ |⟨_,h'⟩
  ·exact⟨_,hid⟩
  ·exact⟨_,h'⟩
 refine⟨k,_,h.size,h.defers,h.keep,h.kk,h.facts,λj o' ho'=>?_,λx y ox oy b hx hy hne hb=>?_⟩
 ·rcases zak ho' with⟨rfl,e'⟩ |⟨hne,h'⟩
  ·cases e'
   obtain⟨q1,q2,q3,q4⟩:=h.owns _ _ hid
   refine⟨q1,λf hf=>?_,?_,q4⟩
   ·rcases List.mem_or_eq_of_mem_set hf with hf |rfl
    ·exact q2 f hf
    ·exact Nat.lt_succ_self _
   ·obtain⟨b,cur,t,e1,e2,e3,e4,e5⟩:=q3
    refine⟨b,cur,t,e1,e2,e3,by simpa using e4,λj f u hf hu=>?_⟩
    rw[List.getElem?_set]at hf
    split at hf
    ·rename_i hij
     subst hij
     split at hf
     ·cases hf
      obtain⟨u1,u2⟩:=e5 i _ u hc hu
      simp only[TF.at_,RV.at_]at u2
      exact⟨u1,by simp only[TF.at_];rw[hg];exact u2⟩
     ·cases hf
    ·exact e5 j f u hf hu
  ·exact h.owns j o' h'
 ·obtain⟨ox',hx'⟩:=old x ox hx
  obtain⟨oy',hy'⟩:=old y oy hy
  exact h.apart x y ox' oy' b hx' hy' hne hb
end
section
theorem zys(l:List Int)(hl:l.length<=1000000000)(h64: ∀x∈l,i64 x):zab Tryz.prog 156 [is l] (ich l):=
 za9 (zbc Tryz.func156 rfl (by kernel_rfl)) λw k vs hp=>by
  obtain⟨a,rfl,h1⟩:=zfh hp
  obtain⟨p,rfl,hp1⟩:=zul h64 h1
  exact(ztt p l w hp1 (by omega)).mono λ_ _ ⟨v,he,hx,_,hv⟩=>⟨v,he,hx,z4q hv⟩
theorem z1x(n:Node)(hn:n.fit)(hcl:zab Tryz.prog 51 [.ag n.leaf.c] (.r (.ag n.leaf.c))):zab Tryz.prog 82 [.ag n.c] (.r (.ag n.c)):=by
 refine zaa (T:=Tab) mixed Tab_ok Tryz.func82 rfl (by kernel_rfl) ?_
 obtain⟨h1,h2⟩:=hn
 refine za rfl rfl ?_
 refine zd hcl ?_
 refine Vdraw.mk' (by kernel_rfl) ?_
 refine zd (zpx n.par.box (by have:=h2.1;omega)) ?_
 refine zd (zpx n.par.hash (by have:=h2.2.1;omega)) ?_
 refine zd (zys n.par.late (by have:=h2.2.2.1;omega) h2.2.2.2) ?_
 refine za rfl rfl ?_
 refine za rfl rfl ?_
 exact cr
end
end Go.Proofs.YtddokcpcpoihmaaGreat.Sx
