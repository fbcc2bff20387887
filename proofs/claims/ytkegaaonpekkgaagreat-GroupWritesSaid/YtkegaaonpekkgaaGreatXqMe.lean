import Derived.Test.YtkegaaonpekkgaaGreatXqFv
import Derived.Test.YtkegaaonpekkgaaGreatXqSxFl
import Derived.Test.YtkegaaonpekkgaaGreatXqEn
import Derived.Test.YtkegaaonpekkgaaGreatXqSxU
import Derived.Test.YtkegaaonpekkgaaGreatXqKg
import Derived.Test.YtkegaaonpekkgaaGreatXqKu
import Derived.Test.YtkegaaonpekkgaaGreatXqSxY
import Derived.Test.YtkegaaonpekkgaaGreatXqGeoB
import Derived.Test.YtkegaaonpekkgaaGreatXqNx
namespace Go.Proofs.YtkegaaonpekkgaaGreat.Sx
open Go.RowKit
set_option maxHeartbeats 4000000
section
theorem Vfun.eqFe{S:St}{o:Oper}{p q:Operand}{t2:TypeId}{x y:Fe}{K:RV->Prop}(hop:o.op= .binOp .eql 180 p q t2)(hx:yv S p=some (.r (.ag x.v)))(hy:yv S q=some (.r (.ag y.v)))(hK:K (.b (j7 x y))):Vfun aP S o [p,q] K:=by
 refine⟨[.ag x.v,.ag y.v],by simp only[tU,hx,hy,St.rv],_,λa w k h=>?_,hK⟩
 obtain⟨u,v,e,h1,h2⟩:=ZI h
 have e1:=OE h1
 have e2:=OE h2
 simp only[cJ,List.map_nil,List.cons.injEq,and_true]at e
 refine⟨.bool (j7 x y),?_,by simp only[RV.at_]⟩
 simp[execOp,hop,e.1,e.2,e1,e2,run_eqGuard_agg (P:=Tryz.prog) w .eql 180 p q _ _ (by kernel_rfl),Bq x y w]
def wc(x y:Fe):Bool:=j7 x.least y.least
theorem kC(x y:Fe):aG 356 [.ag x.v,.ag y.v] (.r (.b (wc x y))):=by
 refine aT Tryz.func356 rfl ?_
 refine aV ?_
 refine cU ?_
 refine ze (kB x) ?_
 refine cU ?_
 refine ze (kB y) ?_
 refine Vfun.eqFe (x:=x.least) (y:=y.least) rfl rfl rfl ?_
 exact cr
def lp(a x:Fe):Fe×Bool:=cond (wc (x.mul x) a) (cond x.odd (Fe.sub ⟨0,0,0,0,0⟩ x,true) (x,true)) (⟨0,0,0,0,0⟩,false)
def wa(a:Fe):Fe:=a.pow (v7 254 15)
def nC(a:Fe):Fe:=(wa a).mul ((xj 2).pow (v7 251 31))
def vn(a:Fe):Fe:=cond (wc ((wa a).mul (wa a)) a) (wa a) (nC a)
def yY(a:Fe):Fe×Bool:=lp a (vn a)
theorem EN(a:Fe):aG 331 [.ag a.v] (.r (.tu [.ag (yY a).1.v,.b (yY a).2])):=by
 refine aT Tryz.func331 rfl ?_
 refine aV ?_
 refine cU ?_
 refine ze (YL 254 15) ?_
 refine ze (Pa a (v7 254 15) (by rw[dZ];omega)) ?_
 have hX:a.pow (v7 254 15)=wa a:=by rw[wa]
 rw[hX]
 have hZ:vn a=cond (wc ((wa a).mul (wa a)) a) (wa a) (nC a):=by rw[vn]
 have hY:nC a=(wa a).mul ((xj 2).pow (v7 251 31)):=by rw[nC]
 generalize wa a=x at*
 generalize nC a=y at*
 refine aV ?_
 refine cU ?_
 refine ze (uJ x) ?_
 refine cU ?_
 refine ze (kC (x.mul x) a) ?_
 refine⟨_,rfl,?_⟩
 refine⟨λh=>?_,λh=>?_⟩
 ·have e1:wc (x.mul x) a=false:=by simpa using h
  have hr:vn a=y:=by rw[hZ,e1];rfl
  refine aV ?_
  refine cU ?_
  refine ze Ag ?_
  refine ze (YL 251 31) ?_
  refine ze (Pa (xj 2) (v7 251 31) (by rw[dZ];omega)) ?_
  refine ze (xI x ((xj 2).pow (v7 251 31))) ?_
  rw[<-hY]
  refine aV ?_
  refine cU ?_
  refine ze (uJ y) ?_
  refine cU ?_
  refine ze (kC (y.mul y) a) ?_
  refine⟨_,rfl,?_⟩
  refine⟨λh2=>?_,λh2=>?_⟩
  ·have e2:wc (y.mul y) a=false:=by simpa using h2
   have e:yY a=(⟨0,0,0,0,0⟩,false):=by rw[yY,hr,lp,e2];rfl
   rw[e]
   refine cU ?_
   exact⟨_,rfl,cr⟩
  ·have e2:wc (y.mul y) a=true:=by simpa using h2
   refine cU ?_
   refine ze (QW y) ?_
   refine⟨λh3=>?_,λh3=>?_⟩
   ·have e:yY a=(Fe.sub ⟨0,0,0,0,0⟩ y,true):=by rw[yY,hr,lp,e2,h3];rfl
    rw[e]
    refine cU ?_
    refine ze (WO y) ?_
    refine cU ?_
    refine cU ?_
    exact⟨_,rfl,cr⟩
   ·have e:yY a=(y,true):=by rw[yY,hr,lp,e2,h3];rfl
    rw[e]
    refine cU ?_
    refine cU ?_
    exact⟨_,rfl,cr⟩
 ·have e1:wc (x.mul x) a=true:=by simpa using h
  have hr:vn a=x:=by rw[hZ,e1];rfl
  refine aV ?_
  refine cU ?_
  refine ze (uJ x) ?_
  refine cU ?_
  refine ze (kC (x.mul x) a) ?_
  refine⟨_,rfl,?_⟩
  refine⟨λh2=>?_,λh2=>?_⟩
  ·have e2:wc (x.mul x) a=false:=by simpa using h2
   have e:yY a=(⟨0,0,0,0,0⟩,false):=by rw[yY,hr,lp,e2];rfl
   rw[e]
   refine cU ?_
   exact⟨_,rfl,cr⟩
  ·have e2:wc (x.mul x) a=true:=by simpa using h2
   refine cU ?_
   refine ze (QW x) ?_
   refine⟨λh3=>?_,λh3=>?_⟩
   ·have e:yY a=(Fe.sub ⟨0,0,0,0,0⟩ x,true):=by rw[yY,hr,lp,e2,h3];rfl
    rw[e]
    refine cU ?_
    refine ze (WO x) ?_
    refine cU ?_
    refine cU ?_
    exact⟨_,rfl,cr⟩
   ·have e:yY a=(x,true):=by rw[yY,hr,lp,e2,h3];rfl
    rw[e]
    refine cU ?_
    refine cU ?_
    exact⟨_,rfl,cr⟩
attribute [irreducible] yY
end
section
def xW(y:Fe):Fe:=((y.mul y).sub one).mul ((dC.mul (y.mul y)).add one).inv
theorem LC(y:Fe):((y.mul y).sub one).mul ((dC.mul (y.mul y)).add one).inv=xW y:=rfl
attribute [irreducible] xW
theorem Nl(y:Fe):aG 214 [.ag y.v] (.r (.tu [.ag (yY (xW y)).1.v,.b (yY (xW y)).2])):=by
 refine aT Tryz.func214 rfl ?_
 refine cU ?_
 refine ze (uJ y) ?_
 refine aV ?_
 refine cU ?_
 refine ze jK ?_
 refine ze (pY (y.mul y) one) ?_
 refine ze JQ ?_
 refine cU ?_
 refine ze (xI dC (y.mul y)) ?_
 refine ze jK ?_
 refine ze (rD (dC.mul (y.mul y)) one) ?_
 refine ze (fL ((dC.mul (y.mul y)).add one)) ?_
 refine ze (xI ((y.mul y).sub one) ((dC.mul (y.mul y)).add one).inv) ?_
 rw[LC]
 refine ze (EN (xW y)) ?_
 refine cU ?_
 exact⟨_,rfl,cr⟩
def baseY:Fe:=(xj 4).mul (xj 5).inv
theorem Lu:(xj 4).mul (xj 5).inv=baseY:=rfl
attribute [irreducible] baseY
def baseP:Pt:=Pt.of (yY (xW baseY)).1 baseY
theorem YK:aG 124 [] (.r (.ag baseP.v)):=by
 refine aT Tryz.func124 rfl ?_
 refine ze Ah ?_
 refine ze Ai ?_
 refine ze (fL (xj 5)) ?_
 refine ze (xI (xj 4) (xj 5).inv) ?_
 rw[Lu]
 refine cU ?_
 refine ze (Nl baseY) ?_
 refine cU ?_
 refine cU ?_
 refine ze (QZ (yY (xW baseY)).1 baseY) ?_
 refine cU ?_
 exact cr
attribute [irreducible] baseP
end
section
theorem Bt{l:List UInt64}{j:Nat}(h:j<l.length):(l.map W)[j*1]?=some (W (l.getD j 0)):=by
 rw[cL,bR,bA h,bK,bA h]
 rfl
def mL(a b w:UInt64):UInt64:=a*b+w+0
def uP(a:UInt64)(y:S4)(w:List UInt64)(i:Nat):Nat->List UInt64×UInt64
 |0=>(w,0)
 |k+1=>
  let s:=uP a y w i k
  let b:=y.l.getD k 0
  let v:=s.1.getD (i+k) 0
  (s.1.set (i+k) (mL a b v+s.2+0),(rN a b+wg (a*b) v 0)+wg (mL a b v) s.2 0)
theorem dO(a:UInt64)(y:S4)(w:List UInt64)(i:Nat):uP a y w i 0=(w,0):=rfl
theorem jV(a:UInt64)(y:S4)(w:List UInt64)(i k:Nat):uP a y w i (k+1)=((uP a y w i k).1.set (i+k) (mL a (y.l.getD k 0) ((uP a y w i k).1.getD (i+k) 0)+(uP a y w i k).2+0),(rN a (y.l.getD k 0)+wg (a*(y.l.getD k 0)) ((uP a y w i k).1.getD (i+k) 0) 0)+wg (mL a (y.l.getD k 0) ((uP a y w i k).1.getD (i+k) 0)) (uP a y w i k).2 0):=rfl
theorem kS(a:UInt64)(y:S4)(w:List UInt64)(i:Nat): ∀k,(uP a y w i k).1.length=w.length
 |0=>rfl
 |k+1=>by rw[jV,List.length_set,kS a y w i k]
attribute [irreducible] uP
def uz(x y:S4):Nat->List UInt64
 |0=>List.replicate 8 0
 |i+1=>(uP (x.l.getD i 0) y (uz x y i) i 4).1.set (i+4) (uP (x.l.getD i 0) y (uz x y i) i 4).2
theorem XV(x y:S4):uz x y 0=List.replicate 8 0:=rfl
theorem gJ(x y:S4)(i:Nat):uz x y (i+1)=(uP (x.l.getD i 0) y (uz x y i) i 4).1.set (i+4) (uP (x.l.getD i 0) y (uz x y i) i 4).2:=rfl
theorem mv(x y:S4): ∀i,(uz x y i).length=8
 |0=>by simp[uz]
 |i+1=>by rw[gJ,List.length_set,kS,mv x y i]
attribute [irreducible] uz
def S4.mul(x y:S4):S4:=nQ (uz x y 4)
def A1(x y:S4)(i:Nat):St:={F:=[(3,.own 1),(4,.own 2),(5,.own 3),(16,.r (.ag x.v)),(17,.r (I i))],O:=[(1,some y.bx),(2,some (S4.bx ⟨0,0,0,0⟩)),(3,some (.ch 43 1 8 ((uz x y i).map W) false))],nx:=4}
def A0(x y:S4)(i k:Nat):St:={F:=[(3,.own 1),(4,.own 2),(5,.own 3),(16,.r (.ag x.v)),(17,.r (I i)),(6,.r (I i)),(7,.r (W (x.l.getD i 0))),(8,.r (W (uP (x.l.getD i 0) y (uz x y i) i k).2)),(22,.r (.ag y.v)),(23,.r (I k))],O:=[(1,some y.bx),(2,some (S4.bx ⟨0,0,0,0⟩)),(3,some (.ch 43 1 8 ((uP (x.l.getD i 0) y (uz x y i) i k).1.map W) false))],nx:=4}
theorem AT:(List.replicate ((8:Int).toNat) ([Value.int .u64 0].map xT)).flatten=(List.replicate 8 (0:UInt64)).map W:=by simp[xT]
theorem G7(x y:S4):aG 230 [.ag x.v,.ag y.v] (.r (.ag (x.mul y).v)):=by
 refine aT Tryz.func230 rfl ?_
 refine⟨rfl,by decide,by decide,by decide,_,_,rfl,AT,Vpub.own ?_⟩
 refine cU ?_
 refine zy (A1 x y) (λi=>i<=4) (λi=>4-i) 0 (by omega) (zN [(1,1),(2,2),(3,3)] ⟨(aC aZ),(aC aZ),⟨rfl,rfl,rfl,rfl,by rw[XV];exact zn _⟩,trivial⟩) ?_
 intro i hi
 refine cZ (λh=>?_) λh=>?_
 ·simp only[zb]at h
  have hi':i<4:=by omega
  refine cV (Pm (l:=x.l) rfl (by show i<4;omega)) ?_
  refine cU ?_
  refine zy (A0 x y i) (λk=>k<=4) (λk=>4-k) 0 (by omega) (zX [(1,1),(2,2),(3,3)] rfl ⟨rfl,rfl,rfl,cr,cr,cr,cr,by rw[dO];exact cr,cr,cr,trivial⟩ ⟨(aC aZ),(aC aZ),⟨rfl,rfl,rfl,rfl,by rw[dO];exact zn _⟩,trivial⟩) ?_
  intro k hk
  have hL:(uP (x.l.getD i 0) y (uz x y i) i k).1.length=8:=by rw[kS,mv]
  refine cZ (λh=>?_) λh=>?_
  ·simp only[zb]at h
   have hk':k<4:=by omega
   refine cV (Pm (l:=y.l) rfl (by show k<4;omega)) ?_
   refine ze (YJ (x.l.getD i 0) (y.l.getD k 0)) ?_
   refine zd (m:=((i+k:Nat):Int)) (by omega) (by omega) ?_
   refine zD (i+k) rfl (by omega) ?_
   refine zg (Bt (by rw[hL];omega)) ?_
   refine Vcall.ext (qg (x.l.getD i 0*y.l.getD k 0) _ 0 (by decide)) ?_
   refine Vint.wadd _ _ rfl rfl ?_
   refine Vcall.ext (qg (mL (x.l.getD i 0) (y.l.getD k 0) ((uP (x.l.getD i 0) y (uz x y i) i k).1.getD (i+k) 0)) (uP (x.l.getD i 0) y (uz x y i) i k).2 0 (by decide)) ?_
   refine zd (m:=((i+k:Nat):Int)) (by omega) (by omega) ?_
   refine Vint.wadd _ _ rfl rfl ?_
   refine zD (i+k) rfl (by omega) ?_
   refine⟨by rw[bC,hL];show(i+k)*1+1<=8;omega,(uP (x.l.getD i 0) y (uz x y i) i (k+1)).1.map W,?_,?_⟩
   ·rw[jV,cL]
    exact vI (by rw[hL];omega)
   refine zd (m:=((k+1:Nat):Int)) (by omega) (by omega) ?_
   exact⟨k+1,by omega,by omega,zX [(1,1),(2,2),(3,3)] rfl ⟨rfl,rfl,rfl,cr,cr,cr,cr,by rw[jV];exact cr,cr,cr,trivial⟩ ⟨(aC aZ),(aC aZ),⟨rfl,rfl,rfl,rfl,zn _⟩,trivial⟩⟩
  ·simp only[zb]at h
   obtain rfl:k=4:=by omega
   refine zd (m:=((i+4:Nat):Int)) (by omega) (by omega) ?_
   refine zD (i+4) rfl (by omega) ?_
   refine⟨by rw[bC,hL];show(i+4)*1+1<=8;omega,(uz x y (i+1)).map W,?_,?_⟩
   ·rw[gJ,cL]
    exact vI (by rw[hL];omega)
   refine zd (m:=((i+1:Nat):Int)) (by omega) (by omega) ?_
   exact⟨i+1,by omega,by omega,zN [(1,1),(2,2),(3,3)] ⟨(aC aZ),(aC aZ),⟨rfl,rfl,rfl,rfl,zn _⟩,trivial⟩⟩
 ·simp only[zb]at h
  obtain rfl:i=4:=by omega
  have hrd:=VY (uz x y 4) (by rw[mv];omega)
  rw[<-Ll _ _ (mv x y 4)]at hrd
  refine zJ (xE (id:=3) rfl) (Vstep.val Tab_ok (ze hrd ?_))
  refine cU ?_
  exact cr
end
section
variable {P:Program} {T:TT} {S:St}
theorem Oh{id t n:Nat}(vs:List RV)(hf:yl S.F t=some (.cut id 0 n))(ho:ye S.O id=some (.box (vs.map .r)))(hn:vs.length=n):Sub S ⟨(t,.r (.sl 1 n vs))::S.F,(id,none)::S.O,S.nx⟩:=by
 rintro B N a w k ⟨g,hs⟩
 obtain⟨b,k',hg,hle,hb,hc,h⟩:=hs.pub ho
 have hv:=(hs.facts t _ hf).2
 simp only[TF.at_]at hv
 obtain⟨b',c,e,hv,h1,h2⟩:=hv
 rw[hg]at e
 cases e
 refine⟨k',g,h.size,h.defers,h.keep,h.kk,λt' f hf'=>?_,h.owns,h.apart⟩
 rcases yO hf' with⟨rfl,rfl⟩ |⟨_,hf'⟩
 ·refine⟨trivial,?_⟩
  simp only[TF.at_,RV.at_]
  exact⟨_,c,hv,h1,h2,by rw[cL];exact hn,λ_=>⟨b,0,rfl,hb,hc⟩⟩
 ·exact h.facts t' f hf'
theorem Vcode.sub(hm:P.follows .mixedOrders=true)(hT:TOk P T){c:Code}{S':St}{Q:Exit->St->Prop}(hs:Sub S S')(h:vO P T c S' Q):Vcode P c S Q:=
 ⟨λB N a w k Q' h0 hd hQ=>by
  obtain⟨k',h1⟩:=hs B N a w k h0
  exact yP hm hT c S' Q h B N a w k' Q' h1 hd hQ⟩
theorem Vstep.actsNew{o:Oper}{l:List RV}{f:FuncId}{args:List TF}{n:Nat}{K:St->Prop}(hA:yz P f 0 [] args [] 1 [(0,.box (l.map .r))] (.cut 0 0 n))(hcall:Handed P S o [] f args)
  (hK:yI ⟨S.F,(S.nx,some (.box (l.map .r)))::S.O,S.nx+1⟩ o.dst (.cut S.nx 0 n) none K):Vstep P S o K:=by
 refine zj [] [] (λ_ _=>hA) hcall rfl trivial trivial ?_
 rw[iN]
 rw[yJ]at hK
 have e:(l.map TF.r).map (tB (oM [] [] S.nx))=l.map TF.r:=by
  rw[List.map_map]
  exact List.map_congr_left λx _=>rfl
 have e2:iO [] [] S 1 [(0,.box (l.map .r))] (.cut 0 0 n) o.dst=St.new ⟨S.F,(S.nx,some (.box (l.map .r)))::S.O,S.nx+1⟩ o.dst (.cut S.nx 0 n) none:=by
  show St.put ⟨S.F,(S.nx,some (.box ((l.map TF.r).map (tB (oM [] [] S.nx)))))::S.O,S.nx+1⟩ o.dst (.cut S.nx 0 n)=_
  rw[e]
  rfl
 rw[e2]
 exact hK
end
set_option maxRecDepth 100000 in
theorem Gt(ls:List cT)(hl:(ls.flatMap id).length<=10000000000):yz aP 228 0 [] [.r (tk ls)] [] 1 [(0,oV (vy ls))] (.cut 0 0 64):=by
 refine yk (T:=Tab) mixed Tab_ok Tryz.func228 rfl (by kernel_rfl) rfl trivial ?_
 refine ze (pu ls (by omega)) ?_
 refine ze (Rj (ls.flatMap id) hl) ?_
 (conv=>whnf)
 generalize hq:(xk _&&_)=q
 obtain rfl:=hq.symm.trans (nj (l:=(vy ls).map U8) 64 (by rw[bC,wU]) rfl)
 clear hq
 refine tA (by rw[bC,bC];show(List.replicate 64 (Value.int .u8 0)).length=_;rw[List.length_replicate];exact(wU ls).symm) ?_
 refine Vstep.val Tab_ok (Vcutn.mk' 0 64 rfl rfl (by decide) (by decide) ?_)
 exact yr (.inl rfl) [(0,1)] [(2,.cut 0 0 64)] [] (by have h:=uV ((vy ls).map U8) 1;simp only[vB,wY,oV,cJ,List.map_nil,List.append_nil,List.all_cons,List.all_nil,uD,h];rfl) ⟨⟨rfl,rfl,rfl⟩,trivial⟩ ⟨yh _,trivial⟩ trivial rfl
theorem Na{l:cT}{j:Nat}(h:j<l.length):yp ((l.map U8).map TF.r) (0+j*1)=some (TF.r (U8 (l.getD j 0))):=by
 rw[yE,Nat.zero_add,cL]
 exact SZ h
theorem Vl{x:UInt8}{l:cT}{j:Nat}(h:j<l.length):(xk (U8 x)&&(Nat.beq (cellsOf (U8 x)).length 1&&Nat.ble (0+j*1+1) ((l.map U8).map TF.r).length))=true:=by
 rw[Nat.zero_add]
 exact SJ h
theorem We{l:cT}{j:Nat}{x:UInt8}{K:List TF->Prop}(h:j<l.length)(hK:K (((l.set j x).map U8).map TF.r)):rP ((l.map U8).map TF.r) (0+j*1) [TF.r (U8 x)] K:=by
 rw[Nat.zero_add]
 exact UZ h hK
theorem mM(l:cT)(n:Nat)(h:l.length=n):RV.sl 1 n (l.map U8)=bs l:=by rw[<-h];rfl
def pZ(h:cT):cT:=h.set 0 (h.getD 0 0&&& ~~~7)
def sO(h:cT):cT:=(pZ h).set 31 (((pZ h).getD 31 0&&&63)|||64)
theorem NU(h:cT):(pZ h).length=h.length:=by simp[pZ]
theorem XN(h:cT):(sO h).length=h.length:=by simp[sO,pZ]
def pj(seed:cT):S4:=lV ((sO (vy [seed])).take 32)
def fe(seed:cT):cT:=(sO (vy [seed])).drop 32
theorem VK(seed:cT)(hs:seed.length<=1000000000):aG 222 [bs seed] (.r (.tu [.ag (pj seed).v,bs (fe seed)])):=by
 refine aT Tryz.func222 rfl ?_
 refine Vpub.own ?_
 refine zJ (xE (id:=1) rfl) (Vstep.actsNew (Gt [seed] (by simp;omega)) (zi rfl ⟨_,_,rfl,cr,rfl⟩) ?_)
 have hh:pj seed=lV ((sO (vy [seed])).take 32):=rfl
 have hb:fe seed=(sO (vy [seed])).drop 32:=rfl
 have hl:=wU [seed]
 rw[hh,hb]
 generalize vy [seed]=h at*
 have hl0:(pZ h).length=64:=by rw[NU,hl]
 have hlB:(sO h).length=64:=by rw[XN,hl]
 refine zD 0 rfl (by decide) ?_
 (conv=>whnf)
 generalize hq:yp _ _=q
 obtain rfl:=hq.symm.trans (Na (l:=h) (j:=0) (by omega))
 clear hq
 refine Vbits.andn8 _ 7 rfl rfl ?_
 refine zD 0 rfl (by decide) ?_
 (conv=>whnf)
 generalize hq:(xk _&&_)=q
 obtain rfl:=hq.symm.trans (Vl (x:=h.getD 0 0&&& ~~~7) (l:=h) (j:=0) (by omega))
 clear hq
 refine We (l:=h) (j:=0) (by omega) ?_
 refine zD 31 rfl (by decide) ?_
 (conv=>whnf)
 generalize hq:yp _ _=q
 obtain rfl:=hq.symm.trans (Na (l:=pZ h) (j:=31) (by omega))
 clear hq
 refine Vbits.and8 _ 63 rfl rfl ?_
 refine Vbits.or8 _ 64 rfl rfl ?_
 refine zD 31 rfl (by decide) ?_
 (conv=>whnf)
 generalize hq:(xk _&&_)=q
 obtain rfl:=hq.symm.trans (Vl (x:=((pZ h).getD 31 0&&&63)|||64) (l:=pZ h) (j:=31) (by omega))
 clear hq
 refine We (l:=pZ h) (j:=31) (by omega) ?_
 refine Vdraw.code (Vcode.sub mixed Tab_ok (Oh (t:=4) (n:=64) ((sO h).map U8) rfl rfl (by rw[bC,hlB])) ?_)
 refine aV ?_
 have ht:((sO h).take 32).length=32:=by rw[bL,hlB];rfl
 have hd:((sO h).drop 32).length=32:=by rw[bW,hlB]
 have hsc:=Z4 ((sO h).take 32) (by omega)
 rw[<-mM _ _ ht]at hsc
 rw[<-mM _ _ hd]
 refine⟨by decide,by decide,by decide,32,((sO h).take 32).map U8,rfl,by rw[List.map_take];rfl,?_⟩
 refine ze hsc ?_
 refine⟨by decide,by decide,by decide,32,((sO h).drop 32).map U8,rfl,by rw[List.map_drop];exact bF (by rw[bW,bC,hlB];decide),?_⟩
 refine cU ?_
 exact⟨_,rfl,cr⟩
theorem NO(seed:cT)(hs:seed.length=32):aG 126 [bs seed] (.r (.ag (pj seed).v)):=by
 refine aT Tryz.func126 rfl ?_
 refine zh (λh=>?_) (λh=>zq ?_)
 ·simp only[zb]at h
  exact absurd hs (by omega)
 refine ze (VK seed (by omega)) ?_
 refine cU ?_
 refine cU ?_
 exact cr
def pd(seed:cT):cT:=(wE baseP (pj seed) 253).bytes
theorem UX(seed:cT):(pd seed).length=32:=Pt.bytes_len _
theorem XL(seed:cT)(hs:seed.length=32):aG 50 [bs seed] (.r (.tu [bs (pd seed),.i .u8 0])):=by
 refine aT Tryz.func50 rfl ?_
 refine zh (λh=>?_) (λh=>zq ?_)
 ·simp only[zb]at h
  exact absurd hs (by omega)
 refine ze YK ?_
 refine ze (NO seed hs) ?_
 refine ze (Z2 baseP (pj seed)) ?_
 refine ze (VW (wE baseP (pj seed) 253)) ?_
 exact⟨_,rfl,cr⟩
def i5(seed text:cT):S4:=lV (vy [fe seed,text])
def i4(seed text:cT):cT:=(wE baseP (i5 seed text) 253).bytes
def be(seed text:cT):S4:=lV (vy [i4 seed text,pd seed,text])
def mD(seed text:cT):cT:=i4 seed text++((i5 seed text).sum ((be seed text).mul (pj seed))).once.bytes
theorem Tv(seed text:cT):(i4 seed text).length=32:=Pt.bytes_len _
theorem Jk(seed text:cT):(mD seed text).length=64:=by rw[mD,aL,Tv,S4.bytes_len]
theorem Ji(seed:cT):(fe seed).length=32:=by rw[fe,bW,XN,wU]
theorem Qv(a b:cT):[a,b].flatMap id=a++b:=by simp
theorem JM(a b c:cT):[a,b,c].flatMap id=a++b++c:=by simp
theorem NK(seed text P B L1 Q L2 R1:cT)(s r k m z:S4)(M:Pt)(hs:seed.length=32)(ht:text.length<=1000000000)(hP:P.length=32)(hB:B.length=32)(hQ:Q.length=32)(hR:R1.length=32)(hL1:L1.length=64)(hL2:L2.length=64)
  (c1:aG 50 [bs seed] (.r (.tu [bs P,.i .u8 0])))
  (c2:aG 222 [bs seed] (.r (.tu [.ag s.v,bs B])))
  (c3:aG 228 [tk [B,text]] (.r (bs L1)))
  (c4:aG 227 [bs L1] (.r (.ag r.v)))
  (c6: ∀b:Pt,b=baseP->aG 125 [.ag b.v,.ag r.v] (.r (.ag M.v)))
  (c7:aG 127 [.ag M.v] (xJ Q))
  (c8:aG 228 [tk [Q,P,text]] (.r (bs L2)))
  (c9:aG 227 [bs L2] (.r (.ag k.v)))
  (c10:aG 230 [.ag k.v,.ag s.v] (.r (.ag m.v)))
  (c11:aG 229 [.ag r.v,.ag m.v] (.r (.ag z.v)))
  (c12:aG 231 [.ag z.v] (xJ R1)):
  aG 135 [bs seed,bs text] (.r (.tu [bs (Q++R1),.i .u8 0])):=by
 refine aT Tryz.func135 rfl ?_
 refine ze c1 ?_
 refine cX ?_
 refine ze c2 ?_
 refine zw ?_
 refine ze c3 ?_
 refine ze c4 ?_
 refine aV ?_
 obtain⟨b,hb⟩: ∃b,b=baseP:=⟨_,rfl⟩
 have c5:=YK
 rw[<-hb]at c5
 refine ze c5 ?_
 refine cU ?_
 refine ze (c6 b hb) ?_
 refine ze c7 ?_
 refine zw ?_
 refine ze c8 ?_
 refine ze c9 ?_
 refine aV ?_
 refine cU ?_
 refine cU ?_
 refine cU ?_
 refine ze c10 ?_
 refine ze c11 ?_
 refine ze c12 ?_
 refine zw ?_
 refine ze (pu [Q,R1] (by rw[Qv,aL];omega)) ?_
 exact⟨_,rfl,zf (by rw[Qv];rfl)⟩
theorem EP(seed text:cT)(hs:seed.length=32)(ht:text.length<=1000000000):aG 135 [bs seed,bs text] (.r (.tu [bs (mD seed text),.i .u8 0])):=by
 have h1:=Ji seed
 have h2:=Tv seed text
 have h3:=UX seed
 exact NK seed text (pd seed) (fe seed) (vy [fe seed,text]) (i4 seed text) (vy [i4 seed text,pd seed,text]) _ (pj seed) (i5 seed text) (be seed text) ((be seed text).mul (pj seed)) _ (wE baseP (i5 seed text) 253) hs ht h3 h1 h2 (S4.bytes_len _) (wU _) (wU _)
  (XL seed hs) (VK seed (by omega)) (VN [fe seed,text] (by rw[Qv,aL];omega)) (Z4 _ (by rw[wU];omega)) (λb hb=>by rw[hb];exact Z2 baseP (i5 seed text)) (VW _)
  (VN [i4 seed text,pd seed,text] (by rw[JM,aL,aL];omega)) (Z4 _ (by rw[wU];omega)) (G7 _ _) (G5 _ _) (NH _)
theorem WF(seed:cT)(hs:seed.length≠32):aG 50 [bs seed] (.r (.tu [bs [],.i .u8 1])):=by
 refine aT Tryz.func50 rfl ?_
 refine cY ?_ (by simp only[zb];omega)
 exact⟨_,rfl,Cv.tu (zk (z8 1) (zn _))⟩
theorem Pd(seed text:cT)(hs:seed.length≠32):aG 135 [bs seed,bs text] (.r (.tu [bs [],.i .u8 1])):=by
 refine aT Tryz.func135 rfl ?_
 refine ze (WF seed hs) ?_
 refine cY ?_
 exact⟨_,rfl,Cv.tu (zk (z8 1) (zn _))⟩
def lM(s info:cT)(n:Nat):cT:=(wh s (info++[1])).take n
theorem j4(s info:cT){n:Nat}(hn:n<=32):(lM s info n).length=n:=by
 unfold lM
 rw[bL,x8]
 omega
def mlsB:cT:=[77,76,83,32,49,46,48,32]
def xU(s label ctx:cT)(n:Nat):cT:=lM s (yg 2 n++zZ (mlsB++label)++zZ ctx) n
theorem Cv.sl{sz n:Nat}{cs ds:List RV}(h:Cvs cs ds):Cv (.sl sz n cs) (.sl sz n ds):=λw k v hv=>by
 simp only[RV.at_]at hv⊢
 obtain⟨a,c,e,h1,h2,h3,h4⟩:=hv
 exact⟨a,c,e,h1,h2,by rw[h.length];exact h3,λhn=>by obtain⟨b,o,ea,hb,hc⟩:=h4 hn;exact⟨b,o,ea,hb,h.cells hc⟩⟩
theorem X2(s info:cT)(n:Nat)(hn:1<=n/\n<=32)(hs:s.length<=1000000000)(hi:info.length<=1000000000):aG 206 [bs s,bs info,I n] (.r (.tu [bs (lM s info n),Er 0])):=by
 refine aT Tryz.func206 rfl ?_
 have hm:=x8 s (info++[1])
 refine Vcode.scope mixed Tab_ok 0 (λ_:Unit=>{F:=[(0,.r (bs s)),(1,.r (bs info)),(2,.r (I n)),(8,.own 0)],O:=[(0,some (.ch 5 1 32 ((wh s (info++[1])).map U8) true))],nx:=1}) (λ_=>True) (λ_=>0) rfl ?_ ?_
 ·refine zu (bD (by omega)) ?_
  refine zu (bD (by omega)) (zq ?_)
  refine zt (bE (by omega)) (zp ?_)
  refine Vint.u8 1 rfl ?_
  refine zw ?_
  refine zw ?_
  refine zB (Zj s [[],info,[1]] hs (by simp;omega)) (zk (cr) (zk (Cv.sl (zk (z8 _) (zn _))) zA)) ?_
  refine z7 (j:=32) (zs:=(wh s (info++[1])).map U8) (by simp[maxLen,x8]) (by simp[x8]) (by simp[x8]) (by simp) ?_
  exact⟨(),trivial,zN [(0,3)] ⟨⟨rfl,rfl,rfl,rfl,zn _⟩,trivial⟩⟩
 ·intro _ _
  refine zu (bD (by omega)) (zq ?_)
  refine⟨by omega,by omega,by omega,n,(lM s info n).map U8,by omega,?_,?_⟩
  ·unfold lM;rw[List.map_take];simp
  ·refine⟨_,rfl,zf ?_⟩
   simp only[bs,j4 s info hn.2]
   rfl
theorem dR(s:ByteArray):((⟨#[77,76,83,32,49,46,48,32]⟩:ByteArray)++s).data.toList=mlsB++s.data.toList:=by simp[mlsB]
theorem Yk(s t:ByteArray):(s++t).size=s.size+t.size:=by simp
theorem V2(s:cT)(label:ByteArray)(ctx:cT)(n:Nat)(hn:1<=n/\n<=32)(hs:s.length<=1000000000)(hl:label.size<=1048576)(hc:ctx.length<=1048576):
  aG 119 [bs s,vd label,bs ctx,I n] (.r (.tu [bs (xU s (sB label) ctx n),Er 0])):=by
 refine aT Tryz.func119 rfl ?_
 refine zu (bD (by omega)) ?_
 refine zu (bD (by omega)) (zq ?_)
 refine zu (bD (by omega)) ?_
 refine zu (bD (by omega)) (zq ?_)
 refine zF n rfl (by omega) ?_
 refine zB (sp [] 2 n (by simp) (.inr (.inl rfl))) (zk (z8 _) (zn _)) ?_
 have hd:=dR label
 have hsz:label.data.toList.length=label.size:=rfl
 have hml:mlsB.length=8:=rfl
 refine⟨by show 8+label.size<=_;omega,?_⟩
 refine⟨by rw[Yk];show 8+label.size<=_;omega,?_⟩
 have hb:(yg 2 n).length=2:=yj 2 n
 refine ze (x5 ([]++yg 2 n) ((⟨#[77,76,83,32,49,46,48,32]⟩:ByteArray)++label).data.toList (by simp[hb]) (by rw[hd,aL];omega)) ?_
 rw[hd]
 have hv:=yf (mlsB++label.data.toList)
 have hv2:=yf ctx
 rw[aL]at hv
 refine ze (x5 ([]++yg 2 n++zZ (mlsB++label.data.toList)) ctx (by simp only[aL,bO,hb];omega) (by omega)) ?_
 refine ze (X2 s ([]++yg 2 n++zZ (mlsB++label.data.toList)++zZ ctx) n hn hs (by simp only[aL,bO,hb];omega)) ?_
 exact⟨_,rfl,cr⟩
theorem un(s:cT)(label:ByteArray)(hs:s.length<=1000000000)(hl:label.size<=1048576):aG 45 [bs s,vd label] (.r (bs (xU s (sB label) [] 32))):=by
 refine aT Tryz.func45 rfl ?_
 refine zB (V2 s label [] 32 (by omega) hs hl (by simp)) (zk (cr) (zk (cr) (zk (z8 _) (zn _)))) ?_
 exact cr
theorem Vcall.boolc{P:Program}{f:FuncId}{vs ps:List RV}{K:Res->Prop}{β:Bool}(hg:zW P f ps (.r (.b β)))(hc:Cvs vs ps)(ht:β=true->K (.r (.b true)))(hf:β=false->K (.r (.b false))):Vcall P f vs K:=by
 cases β
 ·exact zB hg hc (hf rfl)
 ·exact zB hg hc (ht rfl)
def Node.small(n:Node):Bool:=decide (n.leaf.box.length<=200/\n.leaf.sign.length<=200/\n.leaf.ident.length<=200/\n.leaf.parent.length<=200/\n.leaf.sig.length<=200/\n.par.box.length<=200/\n.par.hash.length<=200/\n.par.late.length<=60)
theorem OZ(n:Node):aG 148 [.ag n.c] (.r (.b n.small)):=by
 refine aT Tryz.func148 rfl ?_
 refine aV ?_
 refine cU ?_
 refine cU ?_
 (repeat' (first|refine zh (λh=>?_) (λh=>?_)|refine zf ?_|refine zp ?_|refine zq ?_))
 all_goals refine cR RV.b (Eq.symm ?_)
 all_goals simp only[Node.small,zb]at*
 all_goals omega
def zl:Leaf:=⟨[],[],[],0,[],[]⟩
def Of(l:List Stub)(x:Int):cT:=((l.find? λs=>decide (s.at_=x)).map (·.hash)).getD []
theorem nJ:Tryz.prog.underlying 3=some (.int .i64):=by kernel_rfl
theorem jh:Tryz.prog.underlying 330=some (.map 3 40):=by kernel_rfl
theorem bj:Tryz.prog.underlying 331=some (.map 3 22):=by kernel_rfl
def wm(l:List Spot):List (Int×RV):=l.map λs=>(s.at_,RV.ag s.node.c)
def wx(l:List Stub):List (Int×RV):=l.map λs=>(s.at_,bs s.hash)
def lP(q:Int->Bool):Nat->List Int->Int
 |_,[]=> -1
 |j,x::r=>if q x then(j:Int)else lP q (j+1) r
theorem Rm(q:Int->Bool): ∀(l:List Int) (j:Nat), -1<=lP q j l/\lP q j l< (j+l.length:Nat)/\(0<=lP q j l↔l.any q=true)
 |[],j=>by simp[lP];omega
 |x::r,j=>by
  have ih:=Rm q r (j+1)
  rw[lP,List.any_cons,bJ]
  by_cases hq:q x=true
  ·rw[cO hq,hq]
   exact⟨by omega,by omega,by simp⟩
  ·rw[cQ hq,Bool.eq_false_iff.2 hq,Bool.false_or]
   exact⟨ih.1,by omega,ih.2.2⟩
theorem TW(l:List Int)(D:Int->Prop)(q:Int->Bool)(hl:l.length<=1000000000)(hD: ∀x∈l,D x):aG 292 [is l,.s (um aP I D q)] (.r (I (lP q 0 l))):=by
 refine aT Tryz.func292 rfl ?_
 refine zy (λj:Nat=>{F:=[(0,.r (is l)),(1,.r (.s (um aP I D q))),(7,.r (I l.length)),(8,.r (I j))],O:=[],nx:=0}) (λj=>j<=l.length/\lP q 0 l=lP q j (l.drop j)) (λj=>l.length-j) 0 ⟨by omega,by simp⟩ (zM []) ?_
 rintro j ⟨hj,he⟩
 refine cZ (λh=>?_) λh=>?_
 ·simp only[zb]at h
  have hj':j<l.length:=by omega
  rw[cI hj']at he
  simp only[lP]at he
  refine cV (xn rfl hj') (zg rfl ?_)
  refine Vstep.cloB l[j] rfl rfl rfl rfl (cr) (hD _ (bY hj')) (λhq=>zp ?_) (λhq=>zq ?_)
  ·rw[hq]at he
   exact zf (by rw[he];simp)
  ·rw[hq]at he
   refine zd (m:=((j+1:Nat):Int)) (by omega) (by omega) ?_
   exact⟨j+1,⟨hj',by rw[he];simp⟩,by omega,zM []⟩
 ·simp only[zb]at h
  rw[List.drop_eq_nil_of_le (by omega)]at he
  exact zf (by rw[he];rfl)
theorem ku(l:List Int)(D:Int->Prop)(q:Int->Bool)(hl:l.length<=1000000000)(hD: ∀x∈l,D x):aG 503 [is l,.s (um aP I D q)] (.r (.b (l.any q))):=by
 refine aT Tryz.func503 rfl ?_
 refine ze (TW l D q hl hD) ?_
 exact zG rfl (zf (cR RV.b (by rw[cD,decide_eq_true_eq];exact(Rm q l 0).2.2)))
def mW(u:Int):Prop:=0<=u/\u<65536
def pc(x:Int):Nat:=if x.tmod 2=1 then 1 else 2
def sJ(x:Int)(n:Node):Bool:=n.right&&(decide (n.kind.toNat≠pc x)&&n.par.late.all λu=>sI (2*u) x)
theorem H6(l:List Int)(q:Int->Bool):(!l.any λu=> !q u)=l.all q:=by
 induction l with
 |nil=>rfl
 |cons x r ih=>simp[List.any_cons,List.all_cons,Bool.not_or,ih]
theorem Node.right_late{n:Node}(h:n.right=true): ∀u∈n.par.late,mW u:=by
 unfold Node.right at h
 split at h
 ·simp only[bB]at h
  have:=h.2
  simp only[Par.none,decide_eq_true_eq,List.length_eq_zero_iff]at this
  rw[this.2.2];simp
 ·split at h
  ·simp only[bB]at h
   have:=h.2
   simp only[Par.none,decide_eq_true_eq,List.length_eq_zero_iff]at this
   rw[this.2.2];simp
  ·split at h
   ·simp only[bB]at h
    exactλu hu=>Par.right_bd h.2 u hu
   ·cases h
theorem Ln:(Tryz.prog.info? 40).bind (·.zero)=some (.agg #[.int .u8 0,.slice none 0 0,.slice none 0 0,.slice none 0 0,.int .u8 0,.slice none 0 0,.slice none 0 0,.slice none 0 0,.slice none 0 0,.slice none 0 0]):=by kernel_rfl
theorem FK:(Tryz.prog.info? 22).bind (·.zero)=some (.slice none 0 0):=by kernel_rfl
theorem Hz(w:World)(k:Kp):(RV.ag zc).at_ w k (.agg #[.int .u8 0,.slice none 0 0,.slice none 0 0,.slice none 0 0,.int .u8 0,.slice none 0 0,.slice none 0 0,.slice none 0 0,.slice none 0 0,.slice none 0 0]):=by
 simp only[RV.at_]
 refine⟨_,rfl,?_⟩
 exact n8 [.int .u8 0,.slice none 0 0,.slice none 0 0,.slice none 0 0,.int .u8 0,.slice none 0 0,.slice none 0 0,.slice none 0 0,.slice none 0 0,.slice none 0 0] (by simp[Value.oneCell'])
def o8(l:List Stub)(x:Int):Option cT:=(l.find? λs=>decide (s.at_=x)).map (·.hash)
theorem qV: ∀(l:List Spot) (x:Int),wV (wm l) x=(xP l x).map λn=> .ag n.c
 |[],x=>rfl
 |s::l,x=>by
  have ih:=qV l x
  simp only[wm,xP,cJ,wV,List.find?_cons]at*
  by_cases h:s.at_=x
  ·simp[h]
  ·simp[h,ih]
theorem jY: ∀(l:List Stub) (x:Int),wV (wx l) x=(o8 l x).map bs
 |[],x=>rfl
 |s::l,x=>by
  have ih:=jY l x
  simp only[wx,o8,cJ,wV,List.find?_cons]at*
  by_cases h:s.at_=x
  ·simp[h]
  ·simp[h,ih]
section
variable {S:St} {o:Oper}
theorem Vstep.node2{x y:Operand}{n:Int}{l:List Spot}{K:St->Prop}(hop:o.op= .lookup 330 x y true)(hx:yv S x=some (.r (.s (wD (wm l)))))(hy:yv S y=some (.r (.i .i64 n)))
  (h1: ∀m,xP l n=some m->yI S o.dst (.r (.tu [.ag m.c,.b true])) none K) (h0:xP l n=none->yI S o.dst (.r (.tu [.ag zc,.b false])) none K):Vstep aP S o K:=by
 refine Vstep.look2 (.ag zc) hop hx hy jh nJ Ln Hz (λr hr=>?_) (λhr=>?_)
 ·rw[qV,Option.map_eq_some_iff]at hr
  obtain⟨m,hm,rfl⟩:=hr
  exact h1 m hm
 ·rw[qV,Option.map_eq_none_iff]at hr
  exact h0 hr
theorem Vstep.node1{x y:Operand}{n:Int}{l:List Spot}{K:St->Prop}(hop:o.op= .lookup 330 x y false)(hx:yv S x=some (.r (.s (wD (wm l)))))(hy:yv S y=some (.r (.i .i64 n)))
  (h1: ∀m,xP l n=some m->yI S o.dst (.r (.ag m.c)) none K) (h0:xP l n=none->yI S o.dst (.r (.ag zc)) none K):Vstep aP S o K:=by
 refine Vstep.look1 (.ag zc) hop hx hy jh nJ Ln Hz (λr hr=>?_) (λhr=>?_)
 ·rw[qV,Option.map_eq_some_iff]at hr
  obtain⟨m,hm,rfl⟩:=hr
  exact h1 m hm
 ·rw[qV,Option.map_eq_none_iff]at hr
  exact h0 hr
theorem Vstep.hash1{x y:Operand}{n:Int}{l:List Stub}{K:St->Prop}(hop:o.op= .lookup 331 x y false)(hx:yv S x=some (.r (.s (wD (wx l)))))(hy:yv S y=some (.r (.i .i64 n)))
  (h1: ∀m,o8 l n=some m->yI S o.dst (.r (bs m)) none K) (h0:o8 l n=none->yI S o.dst (.r (.x (.slice none 0 0))) none K):Vstep aP S o K:=by
 refine Vstep.look1 (.x (.slice none 0 0)) hop hx hy bj nJ FK (λ_ _=>by simp[RV.at_]) (λr hr=>?_) (λhr=>?_)
 ·rw[jY,Option.map_eq_some_iff]at hr
  obtain⟨m,hm,rfl⟩:=hr
  exact h1 m hm
 ·rw[jY,Option.map_eq_none_iff]at hr
  exact h0 hr
end
theorem OH{l:List Spot}{x:Int}{n:Node}(h:xP l x=some n): ∃s∈l,s.at_=x/\s.node=n:=by
 simp only[xP,Option.map_eq_some_iff]at h
 obtain⟨s,hs,rfl⟩:=h
 exact⟨s,List.mem_of_find?_eq_some hs,by simpa using List.find?_some hs,rfl⟩
theorem Vsem.field{P:Program}{T:TT}{S:St}{o:Oper}(hT:TOk P T){t:TypeId}{x:Operand}{i off:Nat}{ft:TypeId}{ti tf:TI}{fs:List (Nat×TypeId)}{cells:List RV}{rv:RV}{K:TF->Option Ow->Prop}(hop:o.op= .field t x i)(hti:yL T t=some ti)(hk:ti.k= .struct fs)(hfs:yp fs i=some (off,ft))(htf:yL T ft=some tf)(hag:tf.agg=false)
  (hx:yv S x=some (.r (.ag cells))) (hc:yp cells off=some rv) (hK:K (.r rv) none):Vsem P S o K:=by
 refine⟨_,_,λB N a w k Q ⟨g,hs⟩ hd=>?_,hK⟩
 have hv:=(yi hs hx).2
 simp only[TF.at_,RV.at_]at hv
 obtain⟨us,e,hl⟩:=hv
 rw[yE]at hc hfs
 have hul:=(RV.listAt_iff _ _).1 hl
 have hlt:off<us.toList.length:=by rw[hul.1];exact(List.getElem?_eq_some_iff.1 hc).1
 have hu:us.toList[off]?=some us.toList[off]:=bA hlt
 have h1:=hul.2 off rv _ hc hu
 obtain⟨q,hq⟩:=hT.get hti
 obtain⟨d,hdd,hko,_⟩:=q.desc
 rw[hq]at hdd
 rw[hk]at hko
 obtain⟨fields,rfl,hfl⟩:=hko
 obtain⟨qf,hqf⟩:=hT.get htf
 obtain⟨df,hdf,_,hrow⟩:=qf.desc
 rw[hqf]at hdf
 rw[hag]at hrow
 have hagg:(isAgg ft).run P w= .ok false w:=by
  unfold isAgg
  rw[Sem.run_bind,run_underlying hdf w]
  cases df<;>simp_all [TypeDesc.isRow]
 rw[<-hfl,bR]at hfs
 cases hfi:fields.toList[i]? with
 |none=>simp[hfi]at hfs
 |some fd=>
  simp only[hfi,Option.map_some,bT,Prod.mk.injEq]at hfs
  obtain⟨rfl,rfl⟩:=hfs
  have hfa:fields[i]?=some fd:=by simpa using hfi
  have hua:us[fd.offset]?=some us.toList[fd.offset]:=by rw[<-Array.getElem?_toList];exact hu
  refine yG (v:=us.toList[fd.offset]) (w':=w) ?_ ⟨k,g,hs.put hd trivial h1.2⟩
  simp[execOp,hop,Instr.field,run_underlying hdd w,hfa,e,part,hagg,hua,asAgg]
theorem Xn{α:Type}{p:α->Bool}{l:List α}{x:α}(hx:x∈l)(h:p x=false):l.all p=false:=by
 rw[List.all_eq_false];exact⟨x,hx,by simp[h]⟩
def kR(i:Int)(n:Node):cT:=if i<0\/65536<=i then[]else if n.right=false\/n.kind.toNat=2 then[]else gE i n
def U0(i:Int)(n:Node):Int:=if i<0\/65536<=i then 1 else if n.right=false\/n.kind.toNat=2 then 3 else 0
theorem Sa(i:Int)(n:Node)(hn:n.fit):aG 314 [I i,.ag n.c] (.r (.tu [bs (kR i n),.i .u8 (U0 i n)])):=by
 have:=QA i n hn
 unfold kR U0
 by_cases h1:i<0\/65536<=i
 ·rw[cO h1]at this;rw[cO h1,cO h1];exact this
 ·rw[cQ h1]at this;rw[cQ h1,cQ h1]
  by_cases h2:n.right=false\/n.kind.toNat=2
  ·rw[cO h2]at this;rw[cO h2,cO h2];exact this
  ·rw[cQ h2]at this;rw[cQ h2,cQ h2];exact this
theorem Me(i:Int)(n:Node)(hn:n.fit):(kR i n).length<=50000000000:=by
 have:=UF n hn
 unfold kR gE
 split
 ·simp
 ·split
  ·simp
  ·simp[yj];omega
theorem Wm{l:List Stub}{x:Int}{m:cT}(h:o8 l x=some m):Of l x=m/\∃s∈l,s.at_=x/\s.hash=m:=by
 simp only[o8]at h
 refine⟨by simp[Of,h],?_⟩
 rw[Option.map_eq_some_iff]at h
 obtain⟨s,hs,rfl⟩:=h
 exact⟨s,List.mem_of_find?_eq_some hs,by simpa using List.find?_some hs,rfl⟩
theorem Qx{α β:Type}{f:β->α->β}{b:β}{l:List α}{j:Nat}(hj:j<l.length):(l.take (j+1)).foldl f b=f ((l.take j).foldl f b) l[j]:=by
 rw[List.take_add_one,bA hj,List.foldl_append];rfl
def BR(h k:Nat)(x:Int):Prop:=((k*2^(h+1):Nat):Int)<=x/\x+2<=((k*2^(h+1)+2^(h+1):Nat):Int)
abbrev jA(O:List Spot)(z:Int):Bool:=(xP O z).isSome
theorem w8{S:St}(pub:Bool)(id i:Nat)(e:TypeId)(sz:Nat){cells:List TF}(ho:ye S.O id=some (.box cells))(hc:cells[i]?=some (.r (.x (.slice none 0 0)))):
  Sub S {F:=S.F,O:=(id,some (.box (cells.set i (.own S.nx))))::(S.nx,some (.ch e sz 0 [] pub))::S.O,nx:=S.nx+1}:=by
 rintro B N a w k ⟨g,hs⟩
 have h:=hs.adopt (dst:=none) (λd hd=>by cases hd) (o:= .ch e sz 0 [] pub) (vb:=(.slice none 0 0,none)) trivial ⟨by simp,.inl ⟨rfl,.inl ⟨rfl,none,rfl⟩⟩⟩ (λb hb=>by cases hb) (λi o' b _ hb=>by cases hb)
 have e0:a.put none (.slice none 0 0)=a:=rfl
 simp only[St.mk_]at h
 rw[e0]at h
 obtain⟨p1,p2,p3,p4⟩:=hs.owns id _ ho
 have hid:ye ((S.nx,some (Ow.ch e sz 0 [] pub))::S.O) id=some (.box cells):=by
  simp only[ye]
  split
  ·rename_i hb;have:=bI hb;omega
  ·exact ho
 have hg:(g.set S.nx ((Value.slice none 0 0),none)) S.nx=((Value.slice none 0 0),none):=by rw[Env.set_eq]
 have old: ∀x ox,ye ((id,some (Ow.box (cells.set i (.own S.nx))))::(S.nx,some (Ow.ch e sz 0 [] pub))::S.O) x=some ox->∃ox',ye ((S.nx,some (Ow.ch e sz 0 [] pub))::S.O) x=some ox':=λx ox hx=>by
  rcases yD hx with⟨rfl,_⟩ |⟨_,h'⟩
  ·exact⟨_,hid⟩
  ·exact⟨_,h'⟩
 refine⟨k,_,h.size,h.defers,h.keep,h.kk,h.facts,λj o' ho'=>?_,λx y ox oy b hx hy hne hb=>?_⟩
 ·rcases yD ho' with⟨rfl,e'⟩ |⟨hne,h'⟩
  ·cases e'
   obtain⟨q1,q2,q3,q4⟩:=h.owns _ _ hid
   refine⟨q1,λf hf=>?_,?_,q4⟩
   ·rcases List.mem_or_eq_of_mem_set hf with hf |rfl
    ·exact q2 f hf
    ·exact Nat.lt_succ_self _
   ·obtain⟨b,cur,t,e1,e2,e3,e4,e5⟩:=q3
    refine⟨b,cur,t,e1,e2,e3,by simpa using e4,λj f u hf hu=>?_⟩
    rw[List.getElem?_set]at hf
    split at hf
    ·rename_i hij
     subst hij
     split at hf
     ·cases hf
      obtain⟨u1,u2⟩:=e5 i _ u hc hu
      simp only[TF.at_,RV.at_]at u2
      exact⟨u1,by simp only[TF.at_];rw[hg];exact u2⟩
     ·cases hf
    ·exact e5 j f u hf hu
  ·exact h.owns j o' h'
 ·obtain⟨ox',hx'⟩:=old x ox hx
  obtain⟨oy',hy'⟩:=old y oy hy
  exact h.apart x y ox' oy' b hx' hy' hne hb
theorem ud{ρ:List (Nat×Nat)}{S:St}{f g:TF}{fs gs:List TF}(h:oW ρ S f g)(r:rY ρ S fs gs):rY ρ S (f::fs) (g::gs):=⟨_,_,rfl,h,r⟩
abbrev vA(L:List Spot):Ow:= .ch 241 11 L.length (L.flatMap Spot.c) true
abbrev vC(L:List Stub):Ow:= .ch 432 2 L.length (L.flatMap Stub.c) true
abbrev zero4:List RV:=[I 0,I 0,.x (.slice none 0 0),.x (.slice none 0 0)]
theorem sL(n:Node)(hn:n.fit)(hcl:aG 128 [.ag n.leaf.c] (.r (.ag n.leaf.c))):aG 196 [.ag n.c] (.r (.ag n.c)):=by
 refine aT Tryz.func196 rfl ?_
 obtain⟨h1,h2⟩:=hn
 refine cU ?_
 refine ze hcl ?_
 refine aV ?_
 refine ze (x4 n.par.box (by have:=h2.1;omega)) ?_
 refine ze (x4 n.par.hash (by have:=h2.2.1;omega)) ?_
 refine ze (LD n.par.late (by have:=h2.2.2.1;omega)) ?_
 refine cU ?_
 refine cU ?_
 exact cr
end Go.Proofs.YtkegaaonpekkgaaGreat.Sx
