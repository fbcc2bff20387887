import Derived.Test.YtkegaaonpekkgaaGreatXqEt
import Derived.Test.YtkegaaonpekkgaaGreatXqSxU
import Derived.Test.YtkegaaonpekkgaaGreatXqHg
import Derived.Test.YtkegaaonpekkgaaGreatXqSxFl
import Derived.Maps.RangeRun
import Derived.Test.YtkegaaonpekkgaaGreatXqMe
import Derived.Shelf.SlIterI.Nil
import Derived.Shelf.SortM.Plain
import Derived.Shelf.SortM.SortNone
import Derived.Ground.GgzProg
import Derived.Ground.SlgmProg
namespace Go.Proofs.YtkegaaonpekkgaaGreat.Sx
open Go.RowKit
set_option maxHeartbeats 4000000
section
def Qp(k p:cT):cT:=fY (nW k) (Fe.of p)
def nine:cT:=Fe.bytes ⟨9&&&wb,yA 9 51,0,0,0⟩
def oI(k:cT):cT:=Qp k nine
theorem KL:nine.length=32:=Fe.bytes_len _
attribute [irreducible] nine
theorem Gd(k p:cT)(hk:k.length=32)(hp:p.length=32):aG 209 [bs k,bs p] (.r (.tu [bs (Qp k p),Er 0])):=by
 refine aT Tryz.func209 rfl ?_
 refine zu (by simp[hk]) (zq ?_)
 refine zu (by simp[hp]) (zq ?_)
 refine ze (Gb k hk) ?_
 refine ze (EJ p hp) ?_
 refine ze (NE (nW k) (Fe.of p) ((an k).trans hk)) ?_
 exact⟨_,rfl,cr⟩
theorem E9(k:cT)(hk:k.length=32):aG 123 [bs k] (.r (.tu [bs (oI k),Er 0])):=by
 refine aT Tryz.func123 rfl ?_
 refine ze (mT 9) ?_
 refine ze (fK ⟨9&&&wb,yA 9 51,0,0,0⟩) ?_
 refine zB (Gd k nine hk KL) (zk (cr) (zk (zf (by unfold nine;rfl)) zA)) ?_
 exact⟨_,rfl,cr⟩
def Pu:cT:=[75,69,77,0,32]
def nA(seed:cT):cT:=L3 Pu (Vr Pu [] [100,107,112,95,112,114,107] seed) [115,107] [] 32
theorem L4(n s l i:cT){m:Nat}(h:m<=32):(L3 n s l i m).length=m:=j4 _ _ h
theorem L8(n s l i:cT):(Vr n s l i).length=32:=x8 _ _
theorem lj(seed:cT):(nA seed).length=32:=L4 _ _ _ _ (by omega)
theorem YF(seed:cT)(hs:seed.length<=1000000000):aG 49 [bs seed] (.r (.tu [bs (nA seed),bs (oI (nA seed))])):=by
 refine aT Tryz.func49 rfl ?_
 have hx:(Vr Pu [] [100,107,112,95,112,114,107] seed).length<=1000000000:=by rw[L8];omega
 refine zB (Q8 ⟨#[75,69,77,0,32]⟩ ⟨#[100,107,112,95,112,114,107]⟩ [] seed (by simp) hs (by decide) (by decide)) (zk (cr) (zk (z8 1) (zn _))) ?_
 refine zB (ON ⟨#[75,69,77,0,32]⟩ ⟨#[115,107]⟩ (Vr Pu [] [100,107,112,95,112,114,107] seed) [] 32 (by omega) hx (by simp) (by decide) (by decide)) (zk (cr) (zk (cr) (zk (cr) (zk (z8 1) (zn _))))) ?_
 refine ze (E9 (nA seed) (lj seed)) ?_
 exact⟨_,rfl,cr⟩
theorem x7(s l c:cT){n:Nat}(h:n<=32):(xU s l c n).length=n:=j4 _ _ h
def WW:cT:=[112,97,116,104]
theorem N2(s:cT)(hs:s.length<=1000000000):aG 380 [bs s] (.r (bs (xU s WW [] 32))):=by
 refine aT Tryz.func380 rfl ?_
 refine ze (un s ⟨#[112,97,116,104]⟩ hs (by decide)) ?_
 exact cr
end
section
def J5:cT:=[119,97,121]
def sG(seed:cT):Nat->cT
 |0=>xU seed J5 [] 32
 |k+1=>xU (sG seed k) WW [] 32
theorem MM(seed:cT)(k:Nat):sG seed (k+1)=xU (sG seed k) WW [] 32:=rfl
theorem Tt(seed:cT): ∀k,(sG seed k).length=32
 |0=>x7 _ _ _ (by omega)
 |k+1=>x7 _ _ _ (by omega)
attribute [irreducible] sG
def vz(seed:cT)(m:Nat):List cT:=(List.range m).map (sG seed)
theorem ff(seed:cT)(m:Nat):(vz seed m).length=m:=by simp[vz]
theorem PY(seed:cT)(m:Nat):vz seed (m+1)=vz seed m++[sG seed m]:=by simp[vz,List.range_succ]
theorem Wl(seed:cT):vz seed 1=[sG seed 0]:=by simp[vz,List.range_succ]
theorem MN(seed:cT){m:Nat}:((((vz seed (m+1)).map bs).drop ((m:Int).toNat*1)).take 1)[0]?=some (bs (sG seed m)):=by
 have h:m< ((vz seed (m+1)).map bs).length:=by rw[bC,ff];omega
 rw[cF,cL,bZ,cO (by omega),List.getElem?_drop]
 show((vz seed (m+1)).map bs)[m]?=_
 rw[bA h]
 simp[vz]
def Ax(seed:cT)(n:Int)(m:Nat):St:={F:=[(1,.r (I n)),(5,.own 0)],O:=[(0,some (.ch 22 1 (m+1) ((vz seed (m+1)).map bs) true))],nx:=1}
theorem RG(seed:cT)(m:Nat):(vz seed (m+1)).map bs++[bs (xU (sG seed m) WW [] 32)]=(vz seed (m+1+1)).map bs:=by
 rw[PY seed (m+1),bM,<-MM]
 rfl
theorem Fs(seed:cT){n:Int}{m:Nat}(h:n=(m:Int)):Cv (.sl 1 (m+1) ((vz seed (m+1)).map bs)) (tk (vz seed (n.toNat+1))):=zf (by subst h;rw[cF];unfold tk;rw[ff])
theorem NI(seed:cT)(n:Int)(hs:seed.length<=1000000000)(hn:0<=n/\n<=16):aG 277 [bs seed,I n] (.r (tk (vz seed (n.toNat+1)))):=by
 refine aT Tryz.func277 rfl ?_
 refine Vcode.scope mixed Tab_ok 0 (Ax seed n) (λm=>(m:Int)<=n) (λm=>n.toNat-m) rfl ?_ ?_
 ·refine zu (by simp;omega) ?_
  refine zu (by simp;omega) (zq ?_)
  refine ze (un seed ⟨#[119,97,121]⟩ hs (by decide)) ?_
  refine zw ?_
  have e0:[bs (xU seed J5 [] 32)]=(vz seed 1).map bs:=by rw[Wl];unfold sG;rfl
  refine cZ (λh=>?_) λh=>?_
  ·simp only[zb]at h
   refine zd (m:=0) rfl (by decide) ?_
   refine zm (by decide) (by decide) rfl (zg rfl ?_)
   refine ze (N2 (xU seed J5 [] 32) (by rw[x7 _ _ _ (by omega)];omega)) ?_
   refine zw ?_
   refine z7 (j:=2) (zs:=(vz seed 2).map bs) (by decide) (by decide) rfl (by rw[<-RG seed 0];unfold sG;rw[Wl];unfold sG;rfl) ?_
   exact⟨1,by omega,zN [(0,2)] ⟨⟨rfl,rfl,rfl,rfl,zn _⟩,trivial⟩⟩
  ·simp only[zb]at h
   exact zf (by rw[show n.toNat=0 by omega];unfold tk;rw[ff,<-e0];rfl)
 ·intro m hm
  refine cZ (λh=>?_) λh=>?_
  ·simp only[zb]at h
   refine zd (m:=(m:Int)) (by omega) (by omega) ?_
   refine cV rfl (zg (MN seed) ?_)
   refine ze (N2 (sG seed m) (by rw[Tt];omega)) ?_
   refine zw ?_
   refine z7 (j:=m+1+1) (zs:=(vz seed (m+1+1)).map bs) (by simp only[maxLen];omega) (by show(m+1+1)*24<=_;omega) rfl (RG seed m) ?_
   exact⟨m+1,by omega,by omega,zN [(0,2)] ⟨⟨rfl,rfl,rfl,rfl,zn _⟩,trivial⟩⟩
  ·simp only[zb]at h
   exact Fs seed (by omega)
end
structure KeyP where
 at_:Int
 key:cT
 deriving DecidableEq
abbrev KeyP.c(k:KeyP):List RV:=[I k.at_,bs k.key]
def wQ(l:List KeyP):RV:= .sl 2 l.length (l.flatMap KeyP.c)
def iy(n:Nat):cT:=((List.replicate 32 (0:UInt8)).set 0 (UInt8.ofNat n)).set 1 (UInt8.ofNat (n/256))
theorem fg(n:Nat):(iy n).length=32:=by simp[iy]
theorem NJ(n:Nat)(hn:n<=1000000000):aG 41 [I n] (xJ (iy n)):=by
 refine yT (T:=Tab) mixed Tab_ok Tryz.func41 rfl (by kernel_rfl) ?_
 refine⟨rfl,by decide,by decide,by decide,_,_,rfl,bt,Vpub.own ?_⟩
 refine Vint.u8 n rfl ?_
 refine Vquo.i64 n 256 rfl rfl (by omega) (by omega) ?_
 refine Vint.u8 (n/256) rfl ?_
 refine zD 0 rfl (by decide) ?_
 refine⟨by decide,((List.replicate 32 (0:UInt8)).set 0 (UInt8.ofNat n)).map U8,vI (by decide),?_⟩
 refine zD 1 rfl (by decide) ?_
 refine⟨by rw[bC,List.length_set];decide,(iy n).map U8,vI (by rw[List.length_set];decide),?_⟩
 refine⟨_,xE (id:=0) rfl,?_⟩
 exact cR (λm=>some (Ow.ch 5 1 m ((iy n).map U8) true)) (fg n).symm
theorem jz(k:cT):(oI k).length=32:=by unfold oI Qp fY;exact Fe.bytes_len _
structure CtxP where
 group:cT
 epoch:Nat
 tree:cT
 trans:cT
abbrev CtxP.c(x:CtxP):List RV:=[bs x.group,.i .u64 x.epoch,bs x.tree,bs x.trans]
structure CtxP.fit (x:CtxP):Prop where
 group:x.group.length<=1000000
 epoch:x.epoch<18446744073709551616
 tree:x.tree.length<=1000000
 trans:x.trans.length<=1000000
def yV(x:CtxP):cT:=yg 2 1++yg 2 1++zZ x.group++yg 8 x.epoch++zZ x.tree++zZ x.trans++[0]
theorem tI(x:CtxP):(yV x).length<=x.group.length+x.tree.length+x.trans.length+25:=by
 have v1:=yf x.group
 have v2:=yf x.tree
 have v3:=yf x.trans
 simp only[yV,aL,yj,bJ,bO]
 omega
theorem mm(x:CtxP)(hx:x.fit):aG 157 [.ag x.c] (.r (bs (yV x))):=by
 refine aT Tryz.func157 rfl ?_
 obtain⟨h1,h2,h3,h4⟩:=hx
 have v1:=yf x.group
 have v2:=yf x.tree
 have v3:=yf x.trans
 refine aV ?_
 refine zB (vL [] 2 1 (by simp) (.inr (.inl rfl))) (zk (z8 _) (zn _)) ?_
 rw[cG]
 refine ze (vL (yg 2 1) 2 1 (by rw[yj];omega) (.inr (.inl rfl))) ?_
 refine ze (wd (yg 2 1++yg 2 1) x.group (by rw[aL,yj];omega) (by omega)) ?_
 refine ze (vL (yg 2 1++yg 2 1++zZ x.group) 8 x.epoch (by simp only[aL,yj];omega) (.inr (.inr (.inr rfl)))) ?_
 refine aV ?_
 refine ze (wd (yg 2 1++yg 2 1++zZ x.group++yg 8 x.epoch) x.tree (by simp only[aL,yj];omega) (by omega)) ?_
 refine ze (wd (yg 2 1++yg 2 1++zZ x.group++yg 8 x.epoch++zZ x.tree) x.trans (by simp only[aL,yj];omega) (by omega)) ?_
 refine zw ?_
 refine z7 (j:=(yV x).length) (zs:=(yV x).map U8) (by simp only[maxLen,aL,yj];omega) (by simp only[aL,yj];show(_+_)*1<=_;omega) (by simp only[yV,aL,bJ,bO]) (by simp only[yV,bM];rfl) ?_
 exact cr
theorem eL(s:cT)(label:ByteArray)(ctx:cT)(n:Nat)(hn:1<=n/\n<=32)(hs:s.length<=1000000000)(hl:label.size<=1048576)(hc:ctx.length<=1048576):aG 203 [bs s,vd label,bs ctx,I n] (.r (bs (xU s (sB label) ctx n))):=by
 refine aT Tryz.func203 rfl ?_
 refine ze (V2 s label ctx n hn hs hl hc) ?_
 exact cr
abbrev Pr:ByteArray:=⟨#[106,111,105,110,101,114]⟩
abbrev hU:ByteArray:=⟨#[101,112,111,99,104]⟩
abbrev TD:ByteArray:=⟨#[119,101,108,99,111,109,101]⟩
abbrev VB:ByteArray:=⟨#[103,114,111,117,112]⟩
abbrev Jo:ByteArray:=⟨#[115,101,110,100,101,114,32,100,97,116,97]⟩
abbrev Lz:ByteArray:=⟨#[101,110,99,114,121,112,116,105,111,110]⟩
abbrev L7:ByteArray:=⟨#[101,120,112,111,114,116,101,114]⟩
abbrev Lq:ByteArray:=⟨#[97,117,116,104,101,110,116,105,99,97,116,105,111,110]⟩
abbrev JE:ByteArray:=⟨#[101,120,116,101,114,110,97,108]⟩
abbrev Lx:ByteArray:=⟨#[99,111,110,102,105,114,109]⟩
abbrev KI:ByteArray:=⟨#[109,101,109,98,101,114,115,104,105,112]⟩
abbrev Je:ByteArray:=⟨#[114,101,115,117,109,112,116,105,111,110]⟩
abbrev K5:ByteArray:=⟨#[105,110,105,116]⟩
structure SecP where
 jn:cT
 wl:cT
 ep:cT
 sd:cT
 en:cT
 ex:cT
 au:cT
 xt:cT
 cf:cT
 mb:cT
 rs:cT
 it:cT
abbrev SecP.c(s:SecP):List RV:=[bs s.jn,bs s.wl,bs s.ep,bs s.sd,bs s.en,bs s.ex,bs s.au,bs s.xt,bs s.cf,bs s.mb,bs s.rs,bs s.it]
def rF(init commit ctx:cT):cT:=xU (wh init commit) (sB Pr) ctx 32
theorem Kc(init commit:cT)(x:CtxP)(hx:x.fit)(hs:x.group.length+x.tree.length+x.trans.length<=1000000)(hi:init.length<=1000000000)(hc:commit.length<=1000000000):aG 118 [bs init,bs commit,.ag x.c] (.r (bs (rF init commit (yV x)))):=by
 refine aT Tryz.func118 rfl ?_
 have hb:=tI x
 have hm:=x8 init commit
 refine aV ?_
 refine ze (jC init commit (by omega) (by omega)) ?_
 refine cU ?_
 refine ze (mm x hx) ?_
 refine ze (eL (wh init commit) Pr (yV x) 32 (by omega) (by omega) (by decide) (by omega)) ?_
 exact cr
abbrev At(b off:Nat):RV:= .x (.pointer (some ⟨b,off,none⟩))
abbrev CO(b:Nat):List RV:=[vd Jo,At b 3,vd Lz,At b 4,vd L7,At b 5,vd Lq,At b 6,vd JE,At b 7,vd Lx,At b 8,vd KI,At b 9,vd Je,At b 10,vd K5,At b 11]
set_option maxRecDepth 20000 in
theorem GD(b:Nat):aG 204 [At b 0] (.r (.sl 2 9 (CO b))):=by
 refine aT Tryz.func204 rfl ?_
 refine aV ?_
 refine zw ?_
 exact cr
def Ts(jn wl ep:cT):SecP:=⟨jn,wl,ep,xU ep (sB Jo) [] 32,xU ep (sB Lz) [] 32,xU ep (sB L7) [] 32,xU ep (sB Lq) [] 32,xU ep (sB JE) [] 32,xU ep (sB Lx) [] 32,xU ep (sB KI) [] 32,xU ep (sB Je) [] 32,xU ep (sB K5) [] 32⟩
def z32:cT:=List.replicate 32 0
def iw(joiner ctx:cT):SecP:=Ts joiner (xU (wh joiner z32) (sB TD) [] 32) (xU (wh joiner z32) (sB hU) ctx 32)
abbrev D8:List TF:=[.r nl,.r nl,.r nl,.r nl,.r nl,.r nl,.r nl,.r nl,.r nl,.r nl,.r nl,.r nl]
def FY(jn wl ep:cT)(j:Nat):List TF:=[.r (bs jn),.r (bs wl),.r (bs ep)]++((((Ts jn wl ep).c.drop 3).take j).map TF.r++List.replicate (9-j) (.r nl))
theorem G0(joiner m wl ep z cx:cT)(x:CtxP)(hj:joiner.length<=1000000000)(hz:32=z.length)(hzm:(List.replicate ((32:Int).toNat) ([Value.int .u8 0].map xT)).flatten=z.map U8)(hep:ep.length=32)
  (c1:aG 202 [bs joiner,bs z] (xJ m)) (c2:aG 45 [bs m,vd TD] (.r (bs wl)))
  (c3:aG 157 [.ag x.c] (.r (bs cx))) (c4:aG 203 [bs m,vd hU,bs cx,I 32] (.r (bs ep))):
  aG 117 [bs joiner,.ag x.c] (.r (.ag (Ts joiner wl ep).c)):=by
 refine aT Tryz.func117 rfl ?_
 refine⟨rfl,by decide,by decide,by decide,z.length,z.map U8,hz,hzm,zw ?_⟩
 refine ze c1 ?_
 refine ze (x4 joiner (by omega)) ?_
 refine ze c2 ?_
 refine cU ?_
 refine ze c3 ?_
 refine ze c4 ?_
 refine Vstep.nmB 5 1000000 rfl λb=>Vstep.callX (tn:=1000000) rfl rfl rfl (GD b) ?_
 refine zy (λj:Nat=>⟨[(4,.own 1),(6,.own 5),(22,.r (.sl 2 9 (CO b))),(23,.r (I 9)),(24,.r (I j)),(1000000,.nm 5 (.pointer (some ⟨b,0,none⟩)))],[(1,some (.box D8)),(5,some (.box (FY joiner wl ep j)))],6⟩) (λj=>j<=9) (λj=>9-j) 0 (by omega) (zM [(1,1),(5,5)]) ?_
 intro j hj
 rcases(by omega:j<9\/j=9)with hlt |rfl
 rotate_left
 ·refine cX ?_
  refine cU ?_
  refine cU ?_
  exact cr
 obtain⟨k,hk⟩: ∃k,k=j+1:=⟨_,rfl⟩
 rcases(by omega:j=0\/j=1\/j=2\/j=3\/j=4\/j=5\/j=6\/j=7\/j=8)with rfl |rfl |rfl |rfl |rfl |rfl |rfl |rfl |rfl
 all_goals
  refine cY ?_
  refine zm (by decide) (by decide) rfl ?_
  refine cU ?_
  refine aV ?_
  refine ze (un ep _ (by omega) (by decide)) ?_
  refine zJ (bg (id:=5) (t:=35) (tn:=1000000) rfl rfl rfl) (Vstep.sto Tab_ok rfl ?_)
  refine zd (m:=(k:Int)) (by omega) (by omega) ?_
  exact⟨k,by omega,by omega,by subst hk;exact zM [(1,1),(5,5)]⟩
theorem Bz(joiner:cT)(x:CtxP)(hx:x.fit)(hs:x.group.length+x.tree.length+x.trans.length<=1000000)(hj:joiner.length<=1000000000):aG 117 [bs joiner,.ag x.c] (.r (.ag (iw joiner (yV x)).c)):=by
 have hb:=tI x
 have hm:=x8 joiner z32
 have c1:=jC joiner z32 hj (by decide)
 have c2:=un (wh joiner z32) TD (by omega) (by decide)
 have c3:=mm x hx
 have c4:=eL (wh joiner z32) hU (yV x) 32 (by omega) (by omega) (by decide) (by omega)
 have h1:=x7 (wh joiner z32) (sB hU) (yV x) (n:=32) (by omega)
 exact G0 joiner _ _ _ z32 _ x hj rfl bt h1 c1 c2 c3 c4
theorem YN(init commit:cT)(x:CtxP)(hx:x.fit)(hs:x.group.length+x.tree.length+x.trans.length<=1000000)(hi:init.length<=1000000000)(hc:commit.length<=1000000000):aG 44 [bs init,bs commit,.ag x.c] (.r (.ag (iw (rF init commit (yV x)) (yV x)).c)):=by
 refine aT Tryz.func44 rfl ?_
 have hj:=x7 (wh init commit) (sB Pr) (yV x) (n:=32) (by omega)
 have c2:=Bz (rF init commit (yV x)) x hx hs (by unfold rF;omega)
 refine aV ?_
 refine cU ?_
 refine ze (Kc init commit x hx hs hi hc) ?_
 refine cU ?_
 refine ze c2 ?_
 generalize iw (rF init commit (yV x)) (yV x)=s
 refine cU ?_
 exact cr
theorem VZ(s:SecP)(l:cT)(h1:s.cf.length<=1000000)(h2:l.length<=1000000):aG 47 [.ag s.c,bs l] (.r (bs (wh s.cf l))):=by
 refine aT Tryz.func47 rfl ?_
 have h:=Zj s.cf [l] (by omega) (by simp;omega)
 have e:([l]:List cT).flatMap id=l:=by simp
 rw[e]at h
 refine zw ?_
 refine ze h ?_
 exact cr
def gz(c t:cT):cT:=vk (c++zZ t)
theorem jL(c t:cT)(h1:c.length<=1000000)(h2:t.length<=1000000):aG 48 [bs c,bs t] (.r (bs (gz c t))):=by
 refine aT Tryz.func48 rfl ?_
 have hv:=yf t
 have h:=jD [c,zZ t] (by simp;omega)
 have e:([c,zZ t]:List cT).flatMap id=c++zZ t:=by simp
 rw[e]at h
 refine zB (x5 [] t (by simp) (by omega)) (zk (z8 1) (zn _)) ?_
 rw[cG]
 refine zw ?_
 refine ze h ?_
 exact cr
def kK(ents:List (Int×RV))(dn:List Nat)(last:Option Nat):GOw where
 at_ w k vb:=∃r,vb=(.pointer (some ⟨r,0,none⟩),some r)/\k r=0/\((ents=[]/\last=none/\w.heap[r]?=some (.mapIter none 0 #[] 0))\/
  ∃b es c since seen c0,b<w.heap.size/\0<k b/\w.heap[b]?=some (.map es c)/\entsAt w k ents es.toList/\stampE es c/\w.heap[r]?=some (.mapIter (some b) since seen c0)/\(∀x∈es.toList,x.born<since)/\since<=c0/\since<=c/\
   (∀j e,es.toList[j]?=some e->(seen.contains e.born=true↔j∈dn))/\(∀j,last=some j->∃e s,es.toList[j]?=some e/\seen=Array.push s e.born/\c0=c))
 mono:=by
  rintro w k w' k' vb h hb ⟨r,rfl,hk,hr⟩
  obtain⟨h1,h2⟩:=hb r rfl
  refine⟨r,rfl,h2.trans hk,?_⟩
  rcases hr with⟨e1,e2,hr⟩ |⟨b,es,c,since,seen,c0,q1,q2,q3,q4,q5,q6,q7,q8,q9,q10,q11⟩
  ·exact .inl ⟨e1,e2,h1.trans hr⟩
  ·exact .inr ⟨b,es,c,since,seen,c0,bN q1 h.size,bN q2 (h.keep b q1),h.map b q1 q2 es c q3,q4.mono h,q5,h1.trans q6,q7,q8,q9,q10,q11⟩
 one:=by rintro w k vb ⟨r,rfl,_⟩;rfl
theorem Z9{ents:List (Int×RV)}{dn:List Nat}{last:Option Nat}(w:World)(k:Kp)(vb:Value×Option Nat)(h:(kK ents dn last).at_ w k vb):(kK ents dn none).at_ w k vb:=by
 obtain⟨r,e,hk,hr⟩:=h
 refine⟨r,e,hk,?_⟩
 rcases hr with⟨e1,_,hr⟩ |⟨b,es,c,since,seen,c0,q1,q2,q3,q4,q5,q6,q7,q8,q9,q10,_⟩
 ·exact .inl ⟨e1,rfl,hr⟩
 ·exact .inr ⟨b,es,c,since,seen,c0,q1,q2,q3,q4,q5,q6,q7,q8,q9,q10,λj h=>by cases h⟩
theorem Mn{l:List Nat}(h:l.Nodup){i j x:Nat}(hi:l[i]?=some x)(hj:l[j]?=some x):i=j:=by
 obtain⟨h1,e1⟩:=List.getElem?_eq_some_iff.1 hi
 obtain⟨h2,e2⟩:=List.getElem?_eq_some_iff.1 hj
 rcases Nat.lt_trichotomy i j with hlt |e |hlt
 ·exact absurd (e1.trans e2.symm) ((List.pairwise_iff_getElem.1 h) i j h1 h2 hlt)
 ·exact e
 ·exact absurd (e2.trans e1.symm) ((List.pairwise_iff_getElem.1 h) j i h2 h1 hlt)
theorem lg: ∀(n:Nat) {l:List Nat},l.Nodup->(∀x∈l,x<n)->l.length<=n
 |0,l,_,h=>by
  cases l with
  |nil=>simp
  |cons x r=>have:=h x (by simp);omega
 |n+1,l,hn,h=>by
  by_cases hm:n∈l
  ·have h1:=lg n (hn.erase n) λx hx=>by
    have:=(hn.mem_erase_iff).1 hx
    have:=h x this.2
    omega
   rw[List.length_erase_of_mem hm]at h1
   omega
  ·have:=lg n hn λx hx=>by
    have h1:=h x hx
    have:x≠n:=λe=>hm (e▸hx)
    omega
   omega
section
variable {P:Program} {T:TT} {B:Bs} {N:Nat} {S:St} {a:Act} {w:World} {k:Kp} {g:Env} {o:Oper} {Q:Exit->Act->World->Prop}
theorem Vstep.range{t kt et:TypeId}{x:Operand}{ents:List (Int×RV)}{K:St->Prop}(hop:o.op= .range t x)(hx:yv S x=some (.r (.s (wD ents))))(hu:P.underlying t=some (.map kt et))
  (hK:yI S o.dst (.own S.nx) (some (.gen (kK ents [] none))) K):Vstep P S o K:=by
 rw[yJ]at hK
 refine zI (λB N a w k Q ⟨g,hs⟩ hd=>?_) hK
 have hv:=(yi hs hx).2
 simp only[TF.at_,RV.at_]at hv
 rcases hv with⟨hv,rfl⟩ |⟨b,es,c,hv,hb,hk,hh,he,hst⟩
 ·refine yG (v:= .pointer (some ⟨w.heap.size,0,none⟩)) (w':=w.alloc (.mapIter none 0 #[] 0)) (by simp[execOp,hop,hv,run_range_nilMap w t kt et hu]) ⟨x6 k w.heap.size 0,_,hs.make hd (vj w _) (λb hb=>wR b hb) (vb:=(.pointer (some ⟨w.heap.size,0,none⟩),some w.heap.size)) (o:= .gen (kK [] [] none)) trivial ?_ λb hb=>?_⟩
  ·exact⟨w.heap.size,rfl,wo,.inl ⟨rfl,rfl,heap_alloc_new w _⟩⟩
  ·cases hb
   exact⟨bQ _,by simp⟩
 ·refine yG (v:= .pointer (some ⟨w.heap.size,0,none⟩)) (w':=w.alloc (.mapIter (some b) c #[] c)) (by simp[execOp,hop,hv,run_range_map w t kt et b es c hu hh]) ⟨x6 k w.heap.size 0,_,hs.make hd (vj w _) (λb hb=>wR b hb) (vb:=(.pointer (some ⟨w.heap.size,0,none⟩),some w.heap.size)) (o:= .gen (kK ents [] none)) trivial ?_ λb hb=>?_⟩
  ·have hle:=Ext.le (vj w (.mapIter (some b) c #[] c)) (k:=k) (k':=x6 k w.heap.size 0) λb hb=>wR b hb
   exact⟨w.heap.size,rfl,wo,.inr ⟨b,es,c,c, #[],c,by simp;omega,by show 0<x6 k w.heap.size 0 b;rw[wR b hb];exact hk,hle.map b hb hk es c hh,he.mono hle,hst,heap_alloc_new w _,hst.1,bQ _,bQ _,λj e _=>by simp,λj h=>by cases h⟩⟩
  ·cases hb
   exact⟨bQ _,by simp⟩
theorem Vstep.next{x:Operand}{id:Nat}{ents:List (Int×RV)}{dn:List Nat}{last:Option Nat}{K:St->Prop}(hop:o.op= .next x false)(hx:yv S x=some (.own id))(ho:ye S.O id=some (.gen (kK ents dn last)))
  (h0:(∀j,j<ents.length->j∈dn)->yI S o.dst (.r (.tu [.b false])) none K)
  (h1: ∀(j:Nat) (x:Int×RV),ents[j]?=some x->j∉dn->yI ⟨S.F,(id,some (.gen (kK ents (dn++[j]) (some j))))::S.O,S.nx⟩ o.dst (.r (.tu [.b true,.i .i64 x.1,x.2])) none K):Vstep P S o K:=by
 simp only[yJ]at h0 h1
 let ι:={y:Option Nat//match y with
  |none=>∀j,j<ents.length->j∈dn
  |some j=>j<ents.length/\j∉dn}
 refine⟨ι,λy=>match y with
  |⟨none,_⟩=>S.new o.dst (.r (.tu [.b false])) none
  |⟨some j,h⟩=>St.new ⟨S.F,(id,some (.gen (kK ents (dn++[j]) (some j))))::S.O,S.nx⟩ o.dst (.r (.tu [.b true,.i .i64 (ents[j]'h.1).1,(ents[j]'h.1).2])) none,λB N a w k Q ⟨g,hs⟩ hd=>?_,λy=>?_⟩
 ·have hv:=(yi hs hx).2
  simp only[TF.at_]at hv
  obtain⟨_,_,hat,_⟩:=hs.owns id _ ho
  simp only[Ow.at_]at hat
  obtain⟨r,e,hkr,hr⟩:=hat
  rw[e]at hv
  rcases hr with⟨rfl,rfl,hr⟩ |⟨b,es,c,since,seen,c0,q1,q2,q3,q4,q5,q6,q7,q8,q9,q10,q11⟩
  ·refine yG (v:= .tuple #[.bool false]) (w':=w) ?_ ⟨⟨none,λj hj=>by simp at hj⟩,k,g,hs.put hd trivial ?_⟩
   ·simp only[execOp,hop,hv,Sem.run_bind]
    simp[Instr.next,getObj,Sem.run,hr]
   ·simp only[TF.at_,RV.at_]
    exact⟨_,rfl,by simp only[RV.partsAt,RV.at_];exact⟨_,_,rfl,rfl,rfl⟩⟩
  ·rcases run_next_at (P:=P) w o.type r b since c0 seen es c q6 q3 q7 q8 with⟨hz,hrun⟩ |⟨en,hen,w1,hw1,hrun⟩
   ·have hall: ∀j,j<ents.length->j∈dn:=λj hj=>by
     have hjl:j<es.toList.length:=by rw[q4.1];exact hj
     have hjs:=bA hjl
     refine(q10 j _ hjs).1 ?_
     refine Classical.byContradiction λhn=>?_
     have hm:es.toList[j]∈(leftOf es seen).toList:=by
      unfold leftOf
      rw[Array.toList_filter,List.mem_filter]
      exact⟨bY hjl,by simpa using hn⟩
     have:(leftOf es seen).toList=[]:=bU (by rw[bG];exact hz)
     rw[this]at hm
     cases hm
    refine yG (v:= .tuple #[.bool false]) (w':=w) (by simp[execOp,hop,hv,hrun]) ⟨⟨none,hall⟩,k,g,hs.put hd trivial ?_⟩
    simp only[TF.at_,RV.at_]
    exact⟨_,rfl,by simp only[RV.partsAt,RV.at_];exact⟨_,_,rfl,rfl,rfl⟩⟩
   ·unfold leftOf at hen
    rw[Array.toList_filter,List.mem_filter]at hen
    obtain⟨hmem,hns⟩:=hen
    obtain⟨j,hjl,hj⟩:=List.getElem_of_mem hmem
    have hjs:es.toList[j]?=some en:=by rw[bA hjl,hj]
    have hje:j<ents.length:=by rw[<-q4.1];exact hjl
    have hjn:j∉dn:=λh=>by
     have:=(q10 j en hjs).2 h
     rw[this]at hns
     cases hns
    have hx1:=q4.2 j _ en (bA hje) hjs
    have hheap:w1.heap=w.heap:=by rcases hw1 with rfl |rfl<;>rfl
    have hrl:r<w.heap.size:=(Array.getElem?_eq_some_iff.1 q6).1
    have hbr:b≠r:=λe=>by rw[e,q6]at q3;cases q3
    obtain⟨w2,hw2⟩: ∃w2,w2=ChangeMaps.setBlock w1 r (.mapIter (some b) since (seen.push en.born) c):=⟨_,rfl⟩
    have e2:w2.heap=w.heap.setIfInBounds r (.mapIter (some b) since (seen.push en.born) c):=by rw[hw2];simp only[ChangeMaps.setBlock];rw[hheap]
    have eos:w2.os=w.os/\w2.tape=w.tape/\w2.output=w.output:=by rw[hw2];rcases hw1 with rfl |rfl<;>exact⟨rfl,rfl,rfl⟩
    have hw:Wrote w k w2 k (some r):=⟨eos.1,eos.2.1,eos.2.2,by rw[e2];simp,λx _ hne=>⟨by rw[e2,Array.getElem?_setIfInBounds_ne (λh=>hne (by rw[h]))],rfl⟩,λx hx=>by
     cases hx
     exact⟨bQ _,λo' ho'=>by omega,λh=>by omega⟩⟩
    have hnew:(Ow.gen (kK ents (dn++[j]) (some j))).at_ w2 k g (g id):=by
     simp only[Ow.at_]
     refine⟨r,e,hkr,.inr ⟨b,es,c,since,seen.push en.born,c,bN q1 hw.size,q2,hw.le.map b q1 q2 es c q3,q4.mono hw.le,q5,by rw[e2,Array.getElem?_setIfInBounds_self_of_lt hrl],q7,q9,q9,λi ei hi=>?_,λi hi=>?_⟩⟩
     ·rw[Array.contains_push]
      simp only[Bool.or_eq_true,beq_iff_eq,List.mem_append,List.mem_singleton]
      constructor
      ·rintro(h |h)
       ·exact .inl ((q10 i ei hi).1 h)
       ·refine .inr (Mn q5.2.1 (x:=en.born) ?_ ?_)
        ·rw[bR,hi];exact cR some h
        ·rw[bR,hjs];rfl
      ·rintro(h |rfl)
       ·exact .inl ((q10 i ei hi).2 h)
       ·rw[hjs]at hi;cases hi;exact .inr rfl
     ·cases hi
      exact⟨en,seen,hjs,rfl,rfl⟩
    have hs2:=hs.redo (ow':= .gen (kK ents (dn++[j]) (some j))) ho (by rw[e]) hw trivial hnew
    refine yG (v:= .tuple #[.bool true,en.key,en.val]) (w':=w2) (by simp[execOp,hop,hv,hrun,hw2]) ⟨⟨some j,hje,hjn⟩,k,g,hs2.put hd trivial ?_⟩
    simp only[TF.at_,RV.at_]
    refine⟨_,rfl,?_⟩
    simp only[RV.partsAt,RV.at_]
    exact⟨_,_,rfl,rfl,_,_,rfl,hx1.1,_,_,rfl,RV.mono hw.le _ _ hx1.2,rfl⟩
 ·obtain⟨y,hy⟩:=y
  cases y with
  |none=>exact h0 hy
  |some j=>exact h1 j _ (bA hy.1) hy.2
theorem Vstep.entry{x:Operand}{id:Nat}{ents:List (Int×RV)}{dn:List Nat}{j:Nat}{y:Int×RV}{K:St->Prop}(hop:o.op= .entry x)(hx:yv S x=some (.own id))(ho:ye S.O id=some (.gen (kK ents dn (some j))))(hy:ents[j]?=some y)
  (hK:yI S o.dst (.r (.tu [.i .i64 y.1,y.2])) none K):Vstep P S o K:=by
 rw[yJ]at hK
 refine zI (λB N a w k Q ⟨g,hs⟩ hd=>?_) hK
 have hv:=(yi hs hx).2
 simp only[TF.at_]at hv
 obtain⟨_,_,hat,_⟩:=hs.owns id _ ho
 simp only[Ow.at_]at hat
 obtain⟨r,e,hkr,hr⟩:=hat
 rw[e]at hv
 rcases hr with⟨_,h,_⟩ |⟨b,es,c,since,seen,c0,q1,q2,q3,q4,q5,q6,q7,q8,q9,q10,q11⟩
 ·cases h
 ·obtain⟨en,s,hjs,rfl,rfl⟩:=q11 j rfl
  have hx1:=q4.2 j _ en hy hjs
  have hrun:=run_entry_at (P:=P) w r b since s es c0 en q6 q3 (cH hjs) q5.2.1
  refine yG (v:= .tuple #[en.key,en.val]) (w':=w) (by simp[execOp,hop,hv,hrun]) ⟨k,g,hs.put hd trivial ?_⟩
  simp only[TF.at_,RV.at_]
  refine⟨_,rfl,?_⟩
  simp only[RV.partsAt,RV.at_]
  exact⟨_,_,rfl,hx1.1,_,_,rfl,hx1.2,rfl⟩
end
section
open Go.Shelf
def gB:Go.Shelf.Ren:=⟨λ |7=>375 |10=>454 |n=>n,λ |23=>330 |26=>3 |3=>40 |28=>428 |0=>0 |27=>427 |33=>308 |4=>4 |n=>n,λ |n=>n⟩
theorem Pw:Go.Proofs.SlLaysZI.n7 aP gB:={
 mixed:=by kernel_rfl
 f7:=⟨Tryz.f375.name,by decide,Tryz.func375.trans (cR some (by kernel_rfl))⟩
 f10:=⟨Tryz.f454.name,by decide,Tryz.func454.trans (cR some (by kernel_rfl))⟩
 t0:=Tryz.underlying0
 a0:=Tryz.isAgg0
 z0:=Tryz.sizeOf0
 v0:=Tryz.zeroValue0
 t4:=Tryz.underlying4
 a4:=Tryz.isAgg4
 z4:=Tryz.sizeOf4
 v4:=Tryz.zeroValue4
 t23:=Tryz.underlying330
 a23:=Tryz.isAgg330
 z23:=Tryz.sizeOf330
 v23:=Tryz.zeroValue330
 t26:=Tryz.underlying3
 a26:=Tryz.isAgg3
 z26:=Tryz.sizeOf3
 v26:=Tryz.zeroValue3
 t27:=Tryz.underlying427
 a27:=Tryz.isAgg427
 z27:=Tryz.sizeOf427
 v27:=Tryz.zeroValue427
 t28:=Tryz.underlying428
 a28:=Tryz.isAgg428
 z28:=Tryz.sizeOf428
 v28:=Tryz.zeroValue428
 t33:=Tryz.underlying308
 a33:=Tryz.isAgg308
 z33:=Tryz.sizeOf308
 v33:=Tryz.zeroValue308}
def gC:Go.Shelf.Ren:=⟨λ |7=>376 |10=>455 |n=>n,λ |23=>331 |26=>3 |3=>22 |28=>428 |0=>0 |27=>427 |33=>308 |4=>4 |n=>n,λ |n=>n⟩
theorem Px:Go.Proofs.SlLaysZI.n7 aP gC:={
 mixed:=by kernel_rfl
 f7:=⟨Tryz.f376.name,by decide,Tryz.func376.trans (cR some (by kernel_rfl))⟩
 f10:=⟨Tryz.f455.name,by decide,Tryz.func455.trans (cR some (by kernel_rfl))⟩
 t0:=Tryz.underlying0
 a0:=Tryz.isAgg0
 z0:=Tryz.sizeOf0
 v0:=Tryz.zeroValue0
 t4:=Tryz.underlying4
 a4:=Tryz.isAgg4
 z4:=Tryz.sizeOf4
 v4:=Tryz.zeroValue4
 t23:=Tryz.underlying331
 a23:=Tryz.isAgg331
 z23:=Tryz.sizeOf331
 v23:=Tryz.zeroValue331
 t26:=Tryz.underlying3
 a26:=Tryz.isAgg3
 z26:=Tryz.sizeOf3
 v26:=Tryz.zeroValue3
 t27:=Tryz.underlying427
 a27:=Tryz.isAgg427
 z27:=Tryz.sizeOf427
 v27:=Tryz.zeroValue427
 t28:=Tryz.underlying428
 a28:=Tryz.isAgg428
 z28:=Tryz.sizeOf428
 v28:=Tryz.zeroValue428
 t33:=Tryz.underlying308
 a33:=Tryz.isAgg308
 z33:=Tryz.sizeOf308
 v33:=Tryz.zeroValue308}
def eV:Go.Shelf.Ren:=⟨λ |6=>374 |8=>452 |9=>453 |11=>505 |13=>461 |12=>506 |23=>517 |24=>518 |14=>530 |15=>531 |16=>532 |17=>533 |18=>534 |19=>535 |20=>444 |21=>536 |22=>537 |25=>550 |26=>540 |27=>541 |28=>551 |29=>552 |30=>462 |31=>555 |n=>n,λ |26=>3 |28=>428 |24=>36 |0=>0 |3=>3 |37=>303 |48=>298 |50=>43 |4=>4 |40=>534 |39=>533 |45=>417 |5=>5 |9=>9 |51=>552 |55=>556 |57=>564 |58=>296 |33=>308 |n=>n,λ |n=>n⟩
theorem RJ:Go.Proofs.SlLaysZI.n6 aP eV:={
 mixed:=by kernel_rfl
 f6:=⟨Tryz.f374.name,by decide,Tryz.func374.trans (cR some (by kernel_rfl))⟩
 f8:=⟨Tryz.f452.name,by decide,Tryz.func452.trans (cR some (by kernel_rfl))⟩
 f11:=⟨Tryz.f505.name,by decide,Tryz.func505.trans (cR some (by kernel_rfl))⟩
 t0:=Tryz.underlying0
 a0:=Tryz.isAgg0
 z0:=Tryz.sizeOf0
 v0:=Tryz.zeroValue0
 t24:=Tryz.underlying36
 a24:=Tryz.isAgg36
 z24:=Tryz.sizeOf36
 v24:=Tryz.zeroValue36
 t26:=Tryz.underlying3
 a26:=Tryz.isAgg3
 z26:=Tryz.sizeOf3
 v26:=Tryz.zeroValue3
 t28:=Tryz.underlying428
 a28:=Tryz.isAgg428
 z28:=Tryz.sizeOf428
 v28:=Tryz.zeroValue428
 i26:=by kernel_rfl}
def MQ:Go.Shelf.Ren:=⟨λ |5=>453 |8=>461 |7=>506 |19=>517 |20=>518 |10=>530 |11=>531 |12=>532 |13=>533 |14=>534 |15=>535 |16=>444 |17=>536 |18=>537 |30=>550 |31=>540 |32=>541 |33=>551 |34=>552 |35=>462 |40=>555 |n=>n,λ |23=>36 |25=>3 |3=>3 |32=>303 |22=>36 |0=>0 |44=>298 |46=>43 |4=>4 |36=>534 |35=>533 |41=>417 |5=>5 |9=>9 |53=>552 |57=>556 |63=>564 |64=>296 |n=>n,λ |n=>n⟩
theorem Ht:Go.Proofs.SlLaysM.n5 aP MQ:={
 mixed:=by kernel_rfl
 f5:=⟨Tryz.f453.name,by decide,Tryz.func453.trans (cR some (by kernel_rfl))⟩
 f7:=⟨Tryz.f506.name,by decide,Tryz.func506.trans (cR some (by kernel_rfl))⟩
 f8:=Tryz.func461.trans (cR some (by kernel_rfl))
 f10:=⟨Tryz.f530.name,by decide,Tryz.func530.trans (cR some (by kernel_rfl))⟩
 f11:=⟨Tryz.f531.name,by decide,Tryz.func531.trans (cR some (by kernel_rfl))⟩
 f12:=⟨Tryz.f532.name,by decide,Tryz.func532.trans (cR some (by kernel_rfl))⟩
 f13:=⟨Tryz.f533.name,by decide,Tryz.func533.trans (cR some (by kernel_rfl))⟩
 f14:=⟨Tryz.f534.name,by decide,Tryz.func534.trans (cR some (by kernel_rfl))⟩
 f15:=⟨Tryz.f535.name,by decide,Tryz.func535.trans (cR some (by kernel_rfl))⟩
 f16:=⟨Tryz.f444.name,by decide,Tryz.func444.trans (cR some (by kernel_rfl))⟩
 f17:=⟨Tryz.f536.name,by decide,Tryz.func536.trans (cR some (by kernel_rfl))⟩
 f18:=⟨Tryz.f537.name,by decide,Tryz.func537.trans (cR some (by kernel_rfl))⟩
 f19:=Tryz.func517.trans (cR some (by kernel_rfl))
 f20:=Tryz.func518.trans (cR some (by kernel_rfl))
 f30:=⟨Tryz.f550.name,by decide,Tryz.func550.trans (cR some (by kernel_rfl))⟩
 f31:=Tryz.func540.trans (cR some (by kernel_rfl))
 f32:=Tryz.func541.trans (cR some (by kernel_rfl))
 f33:=⟨Tryz.f551.name,by decide,Tryz.func551.trans (cR some (by kernel_rfl))⟩
 f34:=⟨Tryz.f552.name,by decide,Tryz.func552.trans (cR some (by kernel_rfl))⟩
 f35:=⟨Tryz.f462.name,by decide,Tryz.func462.trans (cR some (by kernel_rfl))⟩
 f40:=⟨Tryz.f555.name,by decide,Tryz.func555.trans (cR some (by kernel_rfl))⟩
 t0:=Tryz.underlying0
 a0:=Tryz.isAgg0
 z0:=Tryz.sizeOf0
 v0:=Tryz.zeroValue0
 t3:=Tryz.underlying3
 a3:=Tryz.isAgg3
 z3:=Tryz.sizeOf3
 v3:=Tryz.zeroValue3
 t4:=Tryz.underlying4
 a4:=Tryz.isAgg4
 z4:=Tryz.sizeOf4
 v4:=Tryz.zeroValue4
 t5:=Tryz.underlying5
 a5:=Tryz.isAgg5
 z5:=Tryz.sizeOf5
 v5:=Tryz.zeroValue5
 t9:=Tryz.underlying9
 a9:=Tryz.isAgg9
 z9:=Tryz.sizeOf9
 v9:=Tryz.zeroValue9
 t22:=Tryz.underlying36
 a22:=Tryz.isAgg36
 z22:=Tryz.sizeOf36
 v22:=Tryz.zeroValue36
 t23:=Tryz.underlying36
 a23:=Tryz.isAgg36
 z23:=Tryz.sizeOf36
 v23:=Tryz.zeroValue36
 t25:=Tryz.underlying3
 a25:=Tryz.isAgg3
 z25:=Tryz.sizeOf3
 v25:=Tryz.zeroValue3
 t32:=Tryz.underlying303
 a32:=Tryz.isAgg303
 z32:=Tryz.sizeOf303
 v32:=Tryz.zeroValue303
 t35:=Tryz.underlying533
 a35:=Tryz.isAgg533
 z35:=Tryz.sizeOf533
 v35:=Tryz.zeroValue533
 t36:=Tryz.underlying534
 a36:=Tryz.isAgg534
 z36:=Tryz.sizeOf534
 v36:=Tryz.zeroValue534
 t41:=Tryz.underlying417
 a41:=Tryz.isAgg417
 z41:=Tryz.sizeOf417
 v41:=Tryz.zeroValue417
 t44:=Tryz.underlying298
 a44:=Tryz.isAgg298
 z44:=Tryz.sizeOf298
 v44:=Tryz.zeroValue298
 t46:=Tryz.underlying43
 a46:=Tryz.isAgg43
 z46:=Tryz.sizeOf43
 v46:=Tryz.zeroValue43
 t53:=Tryz.underlying552
 a53:=Tryz.isAgg552
 z53:=Tryz.sizeOf552
 v53:=Tryz.zeroValue552
 t57:=Tryz.underlying556
 a57:=Tryz.isAgg556
 z57:=Tryz.sizeOf556
 v57:=Tryz.zeroValue556
 t63:=Tryz.underlying564
 a63:=Tryz.isAgg564
 z63:=Tryz.sizeOf564
 v63:=Tryz.zeroValue564
 t64:=Tryz.underlying296
 a64:=Tryz.isAgg296
 z64:=Tryz.sizeOf296
 v64:=Tryz.zeroValue296}
end
end Go.Proofs.YtkegaaonpekkgaaGreat.Sx
