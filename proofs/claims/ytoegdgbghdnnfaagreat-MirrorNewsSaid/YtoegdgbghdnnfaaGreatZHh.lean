import Derived.Test.YtoegdgbghdnnfaaGreatZEq
import Derived.Test.YtoegdgbghdnnfaaGreatZFx
import Derived.Test.YtoegdgbghdnnfaaGreatZFb
import Derived.Test.YtoegdgbghdnnfaaGreatZOnes
import Derived.Test.YtoegdgbghdnnfaaGreatZKc
import Derived.Test.YtoegdgbghdnnfaaGreatZHp
import Derived.Test.YtoegdgbghdnnfaaGreatZBytes
import Derived.Laws.BytesArg
import Derived.Lib.Bytes
namespace Go.Proofs.YtoegdgbghdnnfaaGreat.Sx
open Go.RowKit
section
theorem zi2b{l:List UInt64}{j:Nat}(h:j<l.length):(l.map W)[j*1]?=some (W (l.getD j 0)):=by
 rw[Nat.mul_one,List.getElem?_map,List.getElem?_eq_getElem h,List.getD_eq_getElem?_getD,List.getElem?_eq_getElem h]
 rfl
def mL(a b w:UInt64):UInt64:=a*b+w+0
def mIn(a:UInt64)(y:S4)(w:List UInt64)(i:Nat):Nat->List UInt64×UInt64
 |0=>(w,0)
 |k+1=>
  let s:=mIn a y w i k
  let b:=y.l.getD k 0
  let v:=s.1.getD (i+k) 0
  (s.1.set (i+k) (mL a b v+s.2+0),(mulH a b+carW (a*b) v 0)+carW (mL a b v) s.2 0)
theorem zyf(a:UInt64)(y:S4)(w:List UInt64)(i:Nat):mIn a y w i 0=(w,0):=rfl
theorem zqz(a:UInt64)(y:S4)(w:List UInt64)(i k:Nat):mIn a y w i (k+1)=((mIn a y w i k).1.set (i+k) (mL a (y.l.getD k 0) ((mIn a y w i k).1.getD (i+k) 0)+(mIn a y w i k).2+0),(mulH a (y.l.getD k 0)+carW (a*(y.l.getD k 0)) ((mIn a y w i k).1.getD (i+k) 0) 0)+carW (mL a (y.l.getD k 0) ((mIn a y w i k).1.getD (i+k) 0)) (mIn a y w i k).2 0):=rfl
theorem zt1(a:UInt64)(y:S4)(w:List UInt64)(i:Nat): ∀k,(mIn a y w i k).1.length=w.length
 |0=>rfl
 |k+1=>by rw[zqz,List.length_set,zt1 a y w i k]
attribute [irreducible] mIn
def mOut(x y:S4):Nat->List UInt64
 |0=>List.replicate 8 0
 |i+1=>(mIn (x.l.getD i 0) y (mOut x y i) i 4).1.set (i+4) (mIn (x.l.getD i 0) y (mOut x y i) i 4).2
theorem z75(x y:S4):mOut x y 0=List.replicate 8 0:=rfl
theorem zvl(x y:S4)(i:Nat):mOut x y (i+1)=(mIn (x.l.getD i 0) y (mOut x y i) i 4).1.set (i+4) (mIn (x.l.getD i 0) y (mOut x y i) i 4).2:=rfl
theorem zl9(x y:S4): ∀i,(mOut x y i).length=8
 |0=>by simp[mOut]
 |i+1=>by rw[zvl,List.length_set,zt1,zl9 x y i]
attribute [irreducible] mOut
def S4.mul(x y:S4):S4:=zpi (mOut x y 4)
def smO1(x y:S4)(i:Nat):St:={F:=[(3, .own 1),(4, .own 2),(5, .own 3),(16, .r (.ag x.v)),(17, .r (I i))],O:=[(1,some y.bx),(2,some (S4.bx ⟨0,0,0,0⟩)),(3,some (.ch 23 1 8 ((mOut x y i).map W) false))],nx:=4}
def smI1(x y:S4)(i k:Nat):St:={F:=[(3, .own 1),(4, .own 2),(5, .own 3),(16, .r (.ag x.v)),(17, .r (I i)),(6, .r (I i)),(7, .r (W (x.l.getD i 0))),(8, .r (W (mIn (x.l.getD i 0) y (mOut x y i) i k).2)),(22, .r (.ag y.v)),(23, .r (I k))],O:=[(1,some y.bx),(2,some (S4.bx ⟨0,0,0,0⟩)),(3,some (.ch 23 1 8 ((mIn (x.l.getD i 0) y (mOut x y i) i k).1.map W) false))],nx:=4}
theorem zs8:(List.replicate ((8:Int).toNat) ([Value.int .u64 0].map ofC)).flatten=(List.replicate 8 (0:UInt64)).map W:=by simp[ofC]
set_option maxHeartbeats 4000000 in
theorem zeab(x y:S4):bG 258 [.ag x.v, .ag y.v] (.r (.ag (x.mul y).v)):=by
 refine bT Tryz.func258 rfl ?_
 refine⟨rfl,by decide,by decide,by decide,_,_,rfl,zs8,Vpub.own ?_⟩
 refine za rfl rfl ?_
 refine Vloop.mk' (smO1 x y) (λi=>i<=4) (λi=>4-i) 0 (by omega) (zac [(1,1),(2,2),(3,3)] rfl ⟨rfl,rfl,rfl,cr,cr,trivial⟩ ⟨(bC bZ),(bC bZ),⟨rfl,rfl,rfl,rfl,by rw[z75];exact zn _⟩,trivial⟩) ?_
 intro i hi
 refine zh (λh=>zq ?_) (λh=>zt ?_)
 ·simp only[zb]at h
  have hi':i<4:=by omega
  refine zm (by omega) (by omega) (z4c (l:=x.l) rfl (by show i<4;omega)) ?_
  refine za rfl rfl ?_
  refine Vloop.mk' (smI1 x y i) (λk=>k<=4) (λk=>4-k) 0 (by omega) (zac [(1,1),(2,2),(3,3)] rfl ⟨rfl,rfl,rfl,cr,cr,cr,cr,by rw[zyf];exact cr,cr,cr,trivial⟩ ⟨(bC bZ),(bC bZ),⟨rfl,rfl,rfl,rfl,by rw[zyf];exact zn _⟩,trivial⟩) ?_
  intro k hk
  have hL:(mIn (x.l.getD i 0) y (mOut x y i) i k).1.length=8:=by rw[zt1,zl9]
  refine zh (λh=>zq ?_) (λh=>zt ?_)
  ·simp only[zb]at h
   have hk':k<4:=by omega
   refine zm (by omega) (by omega) (z4c (l:=y.l) rfl (by show k<4;omega)) ?_
   refine ze (ztw (x.l.getD i 0) (y.l.getD k 0)) ?_
   refine zd (m:=((i+k:Nat):Int)) (by omega) (by omega) ?_
   refine Vadr.mk' (i+k) rfl (by omega) ?_
   refine zg (zi2b (by rw[hL];omega)) ?_
   refine Vcall.ext (zgw (x.l.getD i 0*y.l.getD k 0) _ 0 (by decide)) ?_
   refine Vint.wadd _ _ rfl rfl ?_
   refine Vcall.ext (zgw (mL (x.l.getD i 0) (y.l.getD k 0) ((mIn (x.l.getD i 0) y (mOut x y i) i k).1.getD (i+k) 0)) (mIn (x.l.getD i 0) y (mOut x y i) i k).2 0 (by decide)) ?_
   refine zd (m:=((i+k:Nat):Int)) (by omega) (by omega) ?_
   refine Vint.wadd _ _ rfl rfl ?_
   refine Vadr.mk' (i+k) rfl (by omega) ?_
   refine⟨by rw[List.length_map,hL];show(i+k)*1+1<=8;omega,(mIn (x.l.getD i 0) y (mOut x y i) i (k+1)).1.map W,?_,?_⟩
   ·rw[zqz,Nat.mul_one]
    exact zd9 (by rw[hL];omega)
   refine zd (m:=((k+1:Nat):Int)) (by omega) (by omega) ?_
   exact⟨k+1,by omega,by omega,zac [(1,1),(2,2),(3,3)] rfl ⟨rfl,rfl,rfl,cr,cr,cr,cr,by rw[zqz];exact cr,cr,cr,trivial⟩ ⟨(bC bZ),(bC bZ),⟨rfl,rfl,rfl,rfl,zn _⟩,trivial⟩⟩
  ·simp only[zb]at h
   obtain rfl:k=4:=by omega
   refine zd (m:=((i+4:Nat):Int)) (by omega) (by omega) ?_
   refine Vadr.mk' (i+4) rfl (by omega) ?_
   refine⟨by rw[List.length_map,hL];show(i+4)*1+1<=8;omega,(mOut x y (i+1)).map W,?_,?_⟩
   ·rw[zvl,Nat.mul_one]
    exact zd9 (by rw[hL];omega)
   refine zd (m:=((i+1:Nat):Int)) (by omega) (by omega) ?_
   exact⟨i+1,by omega,by omega,zac [(1,1),(2,2),(3,3)] rfl ⟨rfl,rfl,rfl,cr,cr,trivial⟩ ⟨(bC bZ),(bC bZ),⟨rfl,rfl,rfl,rfl,zn _⟩,trivial⟩⟩
 ·simp only[zb]at h
  obtain rfl:i=4:=by omega
  have hrd:=zxw (mOut x y 4) (by rw[zl9];omega)
  rw[<-z9f _ _ (zl9 x y 4)]at hrd
  refine Vstep.sub (zbr (id:=3) rfl) (Vstep.val Tab_ok (ze hrd ?_))
  refine za rfl rfl ?_
  exact cr
end
section
variable {P:Program} {T:TT} {S:St}
theorem z49{id t n:Nat}(vs:List RV)(hf:fget S.F t=some (.cut id 0 n))(ho:oget S.O id=some (.box (vs.map .r)))(hn:vs.length=n):Sub S ⟨(t, .r (.sl 1 n vs))::S.F,(id,none)::S.O,S.nx⟩:=by
 rintro B N a w k ⟨g,hs⟩
 obtain⟨b,k',hg,hle,hb,hc,h⟩:=hs.pub ho
 have hv:=(hs.facts t _ hf).2
 simp only[TF.at_]at hv
 obtain⟨b',c,e,hv,h1,h2⟩:=hv
 rw[hg]at e
 cases e
 refine⟨k',g,h.size,h.defers,h.keep,h.kk,λt' f hf'=>?_,h.owns,h.apart⟩
 rcases zbd hf' with⟨rfl,rfl⟩ |⟨_,hf'⟩
 ·refine⟨trivial,?_⟩
  simp only[TF.at_,RV.at_]
  exact⟨_,c,hv,h1,h2,by rw[Nat.mul_one];exact hn,λ_=>⟨b,0,rfl,hb,hc⟩⟩
 ·exact h.facts t' f hf'
theorem Vcode.sub(hm:P.follows .mixedOrders=true)(hT:TOk P T){c:Code}{S':St}{Q:Exit->St->Prop}(hs:Sub S S')(h:Sx.vcg P T c S' Q):Vcode P c S Q:=
 ⟨λB N a w k Q' h0 hd hQ=>by
  obtain⟨k',h1⟩:=hs B N a w k h0
  exact za3 hm hT c S' Q h B N a w k' Q' h1 hd hQ⟩
theorem Vstep.actsNew{o:Oper}{l:List RV}{f:FuncId}{args:List TF}{n:Nat}{K:St->Prop}(hA:Acts P f 0 [] args [] 1 [(0, .box (l.map .r))] (.cut 0 0 n))(hcall:Handed P S o [] f args)
  (hK:newK ⟨S.F,(S.nx,some (.box (l.map .r)))::S.O,S.nx+1⟩ o.dst (.cut S.nx 0 n) none K):Vstep P S o K:=by
 refine zj [] [] (λ_ _=>hA) hcall rfl trivial trivial ?_
 rw[zm3]
 rw[za4]at hK
 have e:(l.map TF.r).map (zfj (ren [] [] S.nx))=l.map TF.r:=by
  rw[List.map_map]
  exact List.map_congr_left λx _=>rfl
 have e2:zm4 [] [] S 1 [(0, .box (l.map .r))] (.cut 0 0 n) o.dst=St.new ⟨S.F,(S.nx,some (.box (l.map .r)))::S.O,S.nx+1⟩ o.dst (.cut S.nx 0 n) none:=by
  show St.put ⟨S.F,(S.nx,some (.box ((l.map TF.r).map (zfj (ren [] [] S.nx)))))::S.O,S.nx+1⟩ o.dst (.cut S.nx 0 n)=_
  rw[e]
  rfl
 rw[e2]
 exact hK
end
set_option maxRecDepth 100000 in
theorem zd0b(ls:List (List UInt8))(hl:(ls.flatMap id).length<=10000000000):Acts bP 256 0 [] [.r (bss ls)] [] 1 [(0,boxB (zem ls))] (.cut 0 0 64):=by
 refine zaz (T:=Tab) mixed Tab_ok Tryz.func256 rfl (by kernel_rfl) rfl trivial ?_
 refine ze (zhl ls (by omega)) ?_
 refine ze (z1r (ls.flatMap id) hl) ?_
 (conv=>whnf)
 generalize hq:(zbi _&&_)=q
 obtain rfl:=hq.symm.trans (ziw (l:=(zem ls).map U8) 64 (by rw[List.length_map,zc5]) rfl)
 clear hq
 refine zfi (by rw[List.length_map,List.length_map];show(List.replicate 64 (Value.int .u8 0)).length=_;rw[List.length_replicate];exact(zc5 ls).symm) ?_
 refine Vstep.val Tab_ok (Vcutn.mk' 0 64 rfl rfl (by decide) (by decide) ?_)
 exact zaw (.inl rfl) [(0,1)] [(2, .cut 0 0 64)] [] (by have h:=ze3 ((zem ls).map U8) 1;simp only[stOk,lift,boxB,List.map_cons,List.map_nil,List.append_nil,List.all_cons,List.all_nil,zeo,h];rfl) ⟨⟨rfl,rfl,rfl⟩,trivial⟩ ⟨zae _,trivial⟩ trivial rfl
theorem z6p{l:List UInt8}{j:Nat}(h:j<l.length):lget ((l.map U8).map TF.r) (0+j*1)=some (TF.r (U8 (l.getD j 0))):=by
 rw[zba,Nat.zero_add,Nat.mul_one]
 exact z1e h
theorem zw8{x:UInt8}{l:List UInt8}{j:Nat}(h:j<l.length):(zbi (U8 x)&&(Nat.beq (cellsOf (U8 x)).length 1&&Nat.ble (0+j*1+1) ((l.map U8).map TF.r).length))=true:=by
 rw[Nat.zero_add]
 exact z00 h
theorem zvt{l:List UInt8}{j:Nat}{x:UInt8}{K:List TF->Prop}(h:j<l.length)(hK:K (((l.set j x).map U8).map TF.r)):putK ((l.map U8).map TF.r) (0+j*1) [TF.r (U8 x)] K:=by
 rw[Nat.zero_add]
 exact zy7 h hK
theorem zcdb(l:List UInt8)(n:Nat)(h:l.length=n):RV.sl 1 n (l.map U8)=bs l:=by rw[<-h];rfl
def zh6(h:List UInt8):List UInt8:=h.set 0 (h.getD 0 0&&& ~~~7)
def zf6(h:List UInt8):List UInt8:=(zh6 h).set 31 (((zh6 h).getD 31 0&&&63)|||64)
theorem z7q(h:List UInt8):(zh6 h).length=h.length:=by simp[zh6]
theorem zva(h:List UInt8):(zf6 h).length=h.length:=by simp[zf6,zh6]
def secS(seed:List UInt8):S4:=scOf ((zf6 (zem [seed])).take 32)
def secB(seed:List UInt8):List UInt8:=(zf6 (zem [seed])).drop 32
set_option maxHeartbeats 1000000 in
theorem zxq(seed:List UInt8)(hs:seed.length<=1000000000):bG 249 [bs seed] (.r (.tu [.ag (secS seed).v,bs (secB seed)])):=by
 refine bT Tryz.func249 rfl ?_
 refine Vpub.own ?_
 refine Vstep.sub (zbr (id:=1) rfl) (Vstep.actsNew (zd0b [seed] (by simp;omega)) (zi rfl ⟨_,_,rfl,cr,rfl⟩) ?_)
 have hh:secS seed=scOf ((zf6 (zem [seed])).take 32):=rfl
 have hb:secB seed=(zf6 (zem [seed])).drop 32:=rfl
 have hl:=zc5 [seed]
 rw[hh,hb]
 generalize zem [seed]=h at*
 have hl0:(zh6 h).length=64:=by rw[z7q,hl]
 have hlB:(zf6 h).length=64:=by rw[zva,hl]
 refine Vadr.mk' 0 rfl (by decide) ?_
 (conv=>whnf)
 generalize hq:lget _ _=q
 obtain rfl:=hq.symm.trans (z6p (l:=h) (j:=0) (by omega))
 clear hq
 refine Vbits.andn8 _ 7 rfl rfl ?_
 refine Vadr.mk' 0 rfl (by decide) ?_
 (conv=>whnf)
 generalize hq:(zbi _&&_)=q
 obtain rfl:=hq.symm.trans (zw8 (x:=h.getD 0 0&&& ~~~7) (l:=h) (j:=0) (by omega))
 clear hq
 refine zvt (l:=h) (j:=0) (by omega) ?_
 refine Vadr.mk' 31 rfl (by decide) ?_
 (conv=>whnf)
 generalize hq:lget _ _=q
 obtain rfl:=hq.symm.trans (z6p (l:=zh6 h) (j:=31) (by omega))
 clear hq
 refine Vbits.and8 _ 63 rfl rfl ?_
 refine Vbits.or8 _ 64 rfl rfl ?_
 refine Vadr.mk' 31 rfl (by decide) ?_
 (conv=>whnf)
 generalize hq:(zbi _&&_)=q
 obtain rfl:=hq.symm.trans (zw8 (x:=((zh6 h).getD 31 0&&&63)|||64) (l:=zh6 h) (j:=31) (by omega))
 clear hq
 refine zvt (l:=zh6 h) (j:=31) (by omega) ?_
 refine Vdraw.code (Vcode.sub mixed Tab_ok (z49 (t:=4) (n:=64) ((zf6 h).map U8) rfl rfl (by rw[List.length_map,hlB])) ?_)
 refine bV ?_
 have ht:((zf6 h).take 32).length=32:=by rw[List.length_take,hlB];rfl
 have hd:((zf6 h).drop 32).length=32:=by rw[List.length_drop,hlB]
 have hsc:=zxz ((zf6 h).take 32) (by omega)
 rw[<-zcdb _ _ ht]at hsc
 rw[<-zcdb _ _ hd]
 refine⟨by decide,by decide,by decide,32,((zf6 h).take 32).map U8,rfl,by rw[List.map_take];rfl,?_⟩
 refine ze hsc ?_
 refine⟨by decide,by decide,by decide,32,((zf6 h).drop 32).map U8,rfl,by rw[List.map_drop];exact List.take_of_length_le (by rw[List.length_drop,List.length_map,hlB];decide),?_⟩
 refine za rfl rfl ?_
 exact⟨_,rfl,cr⟩
theorem z7m(seed:List UInt8)(hs:seed.length=32):bG 192 [bs seed] (.r (.ag (secS seed).v)):=by
 refine bT Tryz.func192 rfl ?_
 refine zh (λh=>?_) (λh=>zt ?_)
 ·simp only[zb]at h
  exact absurd hs (by omega)
 refine ze (zxq seed (by omega)) ?_
 refine za rfl rfl ?_
 refine za rfl rfl ?_
 exact cr
def pubS(seed:List UInt8):List UInt8:=(mulP baseP (secS seed) 253).bytes
theorem zy4(seed:List UInt8):(pubS seed).length=32:=Pt.bytes_len _
theorem zu7(seed:List UInt8)(hs:seed.length=32):bG 135 [bs seed] (.r (.tu [bs (pubS seed), .i .u8 0])):=by
 refine bT Tryz.func135 rfl ?_
 refine zh (λh=>?_) (λh=>zt ?_)
 ·simp only[zb]at h
  exact absurd hs (by omega)
 refine ze z1n ?_
 refine ze (z7m seed hs) ?_
 refine ze (z7b baseP (secS seed)) ?_
 refine ze (zxv (mulP baseP (secS seed) 253)) ?_
 exact⟨_,rfl,cr⟩
def sigR(seed text:List UInt8):S4:=scOf (zem [secB seed,text])
def sigP(seed text:List UInt8):List UInt8:=(mulP baseP (sigR seed text) 253).bytes
def sigK(seed text:List UInt8):S4:=scOf (zem [sigP seed text,pubS seed,text])
def sigB(seed text:List UInt8):List UInt8:=sigP seed text++((sigR seed text).sum ((sigK seed text).mul (secS seed))).once.bytes
theorem zzm(seed text:List UInt8):(sigP seed text).length=32:=Pt.bytes_len _
theorem zbxb(seed text:List UInt8):(sigB seed text).length=64:=by rw[sigB,bL,zzm,S4.bytes_len]
theorem zbwb(seed:List UInt8):(secB seed).length=32:=by rw[secB,List.length_drop,zva,zc5]
theorem z29(a b:List UInt8):[a,b].flatMap id=a++b:=by simp
theorem ziyb(a b c:List UInt8):[a,b,c].flatMap id=a++b++c:=by simp
set_option maxHeartbeats 1000000 in
theorem z7i(seed text P B L1 Q L2 R1:List UInt8)(s r k m z:S4)(M:Pt)(hs:seed.length=32)(ht:text.length<=1000000000)(hP:P.length=32)(hB:B.length=32)(hQ:Q.length=32)(hR:R1.length=32)(hL1:L1.length=64)(hL2:L2.length=64)
  (c1:bG 135 [bs seed] (.r (.tu [bs P, .i .u8 0])))
  (c2:bG 249 [bs seed] (.r (.tu [.ag s.v,bs B])))
  (c3:bG 256 [bss [B,text]] (.r (bs L1)))
  (c4:bG 255 [bs L1] (.r (.ag r.v)))
  (c6: ∀b:Pt,b=baseP->bG 191 [.ag b.v, .ag r.v] (.r (.ag M.v)))
  (c7:bG 193 [.ag M.v] (bch Q))
  (c8:bG 256 [bss [Q,P,text]] (.r (bs L2)))
  (c9:bG 255 [bs L2] (.r (.ag k.v)))
  (c10:bG 258 [.ag k.v, .ag s.v] (.r (.ag m.v)))
  (c11:bG 257 [.ag r.v, .ag m.v] (.r (.ag z.v)))
  (c12:bG 259 [.ag z.v] (bch R1)):
  bG 199 [bs seed,bs text] (.r (.tu [bs (Q++R1), .i .u8 0])):=by
 refine bT Tryz.func199 rfl ?_
 refine ze c1 ?_
 refine zw rfl (zt ?_)
 refine ze c2 ?_
 refine zy ?_
 refine ze c3 ?_
 refine ze c4 ?_
 refine bV ?_
 obtain⟨b,hb⟩: ∃b,b=baseP:=⟨_,rfl⟩
 have c5:=z1n
 rw[<-hb]at c5
 refine ze c5 ?_
 refine za rfl rfl ?_
 refine ze (c6 b hb) ?_
 refine ze c7 ?_
 refine zy ?_
 refine ze c8 ?_
 refine ze c9 ?_
 refine bV ?_
 refine za rfl rfl ?_
 refine za rfl rfl ?_
 refine za rfl rfl ?_
 refine ze c10 ?_
 refine ze c11 ?_
 refine ze c12 ?_
 refine zy ?_
 refine ze (zhl [Q,R1] (by rw[z29,bL];omega)) ?_
 exact⟨_,rfl,zf (by rw[z29];rfl)⟩
theorem zhcb(seed text:List UInt8)(hs:seed.length=32)(ht:text.length<=1000000000):bG 199 [bs seed,bs text] (.r (.tu [bs (sigB seed text), .i .u8 0])):=by
 have h1:=zbwb seed
 have h2:=zzm seed text
 have h3:=zy4 seed
 exact z7i seed text (pubS seed) (secB seed) (zem [secB seed,text]) (sigP seed text) (zem [sigP seed text,pubS seed,text]) _ (secS seed) (sigR seed text) (sigK seed text) ((sigK seed text).mul (secS seed)) _ (mulP baseP (sigR seed text) 253) hs ht h3 h1 h2 (S4.bytes_len _) (zc5 _) (zc5 _)
  (zu7 seed hs) (zxq seed (by omega)) (z6w [secB seed,text] (by rw[z29,bL];omega)) (zxz _ (by rw[zc5];omega)) (λb hb=>by rw[hb];exact z7b baseP (sigR seed text)) (zxv _)
  (z6w [sigP seed text,pubS seed,text] (by rw[ziyb,bL,bL];omega)) (zxz _ (by rw[zc5];omega)) (zeab _ _) (zd8b _ _) (z7h _)
theorem zwh(seed:List UInt8)(hs:seed.length≠32):bG 135 [bs seed] (.r (.tu [bs [], .i .u8 1])):=by
 refine bT Tryz.func135 rfl ?_
 refine zu (by simp only[zb];omega) (zq ?_)
 exact⟨_,rfl,Cv.tu (zk (Cv.nil 1) (zn _))⟩
theorem z31(seed text:List UInt8)(hs:seed.length≠32):bG 199 [bs seed,bs text] (.r (.tu [bs [], .i .u8 1])):=by
 refine bT Tryz.func199 rfl ?_
 refine ze (zwh seed hs) ?_
 refine zu rfl (zq ?_)
 exact⟨_,rfl,Cv.tu (zk (Cv.nil 1) (zn _))⟩
def exp1(s info:List UInt8)(n:Nat):List UInt8:=(macB s (info++[1])).take n
theorem zqm(s info:List UInt8){n:Nat}(hn:n<=32):(exp1 s info n).length=n:=by
 unfold exp1
 rw[List.length_take,zfg]
 omega
def mlsB:List UInt8:=[77,76,83,32,49,46,48,32]
def labB(s label ctx:List UInt8)(n:Nat):List UInt8:=exp1 s (beB 2 n++vecB (mlsB++label)++vecB ctx) n
theorem Cv.sl{sz n:Nat}{cs ds:List RV}(h:Cvs cs ds):Cv (.sl sz n cs) (.sl sz n ds):=λw k v hv=>by
 simp only[RV.at_]at hv⊢
 obtain⟨a,c,e,h1,h2,h3,h4⟩:=hv
 exact⟨a,c,e,h1,h2,by rw[h.length];exact h3,λhn=>by obtain⟨b,o,ea,hb,hc⟩:=h4 hn;exact⟨b,o,ea,hb,h.cells hc⟩⟩
theorem zuy(s info:List UInt8)(n:Nat)(hn:1<=n/\n<=32)(hs:s.length<=1000000000)(hi:info.length<=1000000000):bG 205 [bs s,bs info,I n] (.r (.tu [bs (exp1 s info n),Er 0])):=by
 refine bT Tryz.func205 rfl ?_
 have hm:=zfg s (info++[1])
 refine Vcode.scope mixed Tab_ok 0 (λ_:Unit=>{F:=[(0, .r (bs s)),(1, .r (bs info)),(2, .r (I n)),(8, .own 0)],O:=[(0,some (.ch 5 1 32 ((macB s (info++[1])).map U8) true))],nx:=1}) (λ_=>True) (λ_=>0) rfl ?_ ?_
 ·refine zw (decide_eq_false (by omega)) ?_
  refine zw (decide_eq_false (by omega)) (zt ?_)
  refine zu (decide_eq_true (by omega)) (zq ?_)
  refine Vint.u8 1 rfl ?_
  refine zy ?_
  refine zy ?_
  refine Vcall.mk' (z3n s [[],info,[1]] hs (by simp;omega)) (zk (cr) (zk (Cv.sl (zk (Cv.nil _) (zn _))) Cvs.nil)) ?_
  refine Vapp.mk' (j:=32) (zs:=(macB s (info++[1])).map U8) (by simp[maxLen,zfg]) (by simp[zfg]) (by simp[zfg]) (by simp) ?_
  exact⟨(),trivial,zac [(0,3)] rfl ⟨cr,cr,cr,rfl,trivial⟩ ⟨⟨rfl,rfl,rfl,rfl,zn _⟩,trivial⟩⟩
 ·intro _ _
  refine zw (decide_eq_false (by omega)) (zt ?_)
  refine⟨by omega,by omega,by omega,n,(exp1 s info n).map U8,by omega,?_,?_⟩
  ·unfold exp1;rw[List.map_take];simp
  ·refine⟨_,rfl,zf ?_⟩
   simp only[bs,zqm s info hn.2]
   rfl
theorem zyn(s:ByteArray):((⟨#[77,76,83,32,49,46,48,32]⟩:ByteArray)++s).data.toList=mlsB++s.data.toList:=by simp[mlsB]
theorem z0z(s t:ByteArray):(s++t).size=s.size+t.size:=by simp
theorem zxk(s:List UInt8)(label:ByteArray)(ctx:List UInt8)(n:Nat)(hn:1<=n/\n<=32)(hs:s.length<=1000000000)(hl:label.size<=1048576)(hc:ctx.length<=1048576):
  bG 141 [bs s,Str label,bs ctx,I n] (.r (.tu [bs (labB s (sB label) ctx n),Er 0])):=by
 refine bT Tryz.func141 rfl ?_
 refine zw (decide_eq_false (by omega)) ?_
 refine zw (decide_eq_false (by omega)) (zt ?_)
 refine zw (decide_eq_false (by omega)) ?_
 refine zw (decide_eq_false (by omega)) (zt ?_)
 refine Vint.u64 n rfl (by omega) ?_
 refine Vcall.mk' (zeu [] 2 n (by simp) (.inr (.inl rfl))) (zk (Cv.nil _) (zn _)) ?_
 have hd:=zyn label
 have hsz:label.data.toList.length=label.size:=rfl
 have hml:mlsB.length=8:=rfl
 refine⟨by show 8+label.size<=_;omega,?_⟩
 refine⟨by rw[z0z];show 8+label.size<=_;omega,?_⟩
 have hb:(beB 2 n).length=2:=zao 2 n
 refine ze (zbv ([]++beB 2 n) ((⟨#[77,76,83,32,49,46,48,32]⟩:ByteArray)++label).data.toList (by simp[hb]) (by rw[hd,bL];omega)) ?_
 rw[hd]
 have hv:=zal (mlsB++label.data.toList)
 have hv2:=zal ctx
 rw[bL]at hv
 refine ze (zbv ([]++beB 2 n++vecB (mlsB++label.data.toList)) ctx (by simp only[bL,List.length_nil,hb];omega) (by omega)) ?_
 refine ze (zuy s ([]++beB 2 n++vecB (mlsB++label.data.toList)++vecB ctx) n hn hs (by simp only[bL,List.length_nil,hb];omega)) ?_
 exact⟨_,rfl,cr⟩
theorem zho(s:List UInt8)(label:ByteArray)(hs:s.length<=1000000000)(hl:label.size<=1048576):bG 81 [bs s,Str label] (.r (bs (labB s (sB label) [] 32))):=by
 refine bT Tryz.func81 rfl ?_
 refine Vcall.mk' (zxk s label [] 32 (by omega) hs hl (by simp)) (zk (cr) (zk (cr) (zk (Cv.nil _) (zn _)))) ?_
 exact cr
def zpp(label text:List UInt8):List UInt8:=vecB (mlsB++label)++vecB text
theorem zr2(label:ByteArray)(text:List UInt8)(hl:label.size<=1048576)(ht:text.length<=1000000000):bG 200 [Str label,bs text] (bch (zpp (sB label) text)):=by
 refine bT Tryz.func200 rfl ?_
 have hd:=zyn label
 have hsz:label.data.toList.length=label.size:=rfl
 have hml:mlsB.length=8:=rfl
 refine⟨by show 8+label.size<=_;omega,?_⟩
 refine⟨by rw[z0z];show 8+label.size<=_;omega,?_⟩
 refine Vcall.mk' (zbv [] ((⟨#[77,76,83,32,49,46,48,32]⟩:ByteArray)++label).data.toList (by simp) (by rw[hd,bL];omega)) (zk (Cv.nil _) (zn _)) ?_
 rw[hd]
 have hv:=zal (mlsB++label.data.toList)
 rw[bL]at hv
 refine ze (zbv ([]++vecB (mlsB++label.data.toList)) text (by simp only[bL,List.length_nil];omega) (by omega)) ?_
 exact zez (by simp[zpp,sB])
def zwq(seed label text:List UInt8):List UInt8:=sigB seed (zpp label text)
theorem z1j(seed:List UInt8)(label:ByteArray)(text:List UInt8)(hs:seed.length=32)(hl:label.size<=1048576)(ht:text.length<=500000000):bG 138 [bs seed,Str label,bs text] (.r (.tu [bs (zwq seed (sB label) text),Er 0])):=by
 refine bT Tryz.func138 rfl ?_
 have hsz:(sB label).length=label.size:=rfl
 have hml:mlsB.length=8:=rfl
 have hv:=zal (mlsB++sB label)
 have hv2:=zal text
 rw[bL]at hv
 refine ze (zr2 label text hl (by omega)) ?_
 refine ze (zhcb seed (zpp (sB label) text) hs (by rw[zpp,bL];omega)) ?_
 exact⟨_,rfl,cr⟩
theorem z0c(seed:List UInt8)(label:ByteArray)(text:List UInt8)(hs:seed.length≠32)(hl:label.size<=1048576)(ht:text.length<=500000000):bG 138 [bs seed,Str label,bs text] (.r (.tu [bs [],Er 1])):=by
 refine bT Tryz.func138 rfl ?_
 have hsz:(sB label).length=label.size:=rfl
 have hml:mlsB.length=8:=rfl
 have hv:=zal (mlsB++sB label)
 have hv2:=zal text
 rw[bL]at hv
 refine ze (zr2 label text hl (by omega)) ?_
 refine ze (z31 seed (zpp (sB label) text) hs) ?_
 exact⟨_,rfl,cr⟩
def nums(l:List UInt8):List Int:=l.map λb=>(b.toNat:Int)
theorem ztk{S:Nat->Prop}(p:AC)(l:List UInt8)(w:World)(hp:By w S p l):(convert 22 9 (.slice p.a l.length p.c)).run bP w= .ok (.string (strOfNums (nums l))) w:=by
 rcases Nat.eq_zero_or_pos l.length with hn |hn
 ·have hl:l=[]:=List.eq_nil_of_length_eq_zero hn
  subst hl
  rw[run_convert_bytes_string w _ _ _ _ _ _ Tryz.underlying22 Tryz.underlying5 Tryz.underlying9]
  simp only[List.length_nil]
  cases p.a<;>simp[Conv.bytesToString,loadCells]
  all_goals rfl
 ·obtain⟨b,o,e,hc⟩:=hp.form hn
  rw[e]
  exact run_convert_bytes_arg w _ _ Tryz.underlying22 Tryz.underlying5 b o l.length p.c (nums l) (by simp[nums]) (λi hi=>by
   rw[hc i hi]
   simp[nums,hi]) _ Tryz.underlying9
theorem zeyb(l m:List UInt8):((strOfNums (nums l)).toList==(strOfNums (nums m)).toList)=decide (l=m):=by
 have h: ∀l:List UInt8,(strOfNums (nums l)).toList=l:=λl=>by
  rw[Lib.strOfNums_toList]
  simp[Lib.bytesOf,nums,Function.comp_def]
 rw[h,h]
 by_cases e:l=m
 ·subst e
  simp
 ·simp[e]
theorem z2s(p q:AC)(l m:List UInt8){S:Nat->Prop}(w:World)(hp:By w S p l)(hq:By w S q m):
  Calls bP 27 #[.slice p.a l.length p.c, .slice q.a m.length q.c] w λe w'=>e= .returned (.bool (decide (l=m)))/\w'=w:=by
 have g1:=ztk p l w hp
 have g2:=ztk q m w hq
 rw[<-zeyb]
 generalize strOfNums (nums l)=s1 at*
 generalize strOfNums (nums m)=s2 at*
 obtain⟨a,c⟩:=p
 obtain⟨a',c'⟩:=q
 go_enter Tryz.func27,Tryz.ntmps27
 go_wp2_with fail
 go_ret
 exact⟨rfl,rfl⟩
theorem zqr(l m:List UInt8):bG 27 [bs l,bs m] (.r (.b (decide (l=m)))):=
 z6q (zfe Tryz.func27 rfl (by kernel_rfl)) λw k vs hp=>by
  obtain⟨a,b,rfl,h1,h2⟩:=zn9 hp
  obtain⟨p,rfl,hp1⟩:=z2u h1
  obtain⟨q,rfl,hq1⟩:=z2u h2
  exact(z2s p q l m w hp1 hq1).mono λ_ _ ⟨e,hw⟩=>⟨_,e,hw▸Ext.refl _,k,λ_ _=>rfl,by simp[Res.at_,RV.at_]⟩
abbrev boxS:ByteArray:=⟨#[98,111,120]⟩
abbrev nl:RV:= .x (.slice none 0 0)
theorem zn0(seed label text:List UInt8):(zwq seed label text).length=64:=zbxb _ _
def u64N(n:Int):Nat:=(n%18446744073709551616).toNat
theorem z84(x:Int)(h:i64 x):IntKind.u64.wrap x=((u64N x:Nat):Int):=by
 unfold i64 at h
 unfold IntKind.wrap u64N
 simp only[IntKind.bits,IntKind.signed]
 simp
 omega
def zjd(l:Leaf)(group:List UInt8)(at_:Int):List UInt8:=if l.src.toNat=1 then zbz l else zbz l++vecB group++beB 4 (u64N at_)
def zhj(l:Leaf)(at_:Int):Bool:=decide (l.src.toNat=1)||(decide (0<=at_)&&decide (at_<65536))
theorem zj5(l:Leaf):(zbz l).length<=l.box.length+l.sign.length+l.ident.length+l.parent.length+17:=by
 have v1:=zal l.box
 have v2:=zal l.sign
 have v3:=zal l.ident
 have v4:=zal l.parent
 unfold zbz
 split<;>simp only[bL,List.length_cons,List.length_nil]<;>omega
theorem zb3b(l:Leaf)(group:List UInt8)(at_:Int):(zjd l group at_).length<=l.box.length+l.sign.length+l.ident.length+l.parent.length+group.length+25:=by
 have h:=zj5 l
 have v:=zal group
 have b:=zao 4 (u64N at_)
 unfold zjd
 split
 ·omega
 ·simp only[bL]
  omega
theorem zhfb(l:Leaf)(group:List UInt8)(at_:Int)(hl:l.fit)(hg:group.length<=1000000000)(ha:i64 at_):bG 194 [.ag l.c,bs group,I at_] (.r (.tu [bs (zjd l group at_), .b (zhj l at_)])):=by
 refine bT Tryz.func194 rfl ?_
 obtain⟨h1,h2,h3,h4,h5⟩:=hl
 have hA:=zj5 l
 have hv:=zal group
 refine za rfl rfl ?_
 refine Vcall.mk' (zlx [] l (by simp) ⟨h1,h2,h3,h4,h5⟩) (zk (Cv.nil _) (zn _)) ?_
 rw[List.nil_append]
 refine zh (λh=>zq ?_) (λh=>zt ?_)
 ·simp only[zb]at h
  have h':l.src.toNat=1:=by omega
  have e1:zjd l group at_=zbz l:=if_pos h'
  have e2:zhj l at_=true:=by simp[zhj,h']
  rw[e1,e2]
  exact⟨_,rfl,cr⟩
 ·simp only[zb]at h
  have h':l.src.toNat≠1:=by omega
  have e1:zjd l group at_=zbz l++vecB group++beB 4 (u64N at_):=if_neg h'
  have e2:zhj l at_=(decide (0<=at_)&&decide (at_<65536)):=by simp[zhj,h']
  refine ze (zbv (zbz l) group (by omega) (by omega)) ?_
  refine Vint.n ((u64N at_:Nat):Int) (z84 at_ ha).symm ?_
  refine ze (zeu (zbz l++vecB group) 4 (u64N at_) (by rw[bL];omega) (.inr (.inr (.inl rfl)))) ?_
  rw[e1,e2]
  refine zh (λh0=>?_) (λh0=>?_)
  ·simp only[zb]at h0
   have h0':0<=at_:=h0
   refine Vcmp.mk' (m:=decide (at_<65536)) rfl ?_
   exact⟨_,rfl,zf (by rw[decide_eq_true h0'];rfl)⟩
  ·simp only[zb]at h0
   have h0': ¬0<=at_:=h0
   exact⟨_,rfl,zf (by rw[decide_eq_false h0'];rfl)⟩
def zS64:List UInt8:=List.replicate 64 0
def zi6b:List UInt8:=[76,101,97,102,78,111,100,101,84,66,83]
def Leaf.with(l:Leaf)(s:List UInt8):Leaf:={l with sig:=s}
def zgn(l:Leaf)(seed:List UInt8)(at_:Int):Nat:=if(l.with zS64).right=true then if zhj l at_=true then if seed.length=32 then 0 else 1 else 1 else 3
def slOk(l:Leaf)(seed group:List UInt8)(at_:Int):Leaf:=l.with (zwq seed zi6b (zjd l group at_))
def zmr(l:Leaf)(seed group:List UInt8)(at_:Int):RV:=if zgn l seed at_=0 then .tu [.ag (slOk l seed group at_).c,Er 0]else .tu [.ag zl.c,Er (zgn l seed at_)]
theorem zuk:Cv (.ag [.x (.slice none 0 0), .x (.slice none 0 0), .x (.slice none 0 0), .i .u8 0, .x (.slice none 0 0), .x (.slice none 0 0)]) (.ag zl.c):=Cv.ag (zk (Cv.nil 1) (zk (Cv.nil 1) (zk (Cv.nil 1) (zk (cr) (zk (Cv.nil 1) (zk (Cv.nil 1) Cvs.nil))))))
theorem zj4:(List.replicate ((64:Int).toNat) ([Value.int .u8 0].map ofC)).flatten=zS64.map U8:=by simp[ofC,zS64]
abbrev lsS:ByteArray:=⟨#[76,101,97,102,78,111,100,101,84,66,83]⟩
section
variable (l:Leaf) (z seed group:List UInt8) (at_:Int) (hl:l.fit) (hz:zS64=z)
include hl hz
set_option maxRecDepth 100000 in
theorem z7j(hr:(l.with z).right=false):bG 136 [.ag l.c,bs seed,bs group,I at_] (.r (.tu [.ag zl.c,Er 3])):=by
 refine bT Tryz.func136 rfl ?_
 have hzl:64=z.length:=by rw[<-hz];decide
 refine za rfl rfl ?_
 refine ze (zdu l hl) ?_
 refine⟨rfl,by decide,by decide,by decide,z.length,z.map U8,hzl,by rw[zj4,hz],zy ?_⟩
 refine za rfl rfl ?_
 refine Vcall.bool (zjk (l.with z)) (λhr'=>absurd hr' (by rw[hr];simp)) (λ_=>zu rfl (zq ?_))
 refine za rfl rfl ?_
 exact⟨_,rfl,Cv.tu (zk zuk (zn _))⟩
variable (T:List UInt8) (β:Bool) (hr:(l.with z).right=true) (hT:bG 194 [.ag (l.with z).c,bs group,I at_] (.r (.tu [bs T, .b β])))
include hr hT
set_option maxRecDepth 100000 in
theorem zatb(hβ:β=false):bG 136 [.ag l.c,bs seed,bs group,I at_] (.r (.tu [.ag zl.c,Er 1])):=by
 subst hβ
 refine bT Tryz.func136 rfl ?_
 have hzl:64=z.length:=by rw[<-hz];decide
 refine za rfl rfl ?_
 refine ze (zdu l hl) ?_
 refine⟨rfl,by decide,by decide,by decide,z.length,z.map U8,hzl,by rw[zj4,hz],zy ?_⟩
 refine za rfl rfl ?_
 refine Vcall.bool (zjk (l.with z)) (λ_=>zw rfl (zt ?_)) (λhr'=>absurd hr' (by rw[hr];simp))
 refine za rfl rfl ?_
 refine ze hT ?_
 refine zu rfl (zq ?_)
 refine za rfl rfl ?_
 exact⟨_,rfl,Cv.tu (zk zuk (zn _))⟩
set_option maxRecDepth 100000 in
theorem zaub(q:List UInt8)(e:Nat)(hβ:β=true)(hq:bG 138 [bs seed,Str lsS,bs T] (.r (.tu [bs q,Er e])))(he:e=1):bG 136 [.ag l.c,bs seed,bs group,I at_] (.r (.tu [.ag zl.c,Er 1])):=by
 subst hβ;subst he
 refine bT Tryz.func136 rfl ?_
 have hzl:64=z.length:=by rw[<-hz];decide
 refine za rfl rfl ?_
 refine ze (zdu l hl) ?_
 refine⟨rfl,by decide,by decide,by decide,z.length,z.map U8,hzl,by rw[zj4,hz],zy ?_⟩
 refine za rfl rfl ?_
 refine Vcall.bool (zjk (l.with z)) (λ_=>zw rfl (zt ?_)) (λhr'=>absurd hr' (by rw[hr];simp))
 refine za rfl rfl ?_
 refine ze hT ?_
 refine zw rfl (zt ?_)
 refine ze hq ?_
 refine zu rfl (zq ?_)
 refine za rfl rfl ?_
 exact⟨_,rfl,Cv.tu (zk zuk (zn _))⟩
set_option maxRecDepth 100000 in
theorem zecb(q:List UInt8)(hβ:β=true)(hq:bG 138 [bs seed,Str lsS,bs T] (.r (.tu [bs q,Er 0]))):bG 136 [.ag l.c,bs seed,bs group,I at_] (.r (.tu [.ag (l.with q).c,Er 0])):=by
 subst hβ
 refine bT Tryz.func136 rfl ?_
 have hzl:64=z.length:=by rw[<-hz];decide
 refine za rfl rfl ?_
 refine ze (zdu l hl) ?_
 refine⟨rfl,by decide,by decide,by decide,z.length,z.map U8,hzl,by rw[zj4,hz],zy ?_⟩
 refine za rfl rfl ?_
 refine Vcall.bool (zjk (l.with z)) (λ_=>zw rfl (zt ?_)) (λhr'=>absurd hr' (by rw[hr];simp))
 refine za rfl rfl ?_
 refine ze hT ?_
 refine zw rfl (zt ?_)
 refine ze hq ?_
 refine zw rfl (zt ?_)
 refine za rfl rfl ?_
 refine za rfl rfl ?_
 exact⟨_,rfl,cr⟩
end
theorem z34(l:Leaf)(seed group:List UInt8)(at_:Int)(hl:l.fit)(hg:group.length<=100000000)(hb:l.box.length+l.sign.length+l.ident.length+l.parent.length<=100000000)(ha:i64 at_):
  bG 136 [.ag l.c,bs seed,bs group,I at_] (.r (zmr l seed group at_)):=by
 have hl':=hl
 obtain⟨h1,h2,h3,h4,h5⟩:=hl'
 have hf:(l.with zS64).fit:=⟨h1,h2,h3,h4,by show zS64.length<=_;decide⟩
 have ht:=zb3b l group at_
 have hT:bG 194 [.ag (l.with zS64).c,bs group,I at_] (.r (.tu [bs (zjd l group at_), .b (zhj l at_)])):=zhfb (l.with zS64) group at_ hf (by omega) ha
 have herr: ∀e:Nat,zgn l seed at_=e->e≠0->zmr l seed group at_= .tu [.ag zl.c,Er e]:=λe h h0=>by rw[zmr,h,if_neg h0]
 cases hr:(l.with zS64).right with
 |false=>
  rw[herr 3 (by unfold zgn;rw[if_neg (by rw[hr];simp)]) (by decide)]
  exact z7j l zS64 seed group at_ hl rfl hr
 |true=>
  cases ho:zhj l at_ with
  |false=>
   rw[herr 1 (by unfold zgn;rw[if_pos hr,if_neg (by rw[ho];simp)]) (by decide)]
   exact zatb l zS64 seed group at_ hl rfl _ _ hr hT ho
  |true=>
   by_cases hs:seed.length=32
   ·have hS:zmr l seed group at_= .tu [.ag (slOk l seed group at_).c,Er 0]:=by
     have:zgn l seed at_=0:=by unfold zgn;rw[if_pos hr,if_pos ho,if_pos hs]
     rw[zmr,if_pos this]
    rw[hS]
    exact zecb l zS64 seed group at_ hl rfl _ _ hr hT _ ho (z1j seed lsS (zjd l group at_) hs (by decide) (by omega))
   ·rw[herr 1 (by unfold zgn;rw[if_pos hr,if_pos ho,if_neg hs]) (by decide)]
    exact zaub l zS64 seed group at_ hl rfl _ _ hr hT _ _ ho (z0c seed lsS (zjd l group at_) hs (by decide) (by omega)) rfl
section
variable {P:Program} {S:St} {o:Oper}
theorem Vstep.callS0{t:Nat}{ts:Array TypeId}{f:FuncId}{rvs:List RV}{r:RV}{K:St->Prop}(hop:o.op= .call {callee:= .value (.tmp t),args:= #[],argTypes:=ts}) (hf:fget S.F t=some (.r (.s (funS f rvs)))) (hg:zab P f rvs (.r r)) (hK:newK S o.dst (.r r) none K):Vstep P S o K:=by
 rw[za4]at hK
 refine Vstep.one (λB N a w k Q ⟨g,hs⟩ hd=>?_) hK
 have hfv:=(hs.facts t _ hf).2
 simp only[TF.at_,RV.at_]at hfv
 obtain⟨cap,e,hp⟩:=hfv
 have:=zix (o:=o) (Q:=Q) (K:=λf ow=>f= .r r/\ow=none) hs hp (zn rvs) hg (by
  have e2:a.eval (.tmp t)= .func (.func f) #[] cap:=by
   have:a.eval (.tmp t)=a.tmps.getD t undef:=by simp[Act.eval]
   rw[this,e]
  simp[execOp,hop,resolve,e2,Deferred.ofValue,invoke]) ⟨rfl,rfl⟩
 refine Oper.wp_mono ?_ this
 rintro a' w' ⟨f',ow,u,k',⟨rfl,rfl⟩,rfl,hl⟩
 exact⟨k',hl.sat hs hd⟩
end
def zw0(β:Bool)(l:List UInt8):RV:=cond β (.tu [bs l,Er 0]) (.tu [bs [],Er 3])
theorem zhgb(β:Bool)(f:FuncId)(rvs:List RV)(l:List UInt8)(hg:β=true->bG f rvs (.r (bs l))):bG 195 [.b β, .s (funS f rvs)] (.r (zw0 β l)):=by
 refine bT Tryz.func195 rfl ?_
 cases β with
 |false=>
  refine zu rfl (zq ?_)
  exact⟨_,rfl,Cv.tu (zk (Cv.nil 1) (zn _))⟩
 |true=>
  refine zw rfl (zt ?_)
  refine Vstep.callS0 rfl rfl (hg rfl) ?_
  exact⟨_,rfl,cr⟩
theorem zl5(l:Leaf):(zl4 l).length<=l.box.length+l.sign.length+l.ident.length+l.parent.length+l.sig.length+21:=by
 have:=zj5 l
 have:=zal l.sig
 rw[zl4,bL]
 omega
theorem znt(l:Leaf)(hl:l.fit):bG 297 [.ag l.c] (.r (zw0 l.right (zl4 l))):=by
 refine bT Tryz.func297 rfl ?_
 have hA:=zj5 l
 obtain⟨h1,h2,h3,h4,h5⟩:=id hl
 refine za rfl rfl ?_
 have hg:=zjk l
 cases hr:l.right with
 |true=>
  rw[hr]at hg
  refine ze hg ?_
  refine zw rfl (zt ?_)
  refine bV ?_
  refine za rfl rfl ?_
  refine Vcall.mk' (zlx [] l (by simp) hl) (zk (Cv.nil _) (zn _)) ?_
  rw[List.nil_append]
  refine ze (zbv (zbz l) l.sig (by omega) (by omega)) ?_
  exact⟨_,rfl,cr⟩
 |false=>
  rw[hr]at hg
  refine ze hg ?_
  refine zu rfl (zq ?_)
  exact⟨_,rfl,Cv.tu (zk (Cv.nil 1) (zn _))⟩
theorem zxs(l:Leaf)(hl:l.fit)(hr:l.right=true):bG 254 [.ag l.c] (.r (bs (zl4 l))):=by
 refine bT Tryz.func254 rfl ?_
 have h:=znt l hl
 rw[hr]at h
 refine za rfl rfl ?_
 refine ze h ?_
 exact cr
theorem zxt(l:Leaf)(s:UInt8)(hl:l.fit):bG 251 [.ag l.c,U8 s] (.r (.b (l.right&&decide (l.src=s)))):=by
 refine bT Tryz.func251 rfl ?_
 have h:=znt l hl
 refine za rfl rfl ?_
 cases hr:l.right with
 |true=>
  rw[hr]at h
  refine ze h ?_
  refine zu rfl ?_
  refine Vcmp.mk' (m:=decide (l.src=s)) ?_ ?_
  ·rw[Bool.eq_iff_iff]
   simp only[zb,Int.natCast_inj,UInt8.toNat_inj]
  ·exact zf (by simp)
 |false=>
  rw[hr]at h
  refine ze h ?_
  refine zw rfl ?_
  exact cr
def PackP.right(p:PackP):Bool:=decide (p.init.length=32)&&((p.leaf.right&&decide (p.leaf.src=1))&&decide (p.sig.length=64))
def zhd(p:PackP):List UInt8:=(beB 2 1++beB 2 1)++vecB p.init++zl4 p.leaf
def PackP.fit(p:PackP):Prop:=p.init.length<=1000000/\p.leaf.fit/\p.sig.length<=1000000
theorem zd5b(p:PackP)(hp:p.fit):bG 196 [.ag p.c] (.r (.b p.right)):=by
 refine bT Tryz.func196 rfl ?_
 have h:=zxt p.leaf 1 hp.2.1
 refine zh (λh1=>?_) (λh1=>?_)
 ·simp only[zb]at h1
  refine za rfl rfl ?_
  have h1':p.init.length=32:=by omega
  cases hr:(p.leaf.right&&decide (p.leaf.src=1))with
  |true=>
   rw[hr]at h
   refine ze h ?_
   refine Vcmp.mk' (m:=decide (p.sig.length=64)) ?_ ?_
   ·rw[Bool.eq_iff_iff]
    simp only[zb]
    omega
   ·exact zf (by unfold PackP.right;rw[hr,decide_eq_true h1'];simp)
  |false=>
   rw[hr]at h
   refine ze h ?_
   exact zf (by unfold PackP.right;rw[hr];simp[ofC])
 ·simp only[zb]at h1
  have h1': ¬p.init.length=32:=by omega
  exact zf (by unfold PackP.right;rw[decide_eq_false h1'];rfl)
theorem zns(l:List UInt8)(size m:Nat)(hl:l.length<=1000000000)(hs:size=1\/size=2\/size=4\/size=8):bG 252 [bs l,I size, .i .u64 m] (bch (l++beB size m)):=by
 refine bT Tryz.func252 rfl ?_
 refine ze (zeu l size m (by omega) hs) ?_
 exact rfl
theorem zr6(l m:List UInt8)(hl:l.length<=1000000000)(hm:m.length<=1000000000):bG 253 [bs l,bs m] (bch (l++vecB m)):=by
 refine bT Tryz.func253 rfl ?_
 refine ze (zbv l m (by omega) (by omega)) ?_
 exact rfl
theorem z0f(p:PackP)(hp:p.fit)(hr:p.leaf.right=true):bG 198 [.ag p.c] (.r (bs (zhd p))):=by
 refine bT Tryz.func198 rfl ?_
 obtain⟨h1,h2,h3⟩:=hp
 have hv:=zal p.init
 have hL:=zl5 p.leaf
 obtain⟨k1,k2,k3,k4,k5⟩:=id h2
 refine Vcall.mk' (zns [] 2 1 (by simp) (.inr (.inl rfl))) (zk (Cv.nil _) (zn _)) ?_
 rw[List.nil_append]
 refine ze (zns (beB 2 1) 2 1 (by rw[zao];omega) (.inr (.inl rfl))) ?_
 refine bV ?_
 refine ze (zr6 (beB 2 1++beB 2 1) p.init (by rw[bL,zao];omega) (by omega)) ?_
 refine za rfl rfl ?_
 refine ze (zxs p.leaf h2 hr) ?_
 refine Vapp.mk' (j:=(zhd p).length) (zs:=(zhd p).map U8) (by simp only[maxLen,bL,zao];omega) (by simp only[bL,zao];show(_+_)*1<=_;omega) (by simp only[zhd,bL]) (by simp only[zhd,List.map_append]) ?_
 exact cr
theorem z0g(p:PackP)(hp:p.fit)(hr:p.leaf.right=true):bG 197 [.ptr p.c] (.r (bs (zhd p))):=by
 refine bT Tryz.func197 rfl ?_
 refine za rfl rfl ?_
 refine ze (z0f p hp hr) ?_
 exact cr
theorem PackP.right_leaf{p:PackP}(h:p.right=true):p.leaf.right=true:=by
 unfold PackP.right at h
 simp only[Bool.and_eq_true]at h
 exact h.2.1.1
theorem z3y(p:PackP)(hp:p.fit):bG 137 [.ag p.c] (.r (zw0 p.right (zhd p))):=by
 refine bT Tryz.func137 rfl ?_
 refine za rfl rfl ?_
 refine ze (zd5b p hp) ?_
 refine Vstep.sub (zd7 (id:=0) (t:=1) p.c rfl rfl) (Vstep.mkfunS rfl rfl ?_)
 refine ze (zhgb p.right _ _ (zhd p) λh=>z0g p hp (PackP.right_leaf h)) ?_
 unfold zw0
 cases p.right with
 |true=>exact⟨_,rfl,cr⟩
 |false=>exact⟨_,rfl,cr⟩
abbrev kpS:ByteArray:=⟨#[75,101,121,80,97,99,107,97,103,101,84,66,83]⟩
end Go.Proofs.YtoegdgbghdnnfaaGreat.Sx
