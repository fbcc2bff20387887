import Derived.Test.YtpcfoglfakeimaaGreatZEq
import Derived.Test.YtpcfoglfakeimaaGreatZFx
import Derived.Test.YtpcfoglfakeimaaGreatZGg
import Derived.Test.YtpcfoglfakeimaaGreatZKf
import Derived.Test.YtpcfoglfakeimaaGreatZNk
namespace Go.Proofs.YtpcfoglfakeimaaGreat.Sx
open Go.RowKit
section
theorem zfhb{l:List UInt64}{j:Nat}(h:j<l.length):(l.map W)[j*1]?=some (W (l.getD j 0)):=by
 rw[Nat.mul_one,List.getElem?_map,List.getElem?_eq_getElem h,List.getD_eq_getElem?_getD,List.getElem?_eq_getElem h]
 rfl
def mL(a b w:UInt64):UInt64:=a*b+w+0
def mIn(a:UInt64)(y:S4)(w:List UInt64)(i:Nat):Nat->List UInt64×UInt64
 |0=>(w,0)
 |k+1=>
  let s:=mIn a y w i k
  let b:=y.l.getD k 0
  let v:=s.1.getD (i+k) 0
  (s.1.set (i+k) (mL a b v+s.2+0),(mulH a b+carW (a*b) v 0)+carW (mL a b v) s.2 0)
theorem zwo(a:UInt64)(y:S4)(w:List UInt64)(i:Nat):mIn a y w i 0=(w,0):=rfl
theorem zpf(a:UInt64)(y:S4)(w:List UInt64)(i k:Nat):mIn a y w i (k+1)=((mIn a y w i k).1.set (i+k) (mL a (y.l.getD k 0) ((mIn a y w i k).1.getD (i+k) 0)+(mIn a y w i k).2+0),(mulH a (y.l.getD k 0)+carW (a*(y.l.getD k 0)) ((mIn a y w i k).1.getD (i+k) 0) 0)+carW (mL a (y.l.getD k 0) ((mIn a y w i k).1.getD (i+k) 0)) (mIn a y w i k).2 0):=rfl
theorem zsd(a:UInt64)(y:S4)(w:List UInt64)(i:Nat): ∀k,(mIn a y w i k).1.length=w.length
 |0=>rfl
 |k+1=>by rw[zpf,List.length_set,zsd a y w i k]
attribute [irreducible] mIn
def mOut(x y:S4):Nat->List UInt64
 |0=>List.replicate 8 0
 |i+1=>(mIn (x.l.getD i 0) y (mOut x y i) i 4).1.set (i+4) (mIn (x.l.getD i 0) y (mOut x y i) i 4).2
theorem z4y(x y:S4):mOut x y 0=List.replicate 8 0:=rfl
theorem ztn(x y:S4)(i:Nat):mOut x y (i+1)=(mIn (x.l.getD i 0) y (mOut x y i) i 4).1.set (i+4) (mIn (x.l.getD i 0) y (mOut x y i) i 4).2:=rfl
theorem zle(x y:S4): ∀i,(mOut x y i).length=8
 |0=>by simp[mOut]
 |i+1=>by rw[ztn,List.length_set,zsd,zle x y i]
attribute [irreducible] mOut
def S4.mul(x y:S4):S4:=zn9 (mOut x y 4)
def smO1(x y:S4)(i:Nat):St:={F:=[(3, .own 1),(4, .own 2),(5, .own 3),(16, .r (.ag x.v)),(17, .r (I i))],O:=[(1,some y.bx),(2,some (S4.bx ⟨0,0,0,0⟩)),(3,some (.ch 170 1 8 ((mOut x y i).map W) false))],nx:=4}
def smI1(x y:S4)(i k:Nat):St:={F:=[(3, .own 1),(4, .own 2),(5, .own 3),(16, .r (.ag x.v)),(17, .r (I i)),(6, .r (I i)),(7, .r (W (x.l.getD i 0))),(8, .r (W (mIn (x.l.getD i 0) y (mOut x y i) i k).2)),(22, .r (.ag y.v)),(23, .r (I k))],O:=[(1,some y.bx),(2,some (S4.bx ⟨0,0,0,0⟩)),(3,some (.ch 170 1 8 ((mIn (x.l.getD i 0) y (mOut x y i) i k).1.map W) false))],nx:=4}
theorem zs8:(List.replicate ((8:Int).toNat) ([Value.int .u64 0].map ofC)).flatten=(List.replicate 8 (0:UInt64)).map W:=by simp[ofC]
set_option maxHeartbeats 4000000 in
theorem za4b(x y:S4):aG 273 [.ag x.v, .ag y.v] (.r (.ag (x.mul y).v)):=by
 refine aT Tryz.func273 rfl ?_
 refine⟨rfl,by decide,by decide,by decide,_,_,rfl,zs8,Vpub.own ?_⟩
 refine za rfl rfl ?_
 refine Vloop.mk' (smO1 x y) (λi=>i<=4) (λi=>4-i) 0 (by omega) (zac [(1,1),(2,2),(3,3)] rfl ⟨rfl,rfl,rfl,cr,cr,trivial⟩ ⟨(aC aZ),(aC aZ),⟨rfl,rfl,rfl,rfl,by rw[z4y];exact zn _⟩,trivial⟩) ?_
 intro i hi
 refine zh (λh=>zq ?_) (λh=>zt ?_)
 ·simp only[zb]at h
  have hi':i<4:=by omega
  refine zm (by omega) (by omega) (z1q (l:=x.l) rfl (by show i<4;omega)) ?_
  refine za rfl rfl ?_
  refine Vloop.mk' (smI1 x y i) (λk=>k<=4) (λk=>4-k) 0 (by omega) (zac [(1,1),(2,2),(3,3)] rfl ⟨rfl,rfl,rfl,cr,cr,cr,cr,by rw[zwo];exact cr,cr,cr,trivial⟩ ⟨(aC aZ),(aC aZ),⟨rfl,rfl,rfl,rfl,by rw[zwo];exact zn _⟩,trivial⟩) ?_
  intro k hk
  have hL:(mIn (x.l.getD i 0) y (mOut x y i) i k).1.length=8:=by rw[zsd,zle]
  refine zh (λh=>zq ?_) (λh=>zt ?_)
  ·simp only[zb]at h
   have hk':k<4:=by omega
   refine zm (by omega) (by omega) (z1q (l:=y.l) rfl (by show k<4;omega)) ?_
   refine ze (zr5 (x.l.getD i 0) (y.l.getD k 0)) ?_
   refine zd (m:=((i+k:Nat):Int)) (by omega) (by omega) ?_
   refine Vadr.mk' (i+k) rfl (by omega) ?_
   refine zg (zfhb (by rw[hL];omega)) ?_
   refine Vcall.ext (zfq (x.l.getD i 0*y.l.getD k 0) _ 0 (by decide)) ?_
   refine Vint.wadd _ _ rfl rfl ?_
   refine Vcall.ext (zfq (mL (x.l.getD i 0) (y.l.getD k 0) ((mIn (x.l.getD i 0) y (mOut x y i) i k).1.getD (i+k) 0)) (mIn (x.l.getD i 0) y (mOut x y i) i k).2 0 (by decide)) ?_
   refine zd (m:=((i+k:Nat):Int)) (by omega) (by omega) ?_
   refine Vint.wadd _ _ rfl rfl ?_
   refine Vadr.mk' (i+k) rfl (by omega) ?_
   refine⟨by rw[List.length_map,hL];show(i+k)*1+1<=8;omega,(mIn (x.l.getD i 0) y (mOut x y i) i (k+1)).1.map W,?_,?_⟩
   ·rw[zpf,Nat.mul_one]
    exact zb9 (by rw[hL];omega)
   refine zd (m:=((k+1:Nat):Int)) (by omega) (by omega) ?_
   exact⟨k+1,by omega,by omega,zac [(1,1),(2,2),(3,3)] rfl ⟨rfl,rfl,rfl,cr,cr,cr,cr,by rw[zpf];exact cr,cr,cr,trivial⟩ ⟨(aC aZ),(aC aZ),⟨rfl,rfl,rfl,rfl,zn _⟩,trivial⟩⟩
  ·simp only[zb]at h
   obtain rfl:k=4:=by omega
   refine zd (m:=((i+4:Nat):Int)) (by omega) (by omega) ?_
   refine Vadr.mk' (i+4) rfl (by omega) ?_
   refine⟨by rw[List.length_map,hL];show(i+4)*1+1<=8;omega,(mOut x y (i+1)).map W,?_,?_⟩
   ·rw[ztn,Nat.mul_one]
    exact zb9 (by rw[hL];omega)
   refine zd (m:=((i+1:Nat):Int)) (by omega) (by omega) ?_
   exact⟨i+1,by omega,by omega,zac [(1,1),(2,2),(3,3)] rfl ⟨rfl,rfl,rfl,cr,cr,trivial⟩ ⟨(aC aZ),(aC aZ),⟨rfl,rfl,rfl,rfl,zn _⟩,trivial⟩⟩
 ·simp only[zb]at h
  obtain rfl:i=4:=by omega
  have hrd:=zv3 (mOut x y 4) (by rw[zle];omega)
  rw[<-z57 _ _ (zle x y 4)]at hrd
  refine Vstep.sub (za7 (id:=3) rfl) (Vstep.val Tab_ok (ze hrd ?_))
  refine za rfl rfl ?_
  exact cr
end
section
variable {P:Program} {T:TT} {S:St}
theorem z2e{id t n:Nat}(vs:List RV)(hf:fget S.F t=some (.cut id 0 n))(ho:oget S.O id=some (.box (vs.map .r)))(hn:vs.length=n):Sub S ⟨(t, .r (.sl 1 n vs))::S.F,(id,none)::S.O,S.nx⟩:=by
 rintro B N a w k ⟨g,hs⟩
 obtain⟨b,k',hg,hle,hb,hc,h⟩:=hs.pub ho
 have hv:=(hs.facts t _ hf).2
 simp only[TF.at_]at hv
 obtain⟨b',c,e,hv,h1,h2⟩:=hv
 rw[hg]at e
 cases e
 refine⟨k',g,h.size,h.defers,h.keep,h.kk,λt' f hf'=>?_,h.owns,h.apart⟩
 rcases za5 hf' with⟨rfl,rfl⟩ |⟨_,hf'⟩
 ·refine⟨trivial,?_⟩
  simp only[TF.at_,RV.at_]
  exact⟨_,c,hv,h1,h2,by rw[Nat.mul_one];exact hn,λ_=>⟨b,0,rfl,hb,hc⟩⟩
 ·exact h.facts t' f hf'
theorem Vcode.sub(hm:P.follows .mixedOrders=true)(hT:TOk P T){c:Code}{S':St}{Q:Exit->St->Prop}(hs:Sub S S')(h:Sx.vcg P T c S' Q):Vcode P c S Q:=
 ⟨λB N a w k Q' h0 hd hQ=>by
  obtain⟨k',h1⟩:=hs B N a w k h0
  exact zav hm hT c S' Q h B N a w k' Q' h1 hd hQ⟩
theorem Vstep.actsNew{o:Oper}{l:List RV}{f:FuncId}{args:List TF}{n:Nat}{K:St->Prop}(hA:Acts P f 0 [] args [] 1 [(0, .box (l.map .r))] (.cut 0 0 n))(hcall:Handed P S o [] f args)
  (hK:newK ⟨S.F,(S.nx,some (.box (l.map .r)))::S.O,S.nx+1⟩ o.dst (.cut S.nx 0 n) none K):Vstep P S o K:=by
 refine zj [] [] (λ_ _=>hA) hcall rfl trivial trivial ?_
 rw[zl3]
 rw[zat]at hK
 have e:(l.map TF.r).map (zd8 (ren [] [] S.nx))=l.map TF.r:=by
  rw[List.map_map]
  exact List.map_congr_left λx _=>rfl
 have e2:zl4 [] [] S 1 [(0, .box (l.map .r))] (.cut 0 0 n) o.dst=St.new ⟨S.F,(S.nx,some (.box (l.map .r)))::S.O,S.nx+1⟩ o.dst (.cut S.nx 0 n) none:=by
  show St.put ⟨S.F,(S.nx,some (.box ((l.map TF.r).map (zd8 (ren [] [] S.nx)))))::S.O,S.nx+1⟩ o.dst (.cut S.nx 0 n)=_
  rw[e]
  rfl
 rw[e2]
 exact hK
end
set_option maxRecDepth 100000 in
theorem zayb(ls:List (List UInt8))(hl:(ls.flatMap id).length<=10000000000):Acts aP 179 0 [] [.r (bss ls)] [] 1 [(0,boxB (zci ls))] (.cut 0 0 64):=by
 refine zb6 (T:=Tab) mixed Tab_ok Tryz.func179 rfl (by kernel_rfl) rfl trivial ?_
 refine ze (zgl ls (by omega)) ?_
 refine ze (zzo (ls.flatMap id) hl) ?_
 (conv=>whnf)
 generalize hq:(za4 _&&_)=q
 obtain rfl:=hq.symm.trans (zht (l:=(zci ls).map U8) 64 (by rw[List.length_map,zb2]) rfl)
 clear hq
 refine zd7 (by rw[List.length_map,List.length_map];show(List.replicate 64 (Value.int .u8 0)).length=_;rw[List.length_replicate];exact(zb2 ls).symm) ?_
 refine Vstep.val Tab_ok (Vcutn.mk' 0 64 rfl rfl (by decide) (by decide) ?_)
 exact zfc (.inl rfl) [(0,1)] [(2, .cut 0 0 64)] [] (by have h:=zdw ((zci ls).map U8) 1;simp only[stOk,lift,boxB,List.map_cons,List.map_nil,List.append_nil,List.all_cons,List.all_nil,zdl,h];rfl) ⟨⟨rfl,rfl,rfl⟩,trivial⟩ ⟨zad _,trivial⟩ trivial rfl
theorem z3j{l:List UInt8}{j:Nat}(h:j<l.length):lget ((l.map U8).map TF.r) (0+j*1)=some (TF.r (U8 (l.getD j 0))):=by
 rw[zao,Nat.zero_add,Nat.mul_one]
 exact zzj h
theorem zu6{x:UInt8}{l:List UInt8}{j:Nat}(h:j<l.length):(za4 (U8 x)&&(Nat.beq (cellsOf (U8 x)).length 1&&Nat.ble (0+j*1+1) ((l.map U8).map TF.r).length))=true:=by
 rw[Nat.zero_add]
 exact zy8 h
theorem ztx{l:List UInt8}{j:Nat}{x:UInt8}{K:List TF->Prop}(h:j<l.length)(hK:K (((l.set j x).map U8).map TF.r)):putK ((l.map U8).map TF.r) (0+j*1) [TF.r (U8 x)] K:=by
 rw[Nat.zero_add]
 exact zxf h hK
theorem zi3(l:List UInt8)(n:Nat)(h:l.length=n):RV.sl 1 n (l.map U8)=bs l:=by rw[<-h];rfl
def zg6(h:List UInt8):List UInt8:=h.set 0 (h.getD 0 0&&& ~~~7)
def ze2(h:List UInt8):List UInt8:=(zg6 h).set 31 (((zg6 h).getD 31 0&&&63)|||64)
theorem z4g(h:List UInt8):(zg6 h).length=h.length:=by simp[zg6]
theorem ztg(h:List UInt8):(ze2 h).length=h.length:=by simp[ze2,zg6]
def secS(seed:List UInt8):S4:=scOf ((ze2 (zci [seed])).take 32)
def secB(seed:List UInt8):List UInt8:=(ze2 (zci [seed])).drop 32
set_option maxHeartbeats 1000000 in
theorem zvv(seed:List UInt8)(hs:seed.length<=1000000000):aG 206 [bs seed] (.r (.tu [.ag (secS seed).v,bs (secB seed)])):=by
 refine aT Tryz.func206 rfl ?_
 refine Vpub.own ?_
 refine Vstep.sub (za7 (id:=1) rfl) (Vstep.actsNew (zayb [seed] (by simp;omega)) (zi rfl ⟨_,_,rfl,cr,rfl⟩) ?_)
 have hh:secS seed=scOf ((ze2 (zci [seed])).take 32):=rfl
 have hb:secB seed=(ze2 (zci [seed])).drop 32:=rfl
 have hl:=zb2 [seed]
 rw[hh,hb]
 generalize zci [seed]=h at*
 have hl0:(zg6 h).length=64:=by rw[z4g,hl]
 have hlB:(ze2 h).length=64:=by rw[ztg,hl]
 refine Vadr.mk' 0 rfl (by decide) ?_
 (conv=>whnf)
 generalize hq:lget _ _=q
 obtain rfl:=hq.symm.trans (z3j (l:=h) (j:=0) (by omega))
 clear hq
 refine Vbits.andn8 _ 7 rfl rfl ?_
 refine Vadr.mk' 0 rfl (by decide) ?_
 (conv=>whnf)
 generalize hq:(za4 _&&_)=q
 obtain rfl:=hq.symm.trans (zu6 (x:=h.getD 0 0&&& ~~~7) (l:=h) (j:=0) (by omega))
 clear hq
 refine ztx (l:=h) (j:=0) (by omega) ?_
 refine Vadr.mk' 31 rfl (by decide) ?_
 (conv=>whnf)
 generalize hq:lget _ _=q
 obtain rfl:=hq.symm.trans (z3j (l:=zg6 h) (j:=31) (by omega))
 clear hq
 refine Vbits.and8 _ 63 rfl rfl ?_
 refine Vbits.or8 _ 64 rfl rfl ?_
 refine Vadr.mk' 31 rfl (by decide) ?_
 (conv=>whnf)
 generalize hq:(za4 _&&_)=q
 obtain rfl:=hq.symm.trans (zu6 (x:=((zg6 h).getD 31 0&&&63)|||64) (l:=zg6 h) (j:=31) (by omega))
 clear hq
 refine ztx (l:=zg6 h) (j:=31) (by omega) ?_
 refine Vdraw.code (Vcode.sub mixed Tab_ok (z2e (t:=4) (n:=64) ((ze2 h).map U8) rfl rfl (by rw[List.length_map,hlB])) ?_)
 refine aV ?_
 have ht:((ze2 h).take 32).length=32:=by rw[List.length_take,hlB];rfl
 have hd:((ze2 h).drop 32).length=32:=by rw[List.length_drop,hlB]
 have hsc:=zqq ((ze2 h).take 32) (by omega)
 rw[<-zi3 _ _ ht]at hsc
 rw[<-zi3 _ _ hd]
 refine⟨by decide,by decide,by decide,32,((ze2 h).take 32).map U8,rfl,by rw[List.map_take];rfl,?_⟩
 refine ze hsc ?_
 refine⟨by decide,by decide,by decide,32,((ze2 h).drop 32).map U8,rfl,by rw[List.map_drop];exact List.take_of_length_le (by rw[List.length_drop,List.length_map,hlB];decide),?_⟩
 refine za rfl rfl ?_
 exact⟨_,rfl,cr⟩
theorem z39(seed:List UInt8)(hs:seed.length=32):aG 146 [bs seed] (.r (.ag (secS seed).v)):=by
 refine aT Tryz.func146 rfl ?_
 refine zh (λh=>?_) (λh=>zt ?_)
 ·simp only[zb]at h
  exact absurd hs (by omega)
 refine ze (zvv seed (by omega)) ?_
 refine za rfl rfl ?_
 refine za rfl rfl ?_
 exact cr
def pubS(seed:List UInt8):List UInt8:=(mulP baseP (secS seed) 253).bytes
theorem zll(seed:List UInt8):(pubS seed).length=32:=Pt.bytes_len _
theorem zte(seed:List UInt8)(hs:seed.length=32):aG 101 [bs seed] (.r (.tu [bs (pubS seed), .i .u8 0])):=by
 refine aT Tryz.func101 rfl ?_
 refine zh (λh=>?_) (λh=>zt ?_)
 ·simp only[zb]at h
  exact absurd hs (by omega)
 refine ze zr6 ?_
 refine ze (z39 seed hs) ?_
 refine ze (zqp baseP (secS seed)) ?_
 refine ze (zv1 (mulP baseP (secS seed) 253)) ?_
 exact⟨_,rfl,cr⟩
def sigR(seed text:List UInt8):S4:=scOf (zci [secB seed,text])
def sigP(seed text:List UInt8):List UInt8:=(mulP baseP (sigR seed text) 253).bytes
def sigK(seed text:List UInt8):S4:=scOf (zci [sigP seed text,pubS seed,text])
def sigB(seed text:List UInt8):List UInt8:=sigP seed text++((sigR seed text).sum ((sigK seed text).mul (secS seed))).once.bytes
theorem zxy(seed text:List UInt8):(sigP seed text).length=32:=Pt.bytes_len _
theorem z8v(seed text:List UInt8):(sigB seed text).length=64:=by rw[sigB,aL,zxy,S4.bytes_len]
theorem z8t(seed:List UInt8):(secB seed).length=32:=by rw[secB,List.length_drop,ztg,zb2]
theorem z0w(a b:List UInt8):[a,b].flatMap id=a++b:=by simp
theorem z9e(a b c:List UInt8):[a,b,c].flatMap id=a++b++c:=by simp
set_option maxHeartbeats 1000000 in
theorem z36(seed text P B L1 Q L2 R1:List UInt8)(s r k m z:S4)(M:Pt)(hs:seed.length=32)(ht:text.length<=1000000000)(hP:P.length=32)(hB:B.length=32)(hQ:Q.length=32)(hR:R1.length=32)(hL1:L1.length=64)(hL2:L2.length=64)
  (c1:aG 101 [bs seed] (.r (.tu [bs P, .i .u8 0])))
  (c2:aG 206 [bs seed] (.r (.tu [.ag s.v,bs B])))
  (c3:aG 179 [bss [B,text]] (.r (bs L1)))
  (c4:aG 178 [bs L1] (.r (.ag r.v)))
  (c6: ∀b:Pt,b=baseP->aG 145 [.ag b.v, .ag r.v] (.r (.ag M.v)))
  (c7:aG 147 [.ag M.v] (bch Q))
  (c8:aG 179 [bss [Q,P,text]] (.r (bs L2)))
  (c9:aG 178 [bs L2] (.r (.ag k.v)))
  (c10:aG 273 [.ag k.v, .ag s.v] (.r (.ag m.v)))
  (c11:aG 272 [.ag r.v, .ag m.v] (.r (.ag z.v)))
  (c12:aG 274 [.ag z.v] (bch R1)):
  aG 208 [bs seed,bs text] (.r (.tu [bs (Q++R1), .i .u8 0])):=by
 refine aT Tryz.func208 rfl ?_
 refine ze c1 ?_
 refine zw rfl (zt ?_)
 refine ze c2 ?_
 refine zy ?_
 refine ze c3 ?_
 refine ze c4 ?_
 refine aV ?_
 obtain⟨b,hb⟩: ∃b,b=baseP:=⟨_,rfl⟩
 have c5:=zr6
 rw[<-hb]at c5
 refine ze c5 ?_
 refine za rfl rfl ?_
 refine ze (c6 b hb) ?_
 refine ze c7 ?_
 refine zy ?_
 refine ze c8 ?_
 refine ze c9 ?_
 refine aV ?_
 refine za rfl rfl ?_
 refine za rfl rfl ?_
 refine za rfl rfl ?_
 refine ze c10 ?_
 refine ze c11 ?_
 refine ze c12 ?_
 refine zy ?_
 refine ze (zgl [Q,R1] (by rw[z0w,aL];omega)) ?_
 exact⟨_,rfl,zf (by rw[z0w];rfl)⟩
theorem zdrb(seed text:List UInt8)(hs:seed.length=32)(ht:text.length<=1000000000):aG 208 [bs seed,bs text] (.r (.tu [bs (sigB seed text), .i .u8 0])):=by
 have h1:=z8t seed
 have h2:=zxy seed text
 have h3:=zll seed
 exact z36 seed text (pubS seed) (secB seed) (zci [secB seed,text]) (sigP seed text) (zci [sigP seed text,pubS seed,text]) _ (secS seed) (sigR seed text) (sigK seed text) ((sigK seed text).mul (secS seed)) _ (mulP baseP (sigR seed text) 253) hs ht h3 h1 h2 (S4.bytes_len _) (zb2 _) (zb2 _)
  (zte seed hs) (zvv seed (by omega)) (zvx [secB seed,text] (by rw[z0w,aL];omega)) (zqq _ (by rw[zb2];omega)) (λb hb=>by rw[hb];exact zqp baseP (sigR seed text)) (zv1 _)
  (zvx [sigP seed text,pubS seed,text] (by rw[z9e,aL,aL];omega)) (zqq _ (by rw[zb2];omega)) (za4b _ _) (za2b _ _) (z35 _)
theorem zui(seed:List UInt8)(hs:seed.length≠32):aG 101 [bs seed] (.r (.tu [bs [], .i .u8 1])):=by
 refine aT Tryz.func101 rfl ?_
 refine zu (by simp only[zb];omega) (zq ?_)
 exact⟨_,rfl,Cv.tu (zk (Cv.nil 1) (zn _))⟩
theorem z1l(seed text:List UInt8)(hs:seed.length≠32):aG 208 [bs seed,bs text] (.r (.tu [bs [], .i .u8 1])):=by
 refine aT Tryz.func208 rfl ?_
 refine ze (zui seed hs) ?_
 refine zu rfl (zq ?_)
 exact⟨_,rfl,Cv.tu (zk (Cv.nil 1) (zn _))⟩
def zfn(label text:List UInt8):List UInt8:=vecB (mlsB++label)++vecB text
theorem zk5(label:ByteArray)(text:List UInt8)(hl:label.size<=1048576)(ht:text.length<=1000000000):aG 130 [Str label,bs text] (bch (zfn (sB label) text)):=by
 refine aT Tryz.func130 rfl ?_
 have hd:=z78 label
 have hsz:label.data.toList.length=label.size:=rfl
 have hml:mlsB.length=8:=rfl
 refine⟨by show 8+label.size<=_;omega,?_⟩
 refine⟨by rw[z90];show 8+label.size<=_;omega,?_⟩
 refine Vcall.mk' (zbt [] ((⟨#[77,76,83,32,49,46,48,32]⟩:ByteArray)++label).data.toList (by simp) (by rw[hd,aL];omega)) (zk (Cv.nil _) (zn _)) ?_
 rw[hd]
 have hv:=zar (mlsB++label.data.toList)
 rw[aL]at hv
 refine ze (zbt ([]++vecB (mlsB++label.data.toList)) text (by simp only[aL,List.length_nil];omega) (by omega)) ?_
 exact zf0 (by simp[zfn,sB])
def z1x(seed label text:List UInt8):List UInt8:=sigB seed (zfn label text)
theorem zawb(seed:List UInt8)(label:ByteArray)(text:List UInt8)(hs:seed.length=32)(hl:label.size<=1048576)(ht:text.length<=500000000):aG 148 [bs seed,Str label,bs text] (.r (.tu [bs (z1x seed (sB label) text),Er 0])):=by
 refine aT Tryz.func148 rfl ?_
 have hsz:(sB label).length=label.size:=rfl
 have hml:mlsB.length=8:=rfl
 have hv:=zar (mlsB++sB label)
 have hv2:=zar text
 rw[aL]at hv
 refine ze (zk5 label text hl (by omega)) ?_
 refine ze (zdrb seed (zfn (sB label) text) hs (by rw[zfn,aL];omega)) ?_
 exact⟨_,rfl,cr⟩
theorem zyo(seed:List UInt8)(label:ByteArray)(text:List UInt8)(hs:seed.length≠32)(hl:label.size<=1048576)(ht:text.length<=500000000):aG 148 [bs seed,Str label,bs text] (.r (.tu [bs [],Er 1])):=by
 refine aT Tryz.func148 rfl ?_
 have hsz:(sB label).length=label.size:=rfl
 have hml:mlsB.length=8:=rfl
 have hv:=zar (mlsB++sB label)
 have hv2:=zar text
 rw[aL]at hv
 refine ze (zk5 label text hl (by omega)) ?_
 refine ze (z1l seed (zfn (sB label) text) hs) ?_
 exact⟨_,rfl,cr⟩
abbrev nl:RV:= .x (.slice none 0 0)
theorem z4v(seed label text:List UInt8):(z1x seed label text).length=64:=z8v _ _
theorem Cvs.app: ∀{a b c d:List RV},Cvs a b->Cvs c d->Cvs (a++c) (b++d)
 |[],b,c,d,h,h'=>by simp only[Cvs]at h;subst h;exact h'
 |x::a,b,c,d,h,h'=>by
  simp only[Cvs]at h
  obtain⟨g,r,rfl,h1,h2⟩:=h
  exact zk h1 (Cvs.app h2 h')
def u64N(n:Int):Nat:=(n%18446744073709551616).toNat
theorem z5w(x:Int)(h:i64 x):IntKind.u64.wrap x=((u64N x:Nat):Int):=by
 unfold i64 at h
 unfold IntKind.wrap u64N
 simp only[IntKind.bits,IntKind.signed]
 simp
 omega
def zgh(l:Leaf)(group:List UInt8)(at_:Int):List UInt8:=if l.src.toNat=1 then zbe l else zbe l++vecB group++beB 4 (u64N at_)
def ze0(l:Leaf)(at_:Int):Bool:=decide (l.src.toNat=1)||(decide (0<=at_)&&decide (at_<65536))
theorem zi2(l:Leaf):(zbe l).length<=l.box.length+l.sign.length+l.ident.length+l.parent.length+17:=by
 have v1:=zar l.box
 have v2:=zar l.sign
 have v3:=zar l.ident
 have v4:=zar l.parent
 unfold zbe
 split<;>simp only[aL,List.length_cons,List.length_nil]<;>omega
theorem zx2(l:Leaf)(group:List UInt8)(at_:Int):(zgh l group at_).length<=l.box.length+l.sign.length+l.ident.length+l.parent.length+group.length+25:=by
 have h:=zi2 l
 have v:=zar group
 have b:=za9 4 (u64N at_)
 unfold zgh
 split
 ·omega
 ·simp only[aL]
  omega
theorem z4b(l:Leaf)(group:List UInt8)(at_:Int)(hl:l.fit)(hg:group.length<=1000000000)(ha:i64 at_):aG 79 [.ag l.c,bs group,I at_] (.r (.tu [bs (zgh l group at_), .b (ze0 l at_)])):=by
 refine aT Tryz.func79 rfl ?_
 obtain⟨h1,h2,h3,h4,h5⟩:=hl
 have hA:=zi2 l
 have hv:=zar group
 refine za rfl rfl ?_
 refine Vcall.mk' (zk3 [] l (by simp) ⟨h1,h2,h3,h4,h5⟩) (zk (Cv.nil _) (zn _)) ?_
 rw[List.nil_append]
 refine zh (λh=>zq ?_) (λh=>zt ?_)
 ·simp only[zb]at h
  have h':l.src.toNat=1:=by omega
  have e1:zgh l group at_=zbe l:=if_pos h'
  have e2:ze0 l at_=true:=by simp[ze0,h']
  rw[e1,e2]
  exact⟨_,rfl,cr⟩
 ·simp only[zb]at h
  have h':l.src.toNat≠1:=by omega
  have e1:zgh l group at_=zbe l++vecB group++beB 4 (u64N at_):=if_neg h'
  have e2:ze0 l at_=(decide (0<=at_)&&decide (at_<65536)):=by simp[ze0,h']
  refine ze (zbt (zbe l) group (by omega) (by omega)) ?_
  refine Vint.n ((u64N at_:Nat):Int) (z5w at_ ha).symm ?_
  refine ze (zgm (zbe l++vecB group) 4 (u64N at_) (by rw[aL];omega) (.inr (.inr (.inl rfl)))) ?_
  rw[e1,e2]
  refine zh (λh0=>?_) (λh0=>?_)
  ·simp only[zb]at h0
   have h0':0<=at_:=h0
   refine Vcmp.mk' (m:=decide (at_<65536)) rfl ?_
   exact⟨_,rfl,zf (by rw[decide_eq_true h0'];rfl)⟩
  ·simp only[zb]at h0
   have h0': ¬0<=at_:=h0
   exact⟨_,rfl,zf (by rw[decide_eq_false h0'];rfl)⟩
def zS64:List UInt8:=List.replicate 64 0
def z9s:List UInt8:=[76,101,97,102,78,111,100,101,84,66,83]
def Leaf.with(l:Leaf)(s:List UInt8):Leaf:={l with sig:=s}
def zhd(l:Leaf)(seed:List UInt8)(at_:Int):Nat:=if(l.with zS64).right=true then if ze0 l at_=true then if seed.length=32 then 0 else 1 else 1 else 3
def slOk(l:Leaf)(seed group:List UInt8)(at_:Int):Leaf:=l.with (z1x seed z9s (zgh l group at_))
def zoc(l:Leaf)(seed group:List UInt8)(at_:Int):RV:=if zhd l seed at_=0 then .tu [.ag (slOk l seed group at_).c,Er 0]else .tu [.ag zl.c,Er (zhd l seed at_)]
theorem zsl:Cv (.ag [.x (.slice none 0 0), .x (.slice none 0 0), .x (.slice none 0 0), .i .u8 0, .x (.slice none 0 0), .x (.slice none 0 0)]) (.ag zl.c):=Cv.ag (zk (Cv.nil 1) (zk (Cv.nil 1) (zk (Cv.nil 1) (zk (cr) (zk (Cv.nil 1) (zk (Cv.nil 1) Cvs.nil))))))
theorem zlx:(List.replicate ((64:Int).toNat) ([Value.int .u8 0].map ofC)).flatten=zS64.map U8:=by simp[ofC,zS64]
abbrev lsS:ByteArray:=⟨#[76,101,97,102,78,111,100,101,84,66,83]⟩
section
variable (l:Leaf) (z seed group:List UInt8) (at_:Int) (hl:l.fit) (hz:zS64=z)
include hl hz
set_option maxRecDepth 100000 in
theorem z37(hr:(l.with z).right=false):aG 102 [.ag l.c,bs seed,bs group,I at_] (.r (.tu [.ag zl.c,Er 3])):=by
 refine aT Tryz.func102 rfl ?_
 have hzl:64=z.length:=by rw[<-hz];decide
 refine za rfl rfl ?_
 refine ze (zcx l hl) ?_
 refine⟨rfl,by decide,by decide,by decide,z.length,z.map U8,hzl,by rw[zlx,hz],zy ?_⟩
 refine za rfl rfl ?_
 refine Vcall.bool (zgn (l.with z)) (λhr'=>absurd hr' (by rw[hr];simp)) (λ_=>zu rfl (zq ?_))
 refine za rfl rfl ?_
 exact⟨_,rfl,Cv.tu (zk zsl (zn _))⟩
variable (T:List UInt8) (β:Bool) (hr:(l.with z).right=true) (hT:aG 79 [.ag (l.with z).c,bs group,I at_] (.r (.tu [bs T, .b β])))
include hr hT
set_option maxRecDepth 100000 in
theorem z7m(hβ:β=false):aG 102 [.ag l.c,bs seed,bs group,I at_] (.r (.tu [.ag zl.c,Er 1])):=by
 subst hβ
 refine aT Tryz.func102 rfl ?_
 have hzl:64=z.length:=by rw[<-hz];decide
 refine za rfl rfl ?_
 refine ze (zcx l hl) ?_
 refine⟨rfl,by decide,by decide,by decide,z.length,z.map U8,hzl,by rw[zlx,hz],zy ?_⟩
 refine za rfl rfl ?_
 refine Vcall.bool (zgn (l.with z)) (λ_=>zw rfl (zt ?_)) (λhr'=>absurd hr' (by rw[hr];simp))
 refine za rfl rfl ?_
 refine ze hT ?_
 refine zu rfl (zq ?_)
 refine za rfl rfl ?_
 exact⟨_,rfl,Cv.tu (zk zsl (zn _))⟩
set_option maxRecDepth 100000 in
theorem z7n(q:List UInt8)(e:Nat)(hβ:β=true)(hq:aG 148 [bs seed,Str lsS,bs T] (.r (.tu [bs q,Er e])))(he:e=1):aG 102 [.ag l.c,bs seed,bs group,I at_] (.r (.tu [.ag zl.c,Er 1])):=by
 subst hβ;subst he
 refine aT Tryz.func102 rfl ?_
 have hzl:64=z.length:=by rw[<-hz];decide
 refine za rfl rfl ?_
 refine ze (zcx l hl) ?_
 refine⟨rfl,by decide,by decide,by decide,z.length,z.map U8,hzl,by rw[zlx,hz],zy ?_⟩
 refine za rfl rfl ?_
 refine Vcall.bool (zgn (l.with z)) (λ_=>zw rfl (zt ?_)) (λhr'=>absurd hr' (by rw[hr];simp))
 refine za rfl rfl ?_
 refine ze hT ?_
 refine zw rfl (zt ?_)
 refine ze hq ?_
 refine zu rfl (zq ?_)
 refine za rfl rfl ?_
 exact⟨_,rfl,Cv.tu (zk zsl (zn _))⟩
set_option maxRecDepth 100000 in
theorem za5b(q:List UInt8)(hβ:β=true)(hq:aG 148 [bs seed,Str lsS,bs T] (.r (.tu [bs q,Er 0]))):aG 102 [.ag l.c,bs seed,bs group,I at_] (.r (.tu [.ag (l.with q).c,Er 0])):=by
 subst hβ
 refine aT Tryz.func102 rfl ?_
 have hzl:64=z.length:=by rw[<-hz];decide
 refine za rfl rfl ?_
 refine ze (zcx l hl) ?_
 refine⟨rfl,by decide,by decide,by decide,z.length,z.map U8,hzl,by rw[zlx,hz],zy ?_⟩
 refine za rfl rfl ?_
 refine Vcall.bool (zgn (l.with z)) (λ_=>zw rfl (zt ?_)) (λhr'=>absurd hr' (by rw[hr];simp))
 refine za rfl rfl ?_
 refine ze hT ?_
 refine zw rfl (zt ?_)
 refine ze hq ?_
 refine zw rfl (zt ?_)
 refine za rfl rfl ?_
 refine za rfl rfl ?_
 exact⟨_,rfl,cr⟩
end
theorem z1m(l:Leaf)(seed group:List UInt8)(at_:Int)(hl:l.fit)(hg:group.length<=100000000)(hb:l.box.length+l.sign.length+l.ident.length+l.parent.length<=100000000)(ha:i64 at_):
  aG 102 [.ag l.c,bs seed,bs group,I at_] (.r (zoc l seed group at_)):=by
 have hl':=hl
 obtain⟨h1,h2,h3,h4,h5⟩:=hl'
 have hf:(l.with zS64).fit:=⟨h1,h2,h3,h4,by show zS64.length<=_;decide⟩
 have ht:=zx2 l group at_
 have hT:aG 79 [.ag (l.with zS64).c,bs group,I at_] (.r (.tu [bs (zgh l group at_), .b (ze0 l at_)])):=z4b (l.with zS64) group at_ hf (by omega) ha
 have herr: ∀e:Nat,zhd l seed at_=e->e≠0->zoc l seed group at_= .tu [.ag zl.c,Er e]:=λe h h0=>by rw[zoc,h,if_neg h0]
 cases hr:(l.with zS64).right with
 |false=>
  rw[herr 3 (by unfold zhd;rw[if_neg (by rw[hr];simp)]) (by decide)]
  exact z37 l zS64 seed group at_ hl rfl hr
 |true=>
  cases ho:ze0 l at_ with
  |false=>
   rw[herr 1 (by unfold zhd;rw[if_pos hr,if_neg (by rw[ho];simp)]) (by decide)]
   exact z7m l zS64 seed group at_ hl rfl _ _ hr hT ho
  |true=>
   by_cases hs:seed.length=32
   ·have hS:zoc l seed group at_= .tu [.ag (slOk l seed group at_).c,Er 0]:=by
     have:zhd l seed at_=0:=by unfold zhd;rw[if_pos hr,if_pos ho,if_pos hs]
     rw[zoc,if_pos this]
    rw[hS]
    exact za5b l zS64 seed group at_ hl rfl _ _ hr hT _ ho (zawb seed lsS (zgh l group at_) hs (by decide) (by omega))
   ·rw[herr 1 (by unfold zhd;rw[if_pos hr,if_pos ho,if_neg hs]) (by decide)]
    exact z7n l zS64 seed group at_ hl rfl _ _ hr hT _ _ ho (zyo seed lsS (zgh l group at_) hs (by decide) (by omega)) rfl
def idxA{α:Type}(q:α->Bool):Nat->List α->Int
 |_,[]=> -1
 |j,x::r=>if q x then(j:Int)else idxA q (j+1) r
theorem zsb{α:Type}(q:α->Bool): ∀(l:List α) (j:Nat), -1<=idxA q j l/\idxA q j l< (j+l.length:Nat)/\(0<=idxA q j l↔l.any q=true)
 |[],j=>by simp[idxA];omega
 |x::r,j=>by
  have ih:=zsb q r (j+1)
  rw[idxA,List.any_cons,List.length_cons]
  by_cases hq:q x=true
  ·rw[if_pos hq,hq]
   exact⟨by omega,by omega,by simp⟩
  ·rw[if_neg hq,Bool.eq_false_iff.2 hq,Bool.false_or]
   exact⟨ih.1,by omega,ih.2.2⟩
theorem Cv.fn{P:Program}{α:Type}{f:FuncId}{arg:α->RV}{D:α->Prop}{q:α->Bool}(h: ∀x,D x->zab P f [arg x] (.r (.b (q x)))):Cv (.x (.func (.func f) #[] #[])) (.s (cloS P arg D q)):=λw k v hv=>by
 simp only[RV.at_]at hv⊢
 exact⟨f,[], #[],hv,rfl,h⟩
abbrev nodA(n:Node):RV:= .ag n.c
theorem zyl(l:List Node)(D:Node->Prop)(q:Node->Bool)(hl:l.length<=1000000000)(hD: ∀x∈l,D x):aG 113 [nods l, .s (cloS aP nodA D q)] (.r (I (idxA q 0 l))):=by
 refine aT Tryz.func113 rfl ?_
 refine Vloop.mk' (λj:Nat=>{F:=[(0, .r (nods l)),(1, .r (.s (cloS aP nodA D q))),(7, .r (I l.length)),(8, .r (I j))],O:=[],nx:=0}) (λj=>j<=l.length/\idxA q 0 l=idxA q j (l.drop j)) (λj=>l.length-j) 0 ⟨by omega,by simp⟩ (zac [] rfl ⟨cr,cr,cr,cr,trivial⟩ trivial) ?_
 rintro j ⟨hj,he⟩
 refine zh (λh=>zq ?_) (λh=>zt ?_)
 ·simp only[zb]at h
  have hj':j<l.length:=by omega
  rw[List.drop_eq_getElem_cons hj']at he
  simp only[idxA]at he
  refine zm (by omega) (by omega) (zh9 rfl hj') ?_
  refine za rfl rfl ?_
  refine Vstep.cloB l[j] rfl rfl rfl rfl (cr) (hD _ (List.getElem_mem hj')) (λhq=>zq ?_) (λhq=>zt ?_)
  ·rw[hq]at he
   exact zf (by rw[he];simp)
  ·rw[hq]at he
   refine zd (m:=((j+1:Nat):Int)) (by omega) (by omega) ?_
   exact⟨j+1,⟨hj',by rw[he];simp⟩,by omega,zac [] rfl ⟨cr,cr,cr,cr,trivial⟩ trivial⟩
 ·simp only[zb]at h
  rw[List.drop_eq_nil_of_le (by omega)]at he
  exact zf (by rw[he];rfl)
theorem zr3(l:List Node)(D:Node->Prop)(q:Node->Bool)(hl:l.length<=1000000000)(hD: ∀x∈l,D x):aG 67 [nods l, .s (cloS aP nodA D q)] (.r (.b (l.any q))):=by
 refine aT Tryz.func67 rfl ?_
 refine ze (zyl l D q hl hD) ?_
 exact Vcmp.mk' rfl (zf (congrArg RV.b (by rw[Bool.eq_iff_iff,decide_eq_true_eq];exact(zsb q l 0).2.2)))
def isLf(n:Node):Bool:=decide (n.kind.toNat=1)
theorem z6v(n:Node):aG 68 [nodA n] (.r (.b (isLf n))):=by
 refine aT Tryz.func68 rfl ?_
 refine Vcmp.mk' (m:=isLf n) ?_ (cr)
 unfold isLf
 rw[Bool.eq_iff_iff]
 simp only[zb]
 omega
theorem znx(l:List Node)(hl:l.length<=1000000000):aG 35 [nods l] (.r (.b (l.any isLf))):=by
 refine aT Tryz.func35 rfl ?_
 refine Vcall.mk' (zr3 l (λ_=>True) isLf hl λ_ _=>trivial) (zk (cr) (zk (Cv.fn λn _=>z6v n) Cvs.nil)) ?_
 exact cr
section
variable (lf:Leaf) (hlf:lf.fit) (hlr:lf.right=true)
abbrev L1(lf:Leaf):Node:=⟨1,lf,zpr⟩
theorem zl2{lf:Leaf}(h:lf.fit):(L1 lf).fit:=⟨h,zctb⟩
theorem zko{lf:Leaf}(h:lf.right=true):(L1 lf).right=true:=by
 show(if(1:UInt8).toNat=0 then _ else if(1:UInt8).toNat=1 then lf.right&&zpr.none else _)=true
 rw[if_neg (by decide),if_pos (by decide),h]
 rfl
theorem i00:(0:Int)<=0:=by decide
theorem i01:(0:Int)< ((1:Nat):Int):=by decide
theorem i2b: -9223372036854775808<=(2:Int)/\(2:Int)<=9223372036854775807:=by decide
theorem n1b:1<=1000000000:=by decide
theorem idx0:(([L1 lf].flatMap Node.c).drop ((0:Int).toNat*10)).take 10=(L1 lf).c:=zh9 (l:=[L1 lf]) (j:=0) rfl (Nat.succ_pos _)
theorem ztd:aG 33 [nods [L1 lf]] (.r (I 1)):=by
 refine aT Tryz.func33 rfl ?_
 refine zd (m:=2) rfl i2b ?_
 refine⟨by decide,1,by decide,?_⟩
 refine⟨by decide,1,rfl,?_⟩
 refine zw rfl ?_
 refine Vcall.bool (zvk 1) (λ_=>zw rfl (zt ?_)) (λh=>absurd h (by decide))
 exact cr
include hlf hlr in
theorem z3z:aG 34 [nods [L1 lf]] (.r (.b true)):=by
 refine aT Tryz.func34 rfl ?_
 have hb:=zvn (L1 lf) (zl2 hlf)
 rw[if_pos (zko hlr)]at hb
 generalize zq2 (L1 lf)=q at hb
 refine Vloop.rounds 2 ?_
 refine Vrounds.step mixed Tab_ok ?_
 refine zu rfl (zq ?_)
 refine zm i00 i01 (idx0 lf) ?_
 refine za rfl rfl ?_
 refine⟨by decide,0,by decide,?_⟩
 refine zw rfl (zt ?_)
 refine zw rfl (zt ?_)
 refine za rfl rfl ?_
 refine ze hb ?_
 refine zw rfl (zt ?_)
 refine zd (m:=1) rfl (by decide) ?_
 refine Vrounds.step mixed Tab_ok ?_
 refine zw rfl (zt ?_)
 exact cr
theorem zaxb:aG 36 [nods [L1 lf],I 0] (.r (.b true)):=by
 refine aT Tryz.func36 rfl ?_
 refine ze (ztd lf) ?_
 refine zm i00 i01 (idx0 lf) ?_
 refine zg rfl ?_
 refine Vloop.rounds 1 ?_
 refine Vrounds.step mixed Tab_ok ?_
 refine zw rfl (zt ?_)
 exact cr
include hlf hlr in
theorem zv4:aG 14 [nods [L1 lf]] (.r (.b true)):=by
 refine aT Tryz.func14 rfl ?_
 have hs:=znx [L1 lf] n1b
 have e:[L1 lf].any isLf=true:=rfl
 rw[e]at hs
 refine ze (ztd lf) ?_
 refine zw rfl ?_
 refine ze (z3z lf hlf hlr) ?_
 refine zw rfl ?_
 refine zu rfl ?_
 refine ze hs ?_
 refine zw rfl ?_
 refine zw rfl (zt ?_)
 refine Vloop.rounds 2 ?_
 refine Vrounds.step mixed Tab_ok ?_
 refine zu rfl (zq ?_)
 refine ze (zaxb lf) ?_
 refine zw rfl (zt ?_)
 refine zd (m:=1) rfl (by decide) ?_
 refine Vrounds.step mixed Tab_ok ?_
 refine zw rfl (zt ?_)
 exact cr
theorem zdlb:aG 72 [nods [L1 lf]] (.r (is [0])):=by
 refine aT Tryz.func72 rfl ?_
 refine Vloop.rounds 2 ?_
 refine Vrounds.step mixed Tab_ok ?_
 refine zu rfl (zq ?_)
 refine zm i00 i01 (idx0 lf) ?_
 refine za rfl rfl ?_
 refine zu rfl (zq ?_)
 refine⟨by decide,0,by decide,?_⟩
 refine zy ?_
 refine Vapp.mk' (j:=1) (zs:=[I 0]) (by decide) (by decide) rfl rfl ?_
 refine zd (m:=1) rfl (by decide) ?_
 refine Vrounds.step mixed Tab_ok ?_
 refine zw rfl (zt ?_)
 exact cr
include hlf hlr in
theorem z1b:aG 37 [nods [L1 lf]] (.r (is [0])):=by
 refine aT Tryz.func37 rfl ?_
 refine ze (zv4 lf hlf hlr) ?_
 refine zw rfl (zt ?_)
 refine ze (zdlb lf) ?_
 exact cr
include hlf in
theorem zapb:aG 17 [nods [L1 lf]] (.r (nods [L1 lf])):=by
 refine aT Tryz.func17 rfl ?_
 refine Vloop.rounds 2 ?_
 refine Vrounds.step mixed Tab_ok ?_
 refine zu rfl (zq ?_)
 refine zm i00 i01 (idx0 lf) ?_
 refine za rfl rfl ?_
 refine za rfl rfl ?_
 refine ze (znw (L1 lf) (zl2 hlf) (zcx _ hlf)) ?_
 refine zy ?_
 refine Vapp.mk' (j:=1) (zs:=(L1 lf).c) (by decide) (by decide) rfl rfl ?_
 refine zd (m:=1) rfl (by decide) ?_
 refine Vrounds.step mixed Tab_ok ?_
 refine zw rfl (zt ?_)
 exact cr
end
end Go.Proofs.YtpcfoglfakeimaaGreat.Sx
