import Derived.Test.YtkegaaonpekkgaaGreatZEr
import Derived.Test.YtkegaaonpekkgaaGreatZFp
import Derived.ChangeKeysEq
namespace Go.Proofs.YtkegaaonpekkgaaGreat.Sx
open Go.RowKit
def Fe.inv(x:Fe):Fe:=x.pow (powE 235 127)
theorem zot(x:Fe):aG 213 [.ag x.v] (.r (.ag x.inv.v)):=by
 refine aT Tryz.func213 rfl ?_
 refine aV ?_
 refine za rfl rfl ?_
 refine ze (ztd 235 127) ?_
 refine ze (z47 x (powE 235 127) (by rw[zqp];omega)) ?_
 refine za rfl rfl ?_
 exact cr
def ziu(k:List UInt8):List UInt8:=(k.set 0 (k.getD 0 0&&& ~~~7)).set 31 ((k.getD 31 0&&&63)|||64)
theorem zq8(k:List UInt8):(ziu k).length=k.length:=by simp[ziu]
theorem zf8b(k:List UInt8)(hk:k.length=32):aG 321 [bs k] (bch (ziu k)):=by
 refine za1 (T:=Tab) mixed Tab_ok Tryz.func321 rfl (by kernel_rfl) ?_
 refine⟨rfl,by decide,by decide,by decide,_,_,rfl,zs32,Vpub.own ?_⟩
 have e1:((k.map U8).take (Nat.min k.length 32*1)++((List.replicate 32 (0:UInt8)).map U8).drop (Nat.min k.length 32*1))=k.map U8:=by
  have e:Nat.min k.length 32=32:=by rw[hk];rfl
  rw[e,List.take_of_length_le (by rw[List.length_map,hk];omega),List.drop_eq_nil_of_le (by simp),List.append_nil]
 refine Vstep.copy Tab_ok rfl rfl rfl rfl rfl rfl rfl rfl e1 ?_
 refine Vadr.mk' 0 rfl (by decide) ?_
 refine zg (f:=U8 (k.getD 0 0)) (zeu (by omega)) ?_
 refine Vbits.andn8 _ 7 rfl rfl ?_
 refine Vadr.mk' 0 rfl (by decide) ?_
 refine⟨by rw[List.length_map,hk];decide,(k.set 0 (k.getD 0 0&&& ~~~7)).map U8,zc1 (by omega),?_⟩
 refine Vadr.mk' 31 rfl (by decide) ?_
 refine zg (f:=U8 (k.getD 31 0)) ((zeu (j:=31) (by rw[List.length_set];omega)).trans (by rw[List.getD_eq_getElem?_getD,List.getElem?_set_ne (by decide),<-List.getD_eq_getElem?_getD])) ?_
 refine Vbits.and8 _ 63 rfl rfl ?_
 refine Vbits.or8 _ 64 rfl rfl ?_
 refine Vadr.mk' 31 rfl (by decide) ?_
 refine⟨by rw[List.length_map,List.length_set,hk];decide,(ziu k).map U8,zc1 (i:=31) (by rw[List.length_set];omega),?_⟩
 refine⟨_,zbd (id:=0) rfl,?_⟩
 exact congrArg (λn=>some (Ow.ch 5 1 n ((ziu k).map U8) true)) ((zq8 k).trans hk).symm
structure Pt where
 x:Fe
 y:Fe
 z:Fe
 t:Fe
abbrev Pt.v(p:Pt):List RV:=[W p.x.a,W p.x.b,W p.x.c,W p.x.d,W p.x.e,W p.y.a,W p.y.b,W p.y.c,W p.y.d,W p.y.e,W p.z.a,W p.z.b,W p.z.c,W p.z.d,W p.z.e,W p.t.a,W p.t.b,W p.t.c,W p.t.d,W p.t.e, .b true]
abbrev Pt.bx(p:Pt):Ow:= .box [.r (W p.x.a), .r (W p.x.b), .r (W p.x.c), .r (W p.x.d), .r (W p.x.e), .r (W p.y.a), .r (W p.y.b), .r (W p.y.c), .r (W p.y.d), .r (W p.y.e), .r (W p.z.a), .r (W p.z.b), .r (W p.z.c), .r (W p.z.d), .r (W p.z.e), .r (W p.t.a), .r (W p.t.b), .r (W p.t.c), .r (W p.t.d), .r (W p.t.e), .r (.b true)]
def Pt.sum(p q:Pt)(dd:Fe):Pt:=
 let a:=(p.y.sub p.x).mul (q.y.sub q.x)
 let b:=(p.y.add p.x).mul (q.y.add q.x)
 let c:=(p.t.mul dd).mul q.t
 let e:=(p.z.add p.z).mul q.z
 let f:=b.sub a
 let g:=e.sub c
 let h:=e.add c
 let i:=b.add a
 ⟨f.mul g,h.mul i,g.mul h,f.mul i⟩
set_option maxHeartbeats 4000000 in
theorem zxt(p q:Pt)(dd:Fe):aG 220 [.ag p.v, .ag q.v, .ag dd.v] (.r (.ag (p.sum q dd).v)):=by
 refine aT Tryz.func220 rfl ?_
 repeat' ((conv=>whnf);first|refine za rfl rfl ?_|refine aV ?_)
 refine ze (zha (p.y) (p.x)) ?_
 repeat' ((conv=>whnf);first|refine za rfl rfl ?_|refine aV ?_)
 refine ze (zha (q.y) (q.x)) ?_
 repeat' ((conv=>whnf);first|refine za rfl rfl ?_|refine aV ?_)
 refine ze (zbh (p.y.sub p.x) (q.y.sub q.x)) ?_
 generalize hA:(p.y.sub p.x).mul (q.y.sub q.x)=A
 repeat' ((conv=>whnf);first|refine za rfl rfl ?_|refine aV ?_)
 refine ze (zfq (p.y) (p.x)) ?_
 repeat' ((conv=>whnf);first|refine za rfl rfl ?_|refine aV ?_)
 refine ze (zfq (q.y) (q.x)) ?_
 repeat' ((conv=>whnf);first|refine za rfl rfl ?_|refine aV ?_)
 refine ze (zbh (p.y.add p.x) (q.y.add q.x)) ?_
 generalize hB:(p.y.add p.x).mul (q.y.add q.x)=B
 repeat' ((conv=>whnf);first|refine za rfl rfl ?_|refine aV ?_)
 refine ze (zbh (p.t) (dd)) ?_
 repeat' ((conv=>whnf);first|refine za rfl rfl ?_|refine aV ?_)
 refine ze (zbh (p.t.mul dd) (q.t)) ?_
 generalize hC:(p.t.mul dd).mul q.t=C
 repeat' ((conv=>whnf);first|refine za rfl rfl ?_|refine aV ?_)
 refine ze (zfq (p.z) (p.z)) ?_
 repeat' ((conv=>whnf);first|refine za rfl rfl ?_|refine aV ?_)
 refine ze (zbh (p.z.add p.z) (q.z)) ?_
 generalize hE:(p.z.add p.z).mul q.z=E
 repeat' ((conv=>whnf);first|refine za rfl rfl ?_|refine aV ?_)
 refine ze (zha (B) (A)) ?_
 generalize hF:B.sub A=F
 repeat' ((conv=>whnf);first|refine za rfl rfl ?_|refine aV ?_)
 refine ze (zha (E) (C)) ?_
 generalize hG:E.sub C=G
 repeat' ((conv=>whnf);first|refine za rfl rfl ?_|refine aV ?_)
 refine ze (zfq (E) (C)) ?_
 generalize hH:E.add C=H
 repeat' ((conv=>whnf);first|refine za rfl rfl ?_|refine aV ?_)
 refine ze (zfq (B) (A)) ?_
 generalize hK:B.add A=K
 repeat' ((conv=>whnf);first|refine za rfl rfl ?_|refine aV ?_)
 refine ze (zbh (F) (G)) ?_
 repeat' ((conv=>whnf);first|refine za rfl rfl ?_|refine aV ?_)
 refine ze (zbh (H) (K)) ?_
 repeat' ((conv=>whnf);first|refine za rfl rfl ?_|refine aV ?_)
 refine ze (zbh (G) (H)) ?_
 repeat' ((conv=>whnf);first|refine za rfl rfl ?_|refine aV ?_)
 refine ze (zbh (F) (K)) ?_
 repeat' ((conv=>whnf);first|refine za rfl rfl ?_|refine aV ?_)
 have e:p.sum q dd=⟨F.mul G,H.mul K,G.mul H,F.mul K⟩:=by
  subst hK hH hG hF hE hC hB hA
  rfl
 rw[e]
 exact cr
section
def numF(n:UInt64):Fe:=⟨n&&&msk,shrW n 51,0,0,0⟩
theorem h_n2:aG 210 [.i .u64 2] (.r (.ag (numF 2).v)):=zju 2
theorem h_n4:aG 210 [.i .u64 4] (.r (.ag (numF 4).v)):=zju 4
theorem h_n5:aG 210 [.i .u64 5] (.r (.ag (numF 5).v)):=zju 5
theorem h_nA:aG 210 [.i .u64 121665] (.r (.ag (numF 121665).v)):=zju 121665
theorem h_nB:aG 210 [.i .u64 121666] (.r (.ag (numF 121666).v)):=zju 121666
attribute [irreducible] numF
def fz:Fe:=⟨0,0,0,0,0⟩
def dC:Fe:=(Fe.sub ⟨0,0,0,0,0⟩ (numF 121665)).mul (numF 121666).inv
theorem h_d:aG 218 [] (.r (.ag dC.v)):=by
 refine aT Tryz.func218 rfl ?_
 refine ze h_nA ?_
 refine ze (zwc (numF 121665)) ?_
 refine ze h_nB ?_
 refine ze (zot (numF 121666)) ?_
 refine ze (zbh (Fe.sub ⟨0,0,0,0,0⟩ (numF 121665)) (numF 121666).inv) ?_
 refine za rfl rfl ?_
 exact cr
attribute [irreducible] dC
def Pt.of(x y:Fe):Pt:=⟨x,y,one,x.mul y⟩
theorem z45(x y:Fe):aG 215 [.ag x.v, .ag y.v] (.r (.ag (Pt.of x y).v)):=by
 refine aT Tryz.func215 rfl ?_
 repeat' ((conv=>whnf);first|refine za rfl rfl ?_|refine aV ?_)
 refine ze zlw ?_
 repeat' ((conv=>whnf);first|refine za rfl rfl ?_|refine aV ?_)
 refine ze (zbh x y) ?_
 repeat' ((conv=>whnf);first|refine za rfl rfl ?_|refine aV ?_)
 exact cr
def Pt.nil:Pt:=Pt.of ⟨0,0,0,0,0⟩ one
theorem z8b:aG 217 [] (.r (.ag Pt.nil.v)):=by
 refine aT Tryz.func217 rfl ?_
 refine ze zlw ?_
 refine ze (z45 ⟨0,0,0,0,0⟩ one) ?_
 refine za rfl rfl ?_
 exact cr
attribute [irreducible] Pt.nil
theorem zim(p:Pt):aG 216 [.ag p.v] (.r (.ag p.v)):=by
 refine aT Tryz.func216 rfl ?_
 refine zu rfl (zq ?_)
 refine za rfl rfl ?_
 refine za rfl rfl ?_
 exact cr
def dD:Fe:=dC.add dC
def mulP(p:Pt)(s:S4):Nat->Pt
 |0=>Pt.nil
 |j+1=>if s.bit (252-j)=1 then((mulP p s j).sum (mulP p s j) dD).sum p dD else(mulP p s j).sum (mulP p s j) dD
theorem zut(p:Pt)(s:S4):mulP p s 0=Pt.nil:=rfl
theorem zyp(p:Pt)(s:S4)(j:Nat)(h:s.bit (252-j)=1):mulP p s (j+1)=((mulP p s j).sum (mulP p s j) dD).sum p dD:=by rw[mulP,if_pos h]
theorem zr4(p:Pt)(s:S4)(j:Nat)(h: ¬s.bit (252-j)=1):mulP p s (j+1)=(mulP p s j).sum (mulP p s j) dD:=by rw[mulP,if_neg h]
attribute [irreducible] mulP dD
abbrev z21:Ow:= .box [.r (W 0), .r (W 0), .r (W 0), .r (W 0), .r (W 0), .r (W 0), .r (W 0), .r (W 0), .r (W 0), .r (W 0), .r (W 0), .r (W 0), .r (W 0), .r (W 0), .r (W 0), .r (W 0), .r (W 0), .r (W 0), .r (W 0), .r (W 0), .r (.b false)]
def pmI(p:Pt)(s:S4)(j:Nat):St:={F:=[(2, .own 0),(3, .own 1),(4, .own 2),(5, .own 3),(6, .own 4),(7, .r (I (252-(j:Int))))],O:=[(0,some p.bx),(1,some s.bx),(2,some z21),(3,some (mulP p s j).bx),(4,some dD.bx)],nx:=5}
set_option maxHeartbeats 4000000 in
theorem zrp(p:Pt)(s:S4):aG 125 [.ag p.v, .ag s.v] (.r (.ag (mulP p s 253).v)):=by
 refine aT Tryz.func125 rfl ?_
 refine Vcode.scope3 mixed Tab_ok 0 (pmI p s) (λj=>j<=252) (λj=>252-j) rfl ?_ ?_
 ·refine za rfl rfl ?_
  refine ze (zim p) ?_
  (conv=>whnf)
  refine⟨rfl,?_⟩
  refine ze z8b ?_
  refine ze h_d ?_
  refine ze h_d ?_
  refine ze (zfq dC dC) ?_
  (conv=>whnf)
  refine⟨rfl,?_⟩
  (conv=>whnf)
  have hD:dC.add dC=dD:=by unfold dD;rfl
  rw[hD]
  refine⟨rfl,0,by omega,zac [(0,0),(1,1),(2,2),(3,3),(4,4)] rfl ⟨rfl,rfl,rfl,rfl,rfl,cr,trivial⟩ ⟨(aE (aC (aA aZ))),(aC aZ),(aE (aC (aA aZ))),by rw[zut];exact⟨_,_,rfl,cr,_,_,rfl,cr,_,_,rfl,cr,_,_,rfl,cr,_,_,rfl,cr,_,_,rfl,cr,_,_,rfl,cr,_,_,rfl,cr,_,_,rfl,cr,_,_,rfl,cr,_,_,rfl,cr,_,_,rfl,cr,_,_,rfl,cr,_,_,rfl,cr,_,_,rfl,cr,_,_,rfl,cr,_,_,rfl,cr,_,_,rfl,cr,_,_,rfl,cr,_,_,rfl,cr,_,_,rfl,cr,rfl⟩,(aC (aA aZ)),trivial⟩⟩
 ·intro j hj
  refine za rfl rfl ?_
  refine za rfl rfl ?_
  refine za rfl rfl ?_
  refine ze (zxt (mulP p s j) (mulP p s j) dD) ?_
  generalize hY:(mulP p s j).sum (mulP p s j) dD=y
  refine za rfl rfl ?_
  have hbit:=zgvb s (252-j) (by omega)
  have e1:((252-j:Nat):Int)=252-(j:Int):=by omega
  rw[e1]at hbit
  refine ze hbit ?_
  refine zh (λh=>zp ?_) (λh=>zq ?_)
  ·have hb:s.bit (252-j)=1:=by
    rw[beq_iff_eq]at h
    have:(s.bit (252-j)).toNat=1:=by omega
    exact UInt64.toNat_inj.1 this
   have hs:=zyp p s j hb
   rw[hY]at hs
   refine za rfl rfl ?_
   refine za rfl rfl ?_
   refine za rfl rfl ?_
   refine ze (zxt y p dD) ?_
   refine zd (m:=252-((j+1:Nat):Int)) (by omega) (by omega) ?_
   refine zh (λh=>zp ?_) (λh=>zq ?_)
   ·simp only[zb]at h
    exact⟨j+1,by omega,by omega,zac [(0,0),(1,1),(2,2),(3,3),(4,4)] rfl ⟨rfl,rfl,rfl,rfl,rfl,cr,trivial⟩ ⟨(aE (aC (aA aZ))),(aC aZ),(aE (aC (aA aZ))),by rw[hs];exact⟨_,_,rfl,cr,_,_,rfl,cr,_,_,rfl,cr,_,_,rfl,cr,_,_,rfl,cr,_,_,rfl,cr,_,_,rfl,cr,_,_,rfl,cr,_,_,rfl,cr,_,_,rfl,cr,_,_,rfl,cr,_,_,rfl,cr,_,_,rfl,cr,_,_,rfl,cr,_,_,rfl,cr,_,_,rfl,cr,_,_,rfl,cr,_,_,rfl,cr,_,_,rfl,cr,_,_,rfl,cr,_,_,rfl,cr,rfl⟩,(aC (aA aZ)),trivial⟩⟩
   ·simp only[zb]at h
    obtain rfl:j=252:=by omega
    refine za rfl rfl ?_
    refine za rfl rfl ?_
    rw[hs]
    exact cr
  ·have hb: ¬s.bit (252-j)=1:=by
    rw[beq_eq_false_iff_ne]at h
    intro e
    rw[e]at h
    exact h rfl
   have hs:=zr4 p s j hb
   rw[hY]at hs
   refine zd (m:=252-((j+1:Nat):Int)) (by omega) (by omega) ?_
   refine zh (λh=>zp ?_) (λh=>zq ?_)
   ·simp only[zb]at h
    exact⟨j+1,by omega,by omega,zac [(0,0),(1,1),(2,2),(3,3),(4,4)] rfl ⟨rfl,rfl,rfl,rfl,rfl,cr,trivial⟩ ⟨(aE (aC (aA aZ))),(aC aZ),(aE (aC (aA aZ))),by rw[hs];exact⟨_,_,rfl,cr,_,_,rfl,cr,_,_,rfl,cr,_,_,rfl,cr,_,_,rfl,cr,_,_,rfl,cr,_,_,rfl,cr,_,_,rfl,cr,_,_,rfl,cr,_,_,rfl,cr,_,_,rfl,cr,_,_,rfl,cr,_,_,rfl,cr,_,_,rfl,cr,_,_,rfl,cr,_,_,rfl,cr,_,_,rfl,cr,_,_,rfl,cr,_,_,rfl,cr,_,_,rfl,cr,_,_,rfl,cr,rfl⟩,(aC (aA aZ)),trivial⟩⟩
   ·simp only[zb]at h
    obtain rfl:j=252:=by omega
    refine za rfl rfl ?_
    refine za rfl rfl ?_
    rw[hs]
    exact cr
end
theorem Vsem.fieldAll{P:Program}{T:TT}{S:St}{o:Oper}(hT:TOk P T){t:TypeId}{x:Operand}{i:Nat}{ft:TypeId}{ti tf:TI}{fs:List (Nat×TypeId)}{cells:List RV}{K:TF->Option Ow->Prop}(hop:o.op= .field t x i)(hti:tget T t=some ti)(hk:ti.k= .struct fs)(hfs:lget fs i=some (0,ft))(htf:tget T ft=some tf)(hag:tf.agg=true)
  (hx:opr S x=some (.r (.ag cells))) (hc:cells.length=tf.sz) (hK:K (.r (.ag cells)) none):Vsem P S o K:=by
 refine⟨_,_,λB N a w k Q ⟨g,hs⟩ hd=>?_,hK⟩
 have hv:=(zaf hs hx).2
 simp only[TF.at_,RV.at_]at hv
 obtain⟨us,e,hl⟩:=hv
 rw[zat]at hfs
 have hul:=(RV.listAt_iff _ _).1 hl
 have hus:us.size=tf.sz:=by rw[<-Array.length_toList,hul.1,hc]
 obtain⟨q,hq⟩:=hT.get hti
 obtain⟨d,hdd,hko,_⟩:=q.desc
 rw[hq]at hdd
 rw[hk]at hko
 obtain⟨fields,rfl,hfl⟩:=hko
 obtain⟨qf,hqf⟩:=hT.get htf
 have hsize:=zba (w:=w) qf hqf
 obtain⟨df,hdf,_,hrow⟩:=qf.desc
 rw[hqf]at hdf
 rw[hag]at hrow
 have hagg:(isAgg ft).run P w= .ok true w:=by
  unfold isAgg
  rw[Sem.run_bind,run_underlying hdf w]
  cases df<;>simp_all [TypeDesc.isRow]
 rw[<-hfl,List.getElem?_map]at hfs
 cases hfi:fields.toList[i]? with
 |none=>simp[hfi]at hfs
 |some fd=>
  simp only[hfi,Option.map_some,Option.some.injEq,Prod.mk.injEq]at hfs
  obtain⟨h0,rfl⟩:=hfs
  have hfa:fields[i]?=some fd:=by simpa using hfi
  refine zau (v:= .agg us) (w':=w) ?_ ⟨k,g,hs.put hd trivial ?_⟩
  ·simp[execOp,hop,Instr.field,run_underlying hdd w,hfa,e,part,hagg,asAgg,hsize,h0,<-hus]
  ·simp only[TF.at_,RV.at_]
   exact⟨us,rfl,hl⟩
def Fe.odd(x:Fe):Bool:=((x.least.a&&&1).toNat:Int)==1
theorem z42(x:Fe):aG 223 [.ag x.v] (.r (.b x.odd)):=by
 refine aT Tryz.func223 rfl ?_
 refine za rfl rfl ?_
 refine ze (zkp x) ?_
 refine Vsem.fieldAll (ft:=178) Tab_ok rfl rfl rfl rfl rfl rfl rfl rfl ?_
 refine zm (by decide) (by decide) rfl ?_
 refine Vbits.wand _ 1 rfl rfl ?_
 refine⟨_,rfl,?_⟩
 exact cr
set_option maxHeartbeats 1000000 in
theorem zbzb(x:Fe):aG 211 [.ag x.v] (.own 5 1 32 (x.bytes.map U8)):=by
 refine za1 (T:=Tab) mixed Tab_ok Tryz.func211 rfl (by kernel_rfl) ?_
 refine za rfl rfl ?_
 refine ze (zkp x) ?_
 refine⟨rfl,by decide,by decide,by decide,_,_,rfl,zs32,Vpub.own ?_⟩
 refine za rfl rfl ?_
 refine Vloop.mkx (outI x.least) (λi=>i<=5) (λi=>5-i) 0 (by omega) (zac [(0,1)] rfl ⟨rfl,cr,cr,trivial⟩ ⟨⟨rfl,rfl,rfl,rfl,by rw[zmy];exact zn _⟩,trivial⟩) ?_
 intro i hi
 refine zh (λh=>zp ?_) (λh=>zq ?_)
 ·simp only[zb]at h
  have hi':i<5:=by omega
  refine zm (by omega) (by simp;omega) (z2e x.least hi') ?_
  refine zd (m:=((i*51:Nat):Int)) (by omega) (by omega) ?_
  refine Vloop.mkx (inI x.least i) (λk=>k<=51) (λk=>51-k) 0 (by omega) (zac [(0,0)] rfl ⟨rfl,cr,cr,cr,cr,cr,trivial⟩ ⟨⟨rfl,rfl,rfl,rfl,by rw[zn4];exact zn _⟩,trivial⟩) ?_
  intro k hk
  refine zh (λh=>zp ?_) (λh=>zq ?_)
  ·simp only[zb]at h
   have hk':k<51:=by omega
   have hL:(rowB (allF x.least i) ((zdm x.least).getD i 0) (i*51) k).length=32:=by rw[zjg,zit]
   refine aV ?_
   refine zd (m:=((i*51+k:Nat):Int)) (by omega) (by omega) ?_
   refine Vquo.i64 (i*51+k) 8 rfl rfl (by omega) (by omega) ?_
   refine Vadr.mk' ((i*51+k)/8) rfl (by omega) ?_
   refine zg (f:=U8 ((rowB (allF x.least i) ((zdm x.least).getD i 0) (i*51) k).getD ((i*51+k)/8) 0)) (by rw[Nat.mul_one];exact zeu (by rw[hL];omega)) ?_
   refine Vshr.w _ k rfl rfl ?_
   refine Vbits.wand _ 1 rfl rfl ?_
   refine Vint.u8 _ rfl ?_
   refine zd (m:=((i*51+k:Nat):Int)) (by omega) (by omega) ?_
   refine Vrem.nat (i*51+k) 8 rfl rfl (by omega) ?_
   refine Vshl.b _ ((i*51+k)%8) rfl rfl (by omega) ?_
   refine Vbits.or8 _ _ rfl rfl ?_
   refine Vadr.mk' ((i*51+k)/8) rfl (by omega) ?_
   refine⟨by rw[List.length_map,hL];show(i*51+k)/8*1+1<=32;omega,(rowB (allF x.least i) ((zdm x.least).getD i 0) (i*51) (k+1)).map U8,?_,?_⟩
   ·rw[rowB,bitB,Nat.mul_one]
    exact zc1 (by rw[hL];omega)
   refine zd (m:=((k+1:Nat):Int)) (by omega) (by omega) ?_
   exact⟨k+1,by omega,by omega,zac [(0,0)] rfl ⟨rfl,cr,cr,cr,cr,cr,trivial⟩ ⟨⟨rfl,rfl,rfl,rfl,zn _⟩,trivial⟩⟩
  ·simp only[zb]at h
   obtain rfl:k=51:=by omega
   refine⟨_,zo _,?_⟩
   refine zd (m:=((i+1:Nat):Int)) (by omega) (by omega) ?_
   exact⟨i+1,by omega,by omega,zac [(0,0)] rfl ⟨rfl,cr,cr,trivial⟩ ⟨⟨rfl,rfl,rfl,rfl,by rw[zmx];exact zn _⟩,trivial⟩⟩
 ·simp only[zb]at h
  obtain rfl:i=5:=by omega
  refine⟨_,zo _,?_⟩
  refine⟨_,zo _,?_⟩
  exact rfl
def Pt.bytes(p:Pt):List UInt8:=if(p.x.mul p.z.inv).odd then(p.y.mul p.z.inv).bytes.set 31 ((p.y.mul p.z.inv).bytes.getD 31 0|||128)else(p.y.mul p.z.inv).bytes
theorem Pt.bytes_len(p:Pt):p.bytes.length=32:=by
 unfold Pt.bytes
 split
 ·rw[List.length_set,Fe.bytes_len]
 ·exact Fe.bytes_len _
set_option maxHeartbeats 1000000 in
theorem zxu(p:Pt):aG 127 [.ag p.v] (bch p.bytes):=by
 refine za1 (T:=Tab) mixed Tab_ok Tryz.func127 rfl (by kernel_rfl) ?_
 have hpl:=Pt.bytes_len p
 refine za rfl rfl ?_
 refine ze (zim p) ?_
 refine za rfl rfl ?_
 refine ze (zot p.z) ?_
 refine za rfl rfl ?_
 refine za rfl rfl ?_
 refine ze (zbh p.y p.z.inv) ?_
 refine ze (zbzb (p.y.mul p.z.inv)) ?_
 refine za rfl rfl ?_
 refine za rfl rfl ?_
 refine ze (zbh p.x p.z.inv) ?_
 refine ze (z42 (p.x.mul p.z.inv)) ?_
 have hl:=Fe.bytes_len (p.y.mul p.z.inv)
 refine⟨λh=>?_,λh=>?_⟩
 ·have hb:p.bytes=(p.y.mul p.z.inv).bytes.set 31 ((p.y.mul p.z.inv).bytes.getD 31 0|||128):=by rw[Pt.bytes,if_pos h]
  refine Vadr.any (by decide) ?_
  refine zg (f:=U8 ((p.y.mul p.z.inv).bytes.getD 31 0)) (zeu (by rw[hl];decide)) ?_
  refine Vbits.or8 _ 128 rfl rfl ?_
  refine Vadr.any (by decide) ?_
  refine⟨by rw[List.length_map,hl];decide,p.bytes.map U8,?_,?_⟩
  ·rw[hb]
   exact zc1 (by rw[hl];decide)
  refine⟨_,zbd (id:=2) rfl,?_⟩
  exact congrArg (λn=>some (Ow.ch 5 1 n (p.bytes.map U8) true)) hpl.symm
 ·have hb:p.bytes=(p.y.mul p.z.inv).bytes:=by rw[Pt.bytes,if_neg (by rw[h];decide)]
  refine⟨_,zbd (id:=2) rfl,?_⟩
  rw[hb]at hpl⊢
  exact congrArg (λn=>some (Ow.ch 5 1 n ((p.y.mul p.z.inv).bytes.map U8) true)) hpl.symm
abbrev u64v(x:UInt64):Value:= .int .u64 (x.toNat:Int)
def feV(x:Fe):Array Value:= #[u64v x.a,u64v x.b,u64v x.c,u64v x.d,u64v x.e]
def feEq(x y:Fe):Bool:=decide (x.a=y.a/\x.b=y.b/\x.c=y.c/\x.d=y.d/\x.e=y.e)
theorem z67{x:Fe}{w:World}{k:Kp}{v:Value}(h:(RV.ag x.v).at_ w k v):v= .agg (feV x):=by
 simp only[RV.at_]at h
 obtain⟨us,rfl,hl⟩:=h
 simp only[RV.listAt,RV.at_]at hl
 congr 1
 apply Array.ext'
 obtain⟨u0,r0,e0,_,rfl,u1,r1,e1,_,rfl,u2,r2,e2,_,rfl,u3,r3,e3,_,rfl,u4,r4,e4,_,rfl,e5⟩:=hl
 subst e5 e4 e3 e2 e1
 exact e0
theorem zrd:Tryz.prog.underlying 180=some (.struct (Tryz.prog.fieldsOf 180)):=by kernel_rfl
theorem z2r(x:Fe)(w:World):(part 178 (feV x) 0).run aP w= .ok (.agg (feV x)) w:=by
 have hagg:(isAgg 178).run aP w= .ok true w:=by
  unfold isAgg
  rw[Sem.run_bind,run_underlying (show Tryz.prog.underlying 178=some (.array 5 43)by kernel_rfl) w]
  rfl
 obtain⟨q,hq⟩:=Tab_ok.get (show tget Tab 178=some _ from rfl)
 have hsize:=zba (w:=w) q hq
 simp only[part,Sem.run_bind,hagg,Result.andThen_ok,if_true,hsize,Sem.run_pure]
 rfl
theorem z9v(x:Fe)(i:Nat)(v:Value)(w:World)(h:(feV x)[i]?=some v):(part 43 (feV x) i).run aP w= .ok v w:=by
 have hagg:(isAgg 43).run aP w= .ok false w:=by
  unfold isAgg
  rw[Sem.run_bind,run_underlying (show Tryz.prog.underlying 43=some (.int .u64)by kernel_rfl) w]
  rfl
 simp only[part,Sem.run_bind,hagg,Result.andThen_ok,h]
 simp
theorem zw2(x y:Fe)(w:World)(d:Nat): ∀is:List Nat,(∀i∈is,i<5)->∃r:Bool,(Op.eqItems (d+1) 43 1 (feV x) (feV y) is).run aP w= .ok r w/\(r=true↔∀i∈is,(feV x)[i]?=(feV y)[i]?)
 |[],_=>⟨true,by simp[Op.eqItems],by simp⟩
 |i::is,h=>by
  obtain⟨r,ih,hr⟩:=zw2 x y w d is λj hj=>h j (List.mem_cons_of_mem _ hj)
  have hi:=h i (List.mem_cons_self ..)
  have hx: ∃a:UInt64,(feV x)[i]?=some (u64v a):=by
   have:i=0\/i=1\/i=2\/i=3\/i=4:=by omega
   rcases this with rfl |rfl |rfl |rfl |rfl<;>exact⟨_,rfl⟩
  have hy: ∃a:UInt64,(feV y)[i]?=some (u64v a):=by
   have:i=0\/i=1\/i=2\/i=3\/i=4:=by omega
   rcases this with rfl |rfl |rfl |rfl |rfl<;>exact⟨_,rfl⟩
  obtain⟨a,ha⟩:=hx
  obtain⟨b,hb⟩:=hy
  simp only[Op.eqItems,Sem.run_bind,Nat.mul_one,z9v x i _ w ha,z9v y i _ w hb,Result.andThen_ok,run_equalIn_int w d 43 .u64 .u64 _ _ (show Tryz.prog.underlying 43=some (.int .u64)by kernel_rfl)]
  by_cases hab:(a.toNat:Int)=(b.toNat:Int)
  ·have e:(feV x)[i]?=(feV y)[i]?:=by rw[ha,hb,u64v,u64v,hab]
   exact⟨r,by simp[hab,ih],by rw[hr];simp[e]⟩
  ·have e: ¬(feV x)[i]?=(feV y)[i]?:=by
    rw[ha,hb]
    intro e
    injection e with e
    injection e with _ e
    exact hab e
   exact⟨false,by simp[hab],by simp[e]⟩
theorem zizb(x y:Fe)(w:World)(dd:Nat):(Op.equalIn (dd+2) 178 (.agg (feV x)) (.agg (feV y))).run aP w= .ok (feEq x y) w:=by
 obtain⟨r,hr,hiff⟩:=zw2 x y w dd (List.range 5) (λi hi=>List.mem_range.1 hi)
 have hi: ∃i,Tryz.prog.info? 43=some i:=by
  obtain⟨q,hq⟩:=Tab_ok.get (show tget Tab 43=some _ from rfl)
  obtain⟨i,hi,_⟩:=q.info
  rw[hq]at hi
  exact⟨i,hi⟩
 obtain⟨i,hi⟩:=hi
 have harr:=run_equalIn_array (P:=Tryz.prog) w (dd+1) (feV x) (feV y) (show Tryz.prog.underlying 178=some (.array 5 43)by kernel_rfl) hi
 have hcells:Tryz.prog.cellsOf 43=1:=by kernel_rfl
 rw[hcells,hr]at harr
 have hre:r=feEq x y:=by
  have h5:(∀i∈List.range 5,(feV x)[i]?=(feV y)[i]?)↔(x.a=y.a/\x.b=y.b/\x.c=y.c/\x.d=y.d/\x.e=y.e):=by
   have hin: ∀a b:UInt64,some (u64v a)=some (u64v b)->a=b:=λa b e=>by
    simp only[u64v,Option.some.injEq,Value.int.injEq,true_and]at e
    exact UInt64.toNat_inj.1 (Int.ofNat_inj.1 e)
   constructor
   ·intro h
    exact⟨hin _ _ (h 0 (by simp)),hin _ _ (h 1 (by simp)),hin _ _ (h 2 (by simp)),hin _ _ (h 3 (by simp)),hin _ _ (h 4 (by simp))⟩
   ·rintro⟨h0,h1,h2,h3,h4⟩ i _
    simp only[feV,h0,h1,h2,h3,h4]
  rw[h5]at hiff
  unfold feEq
  cases r
  ·exact(decide_eq_false (λh=>by have:=hiff.2 h;cases this)).symm
  ·exact(decide_eq_true (hiff.1 rfl)).symm
 rw[<-hre]
 exact harr
theorem zbcb: ∃f,(Tryz.prog.fieldsOf 180).toList=[f]/\f.type=178/\f.offset=0/\f.name≠ "_" :=by
 obtain⟨q,hq⟩:=Tab_ok.get (show tget Tab 180=some _ from rfl)
 obtain⟨d,hdd,hko,_⟩:=q.desc
 rw[hq,zrd]at hdd
 injection hdd with hdd
 subst hdd
 obtain⟨fields,e,hfl⟩:=hko
 injection e with e
 rw[<-e]at hfl
 have hn:((Tryz.prog.fieldsOf 180).toList.all λf=> !(f.name== "_"))=true:=by kernel_rfl
 generalize (Tryz.prog.fieldsOf 180).toList=l at*
 have hlen:=congrArg List.length hfl
 rw[List.length_map]at hlen
 obtain⟨f,rfl⟩:=List.length_eq_one_iff.1 hlen
 simp only[List.map_cons,List.map_nil,List.cons.injEq,Prod.mk.injEq,and_true]at hfl
 simp only[List.all_cons,List.all_nil,Bool.and_true,Bool.not_eq_true',beq_eq_false_iff_ne]at hn
 exact⟨f,rfl,hfl.2,hfl.1,hn⟩
theorem zm8b(x y:Fe)(w:World):(binOp .eql 180 (.agg (feV x)) (.agg (feV y))).run aP w= .ok (.bool (feEq x y)) w:=by
 obtain⟨f,hf,ht,ho,hn⟩:=zbcb
 rw[run_eql_struct,run_equalIn_agg w 9999 _ _ _ zrd (by kernel_rfl),hf]
 have h1:=z2r x w
 have h2:=z2r y w
 have h3:=zizb x y w 9997
 simp only[Op.eqFields,ne_eq,hn,not_false_eq_true,if_true,ht,ho,Sem.run_bind,h1,h2,Result.andThen_ok]
 rw[h3]
 simp only[Result.andThen_ok]
 cases feEq x y<;>simp
section
theorem Vfun.eqFe{S:St}{o:Oper}{p q:Operand}{t2:TypeId}{x y:Fe}{K:RV->Prop}(hop:o.op= .binOp .eql 180 p q t2)(hx:opr S p=some (.r (.ag x.v)))(hy:opr S q=some (.r (.ag y.v)))(hK:K (.b (feEq x y))):Vfun aP S o [p,q] K:=by
 refine⟨[.ag x.v, .ag y.v],by simp only[oprs,hx,hy,St.rv],_,λa w k h=>?_,hK⟩
 obtain⟨u,v,e,h1,h2⟩:=znz h
 have e1:=z67 h1
 have e2:=z67 h2
 simp only[List.map_cons,List.map_nil,List.cons.injEq,and_true]at e
 refine⟨.bool (feEq x y),?_,by simp only[RV.at_]⟩
 simp[execOp,hop,e.1,e.2,e1,e2,run_eqGuard_agg (P:=Tryz.prog) w .eql 180 p q _ _ (by kernel_rfl),zm8b x y w]
def zbu(x y:Fe):Bool:=feEq x.least y.least
theorem zkq(x y:Fe):aG 356 [.ag x.v, .ag y.v] (.r (.b (zbu x y))):=by
 refine aT Tryz.func356 rfl ?_
 refine aV ?_
 refine za rfl rfl ?_
 refine ze (zkp x) ?_
 refine za rfl rfl ?_
 refine ze (zkp y) ?_
 refine Vfun.eqFe (x:=x.least) (y:=y.least) rfl rfl rfl ?_
 exact cr
def zj4(a x:Fe):Fe×Bool:=cond (zbu (x.mul x) a) (cond x.odd (Fe.sub ⟨0,0,0,0,0⟩ x,true) (x,true)) (⟨0,0,0,0,0⟩,false)
def zbt(a:Fe):Fe:=a.pow (powE 254 15)
def zib(a:Fe):Fe:=(zbt a).mul ((numF 2).pow (powE 251 31))
def zcp(a:Fe):Fe:=cond (zbu ((zbt a).mul (zbt a)) a) (zbt a) (zib a)
def za5(a:Fe):Fe×Bool:=zj4 a (zcp a)
set_option maxHeartbeats 1000000 in
theorem zjxb(a:Fe):aG 331 [.ag a.v] (.r (.tu [.ag (za5 a).1.v, .b (za5 a).2])):=by
 refine aT Tryz.func331 rfl ?_
 refine aV ?_
 refine za rfl rfl ?_
 refine ze (ztd 254 15) ?_
 refine ze (z47 a (powE 254 15) (by rw[zqp];omega)) ?_
 have hX:a.pow (powE 254 15)=zbt a:=by rw[zbt]
 rw[hX]
 have hZ:zcp a=cond (zbu ((zbt a).mul (zbt a)) a) (zbt a) (zib a):=by rw[zcp]
 have hY:zib a=(zbt a).mul ((numF 2).pow (powE 251 31)):=by rw[zib]
 generalize zbt a=x at*
 generalize zib a=y at*
 refine aV ?_
 refine za rfl rfl ?_
 refine ze (zds x) ?_
 refine za rfl rfl ?_
 refine ze (zkq (x.mul x) a) ?_
 refine⟨_,rfl,?_⟩
 refine⟨λh=>?_,λh=>?_⟩
 ·have e1:zbu (x.mul x) a=false:=by simpa using h
  have hr:zcp a=y:=by rw[hZ,e1];rfl
  refine aV ?_
  refine za rfl rfl ?_
  refine ze h_n2 ?_
  refine ze (ztd 251 31) ?_
  refine ze (z47 (numF 2) (powE 251 31) (by rw[zqp];omega)) ?_
  refine ze (zbh x ((numF 2).pow (powE 251 31))) ?_
  rw[<-hY]
  refine aV ?_
  refine za rfl rfl ?_
  refine ze (zds y) ?_
  refine za rfl rfl ?_
  refine ze (zkq (y.mul y) a) ?_
  refine⟨_,rfl,?_⟩
  refine⟨λh2=>?_,λh2=>?_⟩
  ·have e2:zbu (y.mul y) a=false:=by simpa using h2
   have e:za5 a=(⟨0,0,0,0,0⟩,false):=by rw[za5,hr,zj4,e2];rfl
   rw[e]
   refine za rfl rfl ?_
   exact⟨_,rfl,cr⟩
  ·have e2:zbu (y.mul y) a=true:=by simpa using h2
   refine za rfl rfl ?_
   refine ze (z42 y) ?_
   refine⟨λh3=>?_,λh3=>?_⟩
   ·have e:za5 a=(Fe.sub ⟨0,0,0,0,0⟩ y,true):=by rw[za5,hr,zj4,e2,h3];rfl
    rw[e]
    refine za rfl rfl ?_
    refine ze (zwc y) ?_
    refine za rfl rfl ?_
    refine za rfl rfl ?_
    exact⟨_,rfl,cr⟩
   ·have e:za5 a=(y,true):=by rw[za5,hr,zj4,e2,h3];rfl
    rw[e]
    refine za rfl rfl ?_
    refine za rfl rfl ?_
    exact⟨_,rfl,cr⟩
 ·have e1:zbu (x.mul x) a=true:=by simpa using h
  have hr:zcp a=x:=by rw[hZ,e1];rfl
  refine aV ?_
  refine za rfl rfl ?_
  refine ze (zds x) ?_
  refine za rfl rfl ?_
  refine ze (zkq (x.mul x) a) ?_
  refine⟨_,rfl,?_⟩
  refine⟨λh2=>?_,λh2=>?_⟩
  ·have e2:zbu (x.mul x) a=false:=by simpa using h2
   have e:za5 a=(⟨0,0,0,0,0⟩,false):=by rw[za5,hr,zj4,e2];rfl
   rw[e]
   refine za rfl rfl ?_
   exact⟨_,rfl,cr⟩
  ·have e2:zbu (x.mul x) a=true:=by simpa using h2
   refine za rfl rfl ?_
   refine ze (z42 x) ?_
   refine⟨λh3=>?_,λh3=>?_⟩
   ·have e:za5 a=(Fe.sub ⟨0,0,0,0,0⟩ x,true):=by rw[za5,hr,zj4,e2,h3];rfl
    rw[e]
    refine za rfl rfl ?_
    refine ze (zwc x) ?_
    refine za rfl rfl ?_
    refine za rfl rfl ?_
    exact⟨_,rfl,cr⟩
   ·have e:za5 a=(x,true):=by rw[za5,hr,zj4,e2,h3];rfl
    rw[e]
    refine za rfl rfl ?_
    refine za rfl rfl ?_
    exact⟨_,rfl,cr⟩
attribute [irreducible] za5
end
section
def zbq(y:Fe):Fe:=((y.mul y).sub one).mul ((dC.mul (y.mul y)).add one).inv
theorem zbeb(y:Fe):((y.mul y).sub one).mul ((dC.mul (y.mul y)).add one).inv=zbq y:=rfl
attribute [irreducible] zbq
theorem z7y(y:Fe):aG 214 [.ag y.v] (.r (.tu [.ag (za5 (zbq y)).1.v, .b (za5 (zbq y)).2])):=by
 refine aT Tryz.func214 rfl ?_
 refine za rfl rfl ?_
 refine ze (zds y) ?_
 refine aV ?_
 refine za rfl rfl ?_
 refine ze zlw ?_
 refine ze (zha (y.mul y) one) ?_
 refine ze h_d ?_
 refine za rfl rfl ?_
 refine ze (zbh dC (y.mul y)) ?_
 refine ze zlw ?_
 refine ze (zfq (dC.mul (y.mul y)) one) ?_
 refine ze (zot ((dC.mul (y.mul y)).add one)) ?_
 refine ze (zbh ((y.mul y).sub one) ((dC.mul (y.mul y)).add one).inv) ?_
 rw[zbeb]
 refine ze (zjxb (zbq y)) ?_
 refine za rfl rfl ?_
 exact⟨_,rfl,cr⟩
def baseY:Fe:=(numF 4).mul (numF 5).inv
theorem za5b:(numF 4).mul (numF 5).inv=baseY:=rfl
attribute [irreducible] baseY
def baseP:Pt:=Pt.of (za5 (zbq baseY)).1 baseY
theorem ztc:aG 124 [] (.r (.ag baseP.v)):=by
 refine aT Tryz.func124 rfl ?_
 refine ze h_n4 ?_
 refine ze h_n5 ?_
 refine ze (zot (numF 5)) ?_
 refine ze (zbh (numF 4) (numF 5).inv) ?_
 rw[za5b]
 refine za rfl rfl ?_
 refine ze (z7y baseY) ?_
 refine za rfl rfl ?_
 refine za rfl rfl ?_
 refine ze (z45 (za5 (zbq baseY)).1 baseY) ?_
 refine za rfl rfl ?_
 exact cr
attribute [irreducible] baseP
end
section
theorem znab{l:List UInt64}{j:Nat}(h:j<l.length):(l.map W)[j*1]?=some (W (l.getD j 0)):=by
 rw[Nat.mul_one,List.getElem?_map,List.getElem?_eq_getElem h,List.getD_eq_getElem?_getD,List.getElem?_eq_getElem h]
 rfl
def mL(a b w:UInt64):UInt64:=a*b+w+0
def mIn(a:UInt64)(y:S4)(w:List UInt64)(i:Nat):Nat->List UInt64×UInt64
 |0=>(w,0)
 |k+1=>
  let s:=mIn a y w i k
  let b:=y.l.getD k 0
  let v:=s.1.getD (i+k) 0
  (s.1.set (i+k) (mL a b v+s.2+0),(mulH a b+carW (a*b) v 0)+carW (mL a b v) s.2 0)
theorem zqi(a:UInt64)(y:S4)(w:List UInt64)(i:Nat):mIn a y w i 0=(w,0):=rfl
theorem zl7(a:UInt64)(y:S4)(w:List UInt64)(i k:Nat):mIn a y w i (k+1)=((mIn a y w i k).1.set (i+k) (mL a (y.l.getD k 0) ((mIn a y w i k).1.getD (i+k) 0)+(mIn a y w i k).2+0),(mulH a (y.l.getD k 0)+carW (a*(y.l.getD k 0)) ((mIn a y w i k).1.getD (i+k) 0) 0)+carW (mL a (y.l.getD k 0) ((mIn a y w i k).1.getD (i+k) 0)) (mIn a y w i k).2 0):=rfl
theorem zkx(a:UInt64)(y:S4)(w:List UInt64)(i:Nat): ∀k,(mIn a y w i k).1.length=w.length
 |0=>rfl
 |k+1=>by rw[zl7,List.length_set,zkx a y w i k]
attribute [irreducible] mIn
def mOut(x y:S4):Nat->List UInt64
 |0=>List.replicate 8 0
 |i+1=>(mIn (x.l.getD i 0) y (mOut x y i) i 4).1.set (i+4) (mIn (x.l.getD i 0) y (mOut x y i) i 4).2
theorem zur(x y:S4):mOut x y 0=List.replicate 8 0:=rfl
theorem znu(x y:S4)(i:Nat):mOut x y (i+1)=(mIn (x.l.getD i 0) y (mOut x y i) i 4).1.set (i+4) (mIn (x.l.getD i 0) y (mOut x y i) i 4).2:=rfl
theorem zjb(x y:S4): ∀i,(mOut x y i).length=8
 |0=>by simp[mOut]
 |i+1=>by rw[znu,List.length_set,zkx,zjb x y i]
attribute [irreducible] mOut
def S4.mul(x y:S4):S4:=zir (mOut x y 4)
def smO1(x y:S4)(i:Nat):St:={F:=[(3, .own 1),(4, .own 2),(5, .own 3),(16, .r (.ag x.v)),(17, .r (I i))],O:=[(1,some y.bx),(2,some (S4.bx ⟨0,0,0,0⟩)),(3,some (.ch 43 1 8 ((mOut x y i).map W) false))],nx:=4}
def smI1(x y:S4)(i k:Nat):St:={F:=[(3, .own 1),(4, .own 2),(5, .own 3),(16, .r (.ag x.v)),(17, .r (I i)),(6, .r (I i)),(7, .r (W (x.l.getD i 0))),(8, .r (W (mIn (x.l.getD i 0) y (mOut x y i) i k).2)),(22, .r (.ag y.v)),(23, .r (I k))],O:=[(1,some y.bx),(2,some (S4.bx ⟨0,0,0,0⟩)),(3,some (.ch 43 1 8 ((mIn (x.l.getD i 0) y (mOut x y i) i k).1.map W) false))],nx:=4}
theorem zs8:(List.replicate ((8:Int).toNat) ([Value.int .u64 0].map ofC)).flatten=(List.replicate 8 (0:UInt64)).map W:=by simp[ofC]
set_option maxHeartbeats 4000000 in
theorem zgwb(x y:S4):aG 230 [.ag x.v, .ag y.v] (.r (.ag (x.mul y).v)):=by
 refine aT Tryz.func230 rfl ?_
 refine⟨rfl,by decide,by decide,by decide,_,_,rfl,zs8,Vpub.own ?_⟩
 refine za rfl rfl ?_
 refine zy (smO1 x y) (λi=>i<=4) (λi=>4-i) 0 (by omega) (zac [(1,1),(2,2),(3,3)] rfl ⟨rfl,rfl,rfl,cr,cr,trivial⟩ ⟨(aC aZ),(aC aZ),⟨rfl,rfl,rfl,rfl,by rw[zur];exact zn _⟩,trivial⟩) ?_
 intro i hi
 refine zh (λh=>zp ?_) (λh=>zq ?_)
 ·simp only[zb]at h
  have hi':i<4:=by omega
  refine zm (by omega) (by omega) (z5g (l:=x.l) rfl (by show i<4;omega)) ?_
  refine za rfl rfl ?_
  refine zy (smI1 x y i) (λk=>k<=4) (λk=>4-k) 0 (by omega) (zac [(1,1),(2,2),(3,3)] rfl ⟨rfl,rfl,rfl,cr,cr,cr,cr,by rw[zqi];exact cr,cr,cr,trivial⟩ ⟨(aC aZ),(aC aZ),⟨rfl,rfl,rfl,rfl,by rw[zqi];exact zn _⟩,trivial⟩) ?_
  intro k hk
  have hL:(mIn (x.l.getD i 0) y (mOut x y i) i k).1.length=8:=by rw[zkx,zjb]
  refine zh (λh=>zp ?_) (λh=>zq ?_)
  ·simp only[zb]at h
   have hk':k<4:=by omega
   refine zm (by omega) (by omega) (z5g (l:=y.l) rfl (by show k<4;omega)) ?_
   refine ze (ztb (x.l.getD i 0) (y.l.getD k 0)) ?_
   refine zd (m:=((i+k:Nat):Int)) (by omega) (by omega) ?_
   refine Vadr.mk' (i+k) rfl (by omega) ?_
   refine zg (znab (by rw[hL];omega)) ?_
   refine Vcall.ext (zf1 (x.l.getD i 0*y.l.getD k 0) _ 0 (by decide)) ?_
   refine Vint.wadd _ _ rfl rfl ?_
   refine Vcall.ext (zf1 (mL (x.l.getD i 0) (y.l.getD k 0) ((mIn (x.l.getD i 0) y (mOut x y i) i k).1.getD (i+k) 0)) (mIn (x.l.getD i 0) y (mOut x y i) i k).2 0 (by decide)) ?_
   refine zd (m:=((i+k:Nat):Int)) (by omega) (by omega) ?_
   refine Vint.wadd _ _ rfl rfl ?_
   refine Vadr.mk' (i+k) rfl (by omega) ?_
   refine⟨by rw[List.length_map,hL];show(i+k)*1+1<=8;omega,(mIn (x.l.getD i 0) y (mOut x y i) i (k+1)).1.map W,?_,?_⟩
   ·rw[zl7,Nat.mul_one]
    exact zc1 (by rw[hL];omega)
   refine zd (m:=((k+1:Nat):Int)) (by omega) (by omega) ?_
   exact⟨k+1,by omega,by omega,zac [(1,1),(2,2),(3,3)] rfl ⟨rfl,rfl,rfl,cr,cr,cr,cr,by rw[zl7];exact cr,cr,cr,trivial⟩ ⟨(aC aZ),(aC aZ),⟨rfl,rfl,rfl,rfl,zn _⟩,trivial⟩⟩
  ·simp only[zb]at h
   obtain rfl:k=4:=by omega
   refine zd (m:=((i+4:Nat):Int)) (by omega) (by omega) ?_
   refine Vadr.mk' (i+4) rfl (by omega) ?_
   refine⟨by rw[List.length_map,hL];show(i+4)*1+1<=8;omega,(mOut x y (i+1)).map W,?_,?_⟩
   ·rw[znu,Nat.mul_one]
    exact zc1 (by rw[hL];omega)
   refine zd (m:=((i+1:Nat):Int)) (by omega) (by omega) ?_
   exact⟨i+1,by omega,by omega,zac [(1,1),(2,2),(3,3)] rfl ⟨rfl,rfl,rfl,cr,cr,trivial⟩ ⟨(aC aZ),(aC aZ),⟨rfl,rfl,rfl,rfl,zn _⟩,trivial⟩⟩
 ·simp only[zb]at h
  obtain rfl:i=4:=by omega
  have hrd:=zxv (mOut x y 4) (by rw[zjb];omega)
  rw[<-za0b _ _ (zjb x y 4)]at hrd
  refine Vstep.sub (zbd (id:=3) rfl) (Vstep.val Tab_ok (ze hrd ?_))
  refine za rfl rfl ?_
  exact cr
end
end Go.Proofs.YtkegaaonpekkgaaGreat.Sx
