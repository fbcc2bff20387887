import Derived.Test.YtlofklpckddkfaaGreatZGd
import Derived.Test.YtlofklpckddkfaaGreatZMe
import Derived.Test.YtlofklpckddkfaaGreatZPa
import Derived.Test.YtlofklpckddkfaaGreatZIb
import Derived.Test.YtlofklpckddkfaaGreatZTm
import Derived.Test.YtlofklpckddkfaaGreatZTt
import Derived.Shelf.SlSortCmp.WholeK
import Derived.Ground.SlsfProg
import Derived.Shelf.SlicesG.Cmp
import Derived.Ground.SlgcProg
import Derived.Test.YtlofklpckddkfaaGreatZFw
import Derived.Test.YtlofklpckddkfaaGreatZQa
namespace Go.Proofs.YtlofklpckddkfaaGreat.Sx
open Go.RowKit
set_option linter.unusedVariables false
section
abbrev zpu:ByteArray:=⟨#[105,110,105,116]⟩
abbrev zp2:ByteArray:=⟨#[115,105,103,110]⟩
abbrev zPk:List RV:=[nl,nl,nl,nl, .i .u8 0,nl,nl,nl]
def zwi(a b c:List UInt8):RV:= .ag [bs a,bs b,bs c]
def zcq(box sign ident:List UInt8):Leaf:=⟨box,sign,ident,1,[],[]⟩
section
variable (ident seed x1 p1 q1 x2 p2 q2 sg pk:List UInt8) (hs:seed.length=32)
 (c1:zab Tryz.prog 54 [bs seed,Str zpu] (.r (bs x1))) (c2:zab Tryz.prog 113 [bs x1] (.r (.tu [bs p1,bs q1])))
 (c3:zab Tryz.prog 54 [bs seed,Str boxS] (.r (bs x2))) (c4:zab Tryz.prog 113 [bs x2] (.r (.tu [bs p2,bs q2])))
 (c5:zab Tryz.prog 54 [bs seed,Str zp2] (.r (bs sg))) (c6:zab Tryz.prog 262 [bs sg] (.r (.tu [bs pk,Er 0])))
include hs c1 c2 c3 c4 c5 c6
set_option maxHeartbeats 2000000 in
theorem zqv(z tx s2:List UInt8)(o:Leaf)(hz:zS64=z)
  (c7:zab Tryz.prog 114 [.ag (zcq q2 pk ident).c,bs sg,bs [],I 0] (.r (.tu [.ag o.c,Er 0])))
  (c8:zab Tryz.prog 263 [.ag (PackP.c ⟨q1,o,z⟩)] (.r (.tu [bs tx,Er 0])))
  (c9:zab Tryz.prog 109 [bs sg,Str kpS,bs tx] (.r (.tu [bs s2,Er 0]))):
  zab Tryz.prog 156 [bs ident,bs seed] (.r (.tu [.ag (PackP.c ⟨q1,o,s2⟩),zwi p1 p2 sg,Er 0])):=by
 refine zaa (T:=Tab) mixed Tab_ok Tryz.func156 rfl (by kernel_rfl) ?_
 have hzl:64=z.length:=by rw[<-hz];decide
 refine zu (by simp only[zb];omega) (zq ?_)
 refine ze c1 ?_
 refine ze c2 ?_
 refine ze c3 ?_
 refine ze c4 ?_
 refine ze c5 ?_
 refine ze c6 ?_
 refine za rfl rfl ?_
 refine Vcall.mk' c7 (zk (Cv.ag (zk (cr) (zk (cr) (zk (cr) (zk (cr) (zk (Cv.nil 1) (zk (Cv.nil 1) Cvs.nil))))))) (zk (cr) (zk (Cv.nil 1) (zn _)))) ?_
 refine zu rfl (zq ?_)
 refine Vdraw.mk' (by kernel_rfl) ?_
 refine za rfl rfl ?_
 refine⟨rfl,by decide,by decide,by decide,z.length,z.map U8,hzl,by rw[zgw,hz],zw ?_⟩
 refine za rfl rfl ?_
 refine ze c8 ?_
 refine ze c9 ?_
 refine Vdraw.mk' (by kernel_rfl) ?_
 refine za rfl rfl ?_
 refine za rfl rfl ?_
 refine za rfl rfl ?_
 refine za rfl rfl ?_
 exact⟨_,rfl,cr⟩
set_option maxHeartbeats 2000000 in
theorem zpm(e:Nat)(he:e≠0)(he2:e<256)
  (c7:zab Tryz.prog 114 [.ag (zcq q2 pk ident).c,bs sg,bs [],I 0] (.r (.tu [.ag zl.c,Er e]))):
  zab Tryz.prog 156 [bs ident,bs seed] (.r (.tu [.ag zPk, .ag [nl,nl,nl],Er e])):=by
 refine zaa (T:=Tab) mixed Tab_ok Tryz.func156 rfl (by kernel_rfl) ?_
 refine zu (by simp only[zb];omega) (zq ?_)
 refine ze c1 ?_
 refine ze c2 ?_
 refine ze c3 ?_
 refine ze c4 ?_
 refine ze c5 ?_
 refine ze c6 ?_
 refine za rfl rfl ?_
 refine Vcall.mk' c7 (zk (Cv.ag (zk (cr) (zk (cr) (zk (cr) (zk (cr) (zk (Cv.nil 1) (zk (Cv.nil 1) Cvs.nil))))))) (zk (cr) (zk (Cv.nil 1) (zn _)))) ?_
 refine zt (by simp only[zb];omega) (zp ?_)
 refine za rfl rfl ?_
 refine za rfl rfl ?_
 exact⟨_,rfl,cr⟩
end
structure PkgV where
 init:List UInt8
 leaf:Leaf
 sig:List UInt8
 a:List UInt8
 b:List UInt8
 c:List UInt8
structure PkgV.ok (v:PkgV):Prop where
 init:v.init.length=32
 box:v.leaf.box.length=32
 sign:v.leaf.sign.length=32
 ident:v.leaf.ident.length<=64
 parent:v.leaf.parent.length=0
 lsig:v.leaf.sig.length=64
 sig:v.sig.length=64
 c:v.c.length=32
 right:v.leaf.right=true
 a:v.a.length=32
 b:v.b.length=32
theorem zx3(ident seed:List UInt8)(hs:seed.length=32)(hi:ident.length<=64):
  (ident.length=0/\zab Tryz.prog 156 [bs ident,bs seed] (.r (.tu [.ag zPk, .ag [nl,nl,nl],Er 3])))\/
  (ident.length≠0/\∃v:PkgV,v.ok/\zab Tryz.prog 156 [bs ident,bs seed] (.r (.tu [.ag (PackP.c ⟨v.init,v.leaf,v.sig⟩),zwi v.a v.b v.c,Er 0]))):=by
 have c1:=zfa seed zpu (by omega) (by decide)
 have h1:=zcp seed (sB zpu) [] (n:=32) (by omega)
 generalize labB seed (sB zpu) [] 32=x1 at c1 h1
 have c2:=zt6 x1 (by omega)
 have k1:=zjv x1
 generalize zkr x1=p1 at c2 k1
 have e1:=zmj p1
 generalize zhl p1=q1 at c2 e1
 have c3:=zfa seed boxS (by omega) (by decide)
 have h2:=zcp seed (sB boxS) [] (n:=32) (by omega)
 generalize labB seed (sB boxS) [] 32=x2 at c3 h2
 have c4:=zt6 x2 (by omega)
 have k2:=zjv x2
 generalize zkr x2=p2 at c4 k2
 have e2:=zmj p2
 generalize zhl p2=q2 at c4 e2
 have c5:=zfa seed zp2 (by omega) (by decide)
 have h3:=zcp seed (sB zp2) [] (n:=32) (by omega)
 generalize labB seed (sB zp2) [] 32=sg at c5 h3
 have c6:=zos sg h3
 have e3:=zr2 sg
 generalize pubS sg=pk at c6 e3
 have c7:=zvy (zcq q2 pk ident) sg [] 0 ⟨by show q2.length<=_;omega,by show pk.length<=_;omega,by show ident.length<=_;omega,by show 0<=_;omega,by show 0<=_;omega⟩ (by decide) (by show q2.length+pk.length+ident.length+0<=_;omega) (by unfold i64;omega)
 have hr:((zcq q2 pk ident).with zS64).right=decide (0<ident.length):=by
  unfold Leaf.right
  refine decide_eq_decide.2 ⟨λh=>h.2.2.1,λh=>⟨e2,e3,h,hi,by show 0< (1:UInt8).toNat;decide,by show(1:UInt8).toNat<4;decide, .inl rfl,rfl⟩⟩
 have ht:ze8 (zcq q2 pk ident) 0=true:=rfl
 by_cases hz:ident.length=0
 ·refine .inl ⟨hz,?_⟩
  have he:zea (zcq q2 pk ident) sg 0=3:=by
   unfold zea
   rw[hr,decide_eq_false (by omega)]
   rfl
  rw[zix,he,if_neg (by decide)]at c7
  exact zpm ident seed x1 p1 q1 x2 p2 q2 sg pk hs c1 c2 c3 c4 c5 c6 3 (by decide) (by decide) c7
 ·refine .inr ⟨hz,?_⟩
  have he:zea (zcq q2 pk ident) sg 0=0:=by
   unfold zea
   rw[hr,decide_eq_true (by omega),if_pos rfl,if_pos ht,if_pos h3]
  rw[zix,if_pos he]at c7
  have hol:(slOk (zcq q2 pk ident) sg [] 0).right=true:=by
   unfold Leaf.right
   refine decide_eq_true ⟨e2,e3,by show 0<ident.length;omega,hi,by show 0< (1:UInt8).toNat;decide,by show(1:UInt8).toNat<4;decide, .inl rfl,zjp _ _ _⟩
  have hsh:(slOk (zcq q2 pk ident) sg [] 0).box.length=32/\(slOk (zcq q2 pk ident) sg [] 0).sign.length=32/\(slOk (zcq q2 pk ident) sg [] 0).ident.length<=64/\(slOk (zcq q2 pk ident) sg [] 0).src=1/\(slOk (zcq q2 pk ident) sg [] 0).parent.length=0/\(slOk (zcq q2 pk ident) sg [] 0).sig.length=64:=⟨e2,e3,hi,rfl,rfl,zjp _ _ _⟩
  generalize slOk (zcq q2 pk ident) sg [] 0=o at c7 hol hsh
  obtain⟨o1,o2,o3,o4,o5,o6⟩:=hsh
  have hzl:zS64.length=64:=by decide
  have hf:PackP.fit ⟨q1,o,zS64⟩:=⟨by show q1.length<=_;omega,⟨by show o.box.length<=_;omega,by show o.sign.length<=_;omega,by show o.ident.length<=_;omega,by show o.parent.length<=_;omega,by show o.sig.length<=_;omega⟩,by show zS64.length<=_;omega⟩
  have c8:=zvv ⟨q1,o,zS64⟩ hf
  have hpr:PackP.right ⟨q1,o,zS64⟩=true:=by
   unfold PackP.right
   rw[show(PackP.mk q1 o zS64).leaf=o from rfl,hol,o4]
   show(decide (q1.length=32)&&(true&&decide ((1:UInt8)=1)&&decide (zS64.length=64)))=true
   rw[decide_eq_true e1,decide_eq_true hzl]
   rfl
  have htl:(zex ⟨q1,o,zS64⟩).length<=500000000:=by
   have hv:=zal q1
   have hL:=zq6 o
   simp only[zex,List.length_append,zay]
   omega
  rw[hpr]at c8
  generalize zex ⟨q1,o,zS64⟩=tx at c8 htl
  have c9:=zt7 sg kpS tx h3 (by decide) htl
  have hs2:=zjp sg (sB kpS) tx
  generalize zpx sg (sB kpS) tx=s2 at c9 hs2
  exact⟨⟨q1,o,s2,p1,p2,sg⟩,⟨e1,o1,o2,o3,o5,o6,hs2,h3,hol,k1,k2⟩,zqv ident seed x1 p1 q1 x2 p2 q2 sg pk hs c1 c2 c3 c4 c5 c6 zS64 tx s2 o rfl c7 c8 c9⟩
end
section
set_option maxRecDepth 20000
section
variable {P:Program} {S:St} {o:Oper} {x y:Operand} {t t2 e:TypeId} {K:RV->Prop}
theorem ztk{w:World}{m:Nat}(hu:P.underlying t=some (.pointer e)):(Op.equalIn (m+1) t (.pointer none) (.pointer none)).run P w= .ok true w:=by simp[Op.equalIn,run_underlying hu w]
theorem zwm{w:World}(hu:P.underlying t=some (.pointer e)):(Op.equal t (.pointer none) (.pointer none)).run P w= .ok true w:=ztk (m:=9999) hu
theorem Vfun.nn(e:TypeId)(hop:o.op= .binOp .eql t x y t2)(hx:opr S x=some (.r (.x (.pointer none))))(hy:opr S y=some (.r (.x (.pointer none))))(hu:P.underlying t=some (.pointer e))(hK:K (.b true)):Vfun P S o [x,y] K:=by
 refine⟨[.x (.pointer none), .x (.pointer none)],by simp only[oprs,hx,hy,St.rv], .b true,λa w k h=>?_,hK⟩
 obtain⟨u,v,e1,h1,h2⟩:=zez h
 simp only[RV.at_]at h1 h2
 subst h1;subst h2
 simp only[List.map_cons,List.map_nil,List.cons.injEq,and_true]at e1
 refine⟨.bool true,?_,by simp only[RV.at_]⟩
 simp[execOp,hop,e1.1,e1.2,eqGuard,binOp,zwm hu]
end
abbrev np:RV:= .x (.pointer none)
abbrev ns:RV:= .x (.slice none 0 0)
theorem zgn:zab Tryz.prog 41 [bs [],bs []] (.r (.b true)):=by
 have h:=zgo [] []
 simpa using h
abbrev nls:List RV:=[ns,ns,ns,ns,ns,ns,ns,ns,ns,ns,ns,ns]
abbrev z3h:List RV:=[ns, .i .u64 0,ns,ns,I 0,ns,ns,ns,ns,ns,ns,ns,ns,ns,ns,ns,ns,ns,ns,ns]
abbrev zsw:List RV:=[ns, .i .u64 0,ns,ns,I 0,ns,ns,ns,ns,ns,ns,ns,ns,ns,ns,ns,ns,ns,ns,ns,I 0,I 0,ns,ns,ns,ns,ns]
abbrev zzy:List RV:=[ns, .i .u64 0,ns,ns,I 0,ns,ns,ns,ns,ns,ns,ns,ns,ns,ns,ns,ns,ns,ns,ns,ns,ns,ns,ns]
theorem nn2{s t:Nat}:Cvs [ns,ns] [.sl s 0 [], .sl t 0 []]:=zk (Cv.nil s) (zk (Cv.nil t) Cvs.nil)
theorem z4u:zab Tryz.prog 12 [.ag [ns, .i .u64 0,ns,ns], .ag [ns, .i .u64 0,ns,ns]] (.r (.b true)):=by
 refine zaa (T:=Tab) mixed Tab_ok Tryz.func12 rfl (by kernel_rfl) ?_
 refine Vcall.mk' zgn nn2 ?_
 refine zt rfl ?_
 refine Vcall.mk' zgn nn2 ?_
 refine Vcall.mk' zgn nn2 ?_
 exact cr
theorem zyf:zab Tryz.prog 375 [.sl 1 12 nls, .sl 1 12 nls] (.r (.b true)):=by
 refine zaa (T:=Tab) mixed Tab_ok Tryz.func375 rfl (by kernel_rfl) ?_
 refine zu rfl (zq ?_)
 refine zy (λi:Nat=>⟨[(0, .r (.sl 1 12 nls)),(1, .r (.sl 1 12 nls)),(5, .r (I i))],[],0⟩) (λi=>i<=12) (λi=>12-i) 0 (by omega) (zad [] rfl ⟨cr,cr,cr,trivial⟩ trivial) ?_
 intro i hi
 refine zh (λh=>zp ?_) (λh=>zq ?_)
 ·simp only[zb]at h
  have h1:i<12:=by omega
  have hc:(nls.drop ((i:Int).toNat*1)).take 1=[ns]:=by
   rw[Int.toNat_natCast,Nat.mul_one]
   have:i=0\/i=1\/i=2\/i=3\/i=4\/i=5\/i=6\/i=7\/i=8\/i=9\/i=10\/i=11:=by omega
   rcases this with rfl |rfl |rfl |rfl |rfl |rfl |rfl |rfl |rfl |rfl |rfl |rfl<;>rfl
  refine Vdraw.mk' (by kernel_rfl) ?_
  refine zm (by omega) (by omega) hc (zg rfl ?_)
  refine zm (by omega) (by omega) hc (zg rfl ?_)
  refine Vcall.mk' zgn nn2 ?_
  refine zu rfl (zq ?_)
  refine zd (m:=((i+1:Nat):Int)) (by omega) (by omega) ?_
  exact⟨i+1,by omega,by omega,zad [] rfl ⟨cr,cr,cr,trivial⟩ trivial⟩
 ·exact cr
theorem ztb:zab Tryz.prog 257 [.ag nls, .ag nls] (.r (.b true)):=by
 refine zaa (T:=Tab) mixed Tab_ok Tryz.func257 rfl (by kernel_rfl) ?_
 refine zw ?_
 refine zw ?_
 refine ze zyf ?_
 exact cr
theorem zv0:zab Tryz.prog 376 [ns,ns] (.r (.b true)):=by
 refine zaa (T:=Tab) mixed Tab_ok Tryz.func376 rfl (by kernel_rfl) ?_
 refine zu rfl (zq ?_)
 refine Vloop.rounds 1 (Vrounds.step mixed Tab_ok ?_)
 refine zu rfl (zq ?_)
 exact cr
theorem z04:zab Tryz.prog 258 [ns,ns] (.r (.b true)):=by
 refine zaa (T:=Tab) mixed Tab_ok Tryz.func258 rfl (by kernel_rfl) ?_
 refine ze zv0 ?_
 exact cr
theorem z05:zab Tryz.prog 152 [.ag z3h, .ag z3h] (.r (.b true)):=by
 refine zaa (T:=Tab) mixed Tab_ok Tryz.func152 rfl (by kernel_rfl) ?_
 refine za rfl rfl ?_
 refine za rfl rfl ?_
 refine ze z4u ?_
 refine zt rfl ?_
 refine Vcall.mk' zgn nn2 ?_
 refine Vcall.mk' zgn nn2 ?_
 refine za rfl rfl ?_
 refine za rfl rfl ?_
 refine ze ztb ?_
 refine ze z04 ?_
 exact cr
theorem zv1:zab Tryz.prog 153 [ns,ns] (.r (.b true)):=by
 refine zaa (T:=Tab) mixed Tab_ok Tryz.func153 rfl (by kernel_rfl) ?_
 refine zu rfl (zq ?_)
 refine Vloop.rounds 1 (Vrounds.step mixed Tab_ok ?_)
 refine zu rfl (zq ?_)
 exact cr
theorem zv2:zab Tryz.prog 71 [.ag zzy, .ag zzy] (.r (.b true)):=by
 refine zaa (T:=Tab) mixed Tab_ok Tryz.func71 rfl (by kernel_rfl) ?_
 refine za rfl rfl ?_
 refine za rfl rfl ?_
 refine ze z05 ?_
 refine zu rfl ?_
 refine ze zv1 ?_
 refine zu rfl ?_
 refine Vcall.mk' zgn nn2 ?_
 refine zu rfl ?_
 refine zu rfl ?_
 refine zu rfl (zq ?_)
 refine Vloop.rounds 1 (Vrounds.step mixed Tab_ok ?_)
 refine zu rfl (zq ?_)
 refine Vloop.rounds 1 (Vrounds.step mixed Tab_ok ?_)
 refine zu rfl (zq ?_)
 exact cr
theorem zv3:zab Tryz.prog 21 [.ag zsw, .ag zsw] (.r (.b true)):=by
 refine zaa (T:=Tab) mixed Tab_ok Tryz.func21 rfl (by kernel_rfl) ?_
 refine za rfl rfl ?_
 refine za rfl rfl ?_
 refine za rfl rfl ?_
 refine za rfl rfl ?_
 refine ze zv2 ?_
 refine za rfl rfl ?_
 refine za rfl rfl ?_
 have h:=z0k ⟨0,0,[],[]⟩ ⟨0,0,[],[]⟩ (by decide) (by decide) (by decide) (by decide) (λx h=>by cases h) (λx h=>by cases h)
 have e:decide ((⟨0,0,[],[]⟩:Lean_)=⟨0,0,[],[]⟩)=true:=decide_eq_true rfl
 rw[e]at h
 have c:Cv (.ag [I 0,I 0,ns,ns]) (.ag (Lean_.c ⟨0,0,[],[]⟩)):=Cv.ag (zk (cr) (zk (cr) (zk (Cv.nil 11) (zk (Cv.nil 2) Cvs.nil))))
 refine Vcall.mk' h (zk c (zk c Cvs.nil)) ?_
 exact cr
end
section
section
variable {P:Program} {S:St} {o:Oper} {x y:Operand} {t t2 e:TypeId} {K:RV->Prop}
theorem Vfun.pn(e:TypeId){cells:List RV}(hop:o.op= .binOp .eql t x y t2)(hx:opr S x=some (.r (.ptr cells)))(hy:opr S y=some (.r (.x (.pointer none))))(hu:P.underlying t=some (.pointer e))(hK:K (.b false)):Vfun P S o [x,y] K:=by
 refine⟨[.ptr cells, .x (.pointer none)],by simp only[oprs,hx,hy,St.rv], .b false,λa w k h=>?_,hK⟩
 obtain⟨u,v,e1,h1,h2⟩:=zez h
 simp only[RV.at_]at h1 h2
 obtain⟨b,q,rfl,_⟩:=h1
 subst h2
 simp only[List.map_cons,List.map_nil,List.cons.injEq,and_true]at e1
 refine⟨.bool false,?_,by simp only[RV.at_]⟩
 simp[execOp,hop,e1.1,e1.2,eqGuard,binOp,zhg _ hu]
end
abbrev aO(l:List (List UInt8)):List (Nat×Ow):=[(0, .ch 22 1 l.length (l.map bs) false)]
def hash1(lf:Leaf):List UInt8:=shaB (zer 0 (L1 lf))
theorem zyi(lf:Leaf):(hash1 lf).length=32:=zdg _
theorem z4b(v:Value)(lf:Leaf)(hlf:lf.fit):Acts Tryz.prog 203 1 (aO [[]]) [.r (nods [L1 lf]), .r (I 0), .own 0] [(0,v)] 1 (aO [hash1 lf]) (.r (bs (hash1 lf))):=by
 refine zbf (T:=Tab) mixed Tab_ok Tryz.func203 rfl (by kernel_rfl) rfl ⟨⟨_,_,rfl,rfl,zyv (Nat.succ_pos _),zyv (Nat.succ_pos _)⟩,trivial⟩ ?_
 have ht:=zk7 0 (L1 lf) (zen hlf)
 have hl:=zo0 0 (L1 lf) (zen hlf)
 unfold hash1
 generalize zer 0 (L1 lf)=q at ht hl
 generalize zrj 0 (L1 lf)=e at ht
 have hs:=zqq (zkk [q] (by simp;omega))
 have e1:([q]:List (List UInt8)).flatMap id=q:=by simp
 rw[e1]at hs
 generalize shaB q=h at hs
 refine⟨by decide,0,by decide,?_⟩
 refine zt rfl (zp ?_)
 refine⟨by decide,0,by decide,?_⟩
 refine zm i00 i01 (idx0 lf) ?_
 refine za rfl rfl ?_
 refine ze ht ?_
 refine zw ?_
 refine ze hs ?_
 refine Vadr.mk' 0 rfl (by decide) ?_
 refine⟨by decide,[bs h],rfl,?_⟩
 refine Vadr.mk' 0 rfl (by decide) ?_
 refine zg rfl ?_
 exact zba (.inl rfl) [(0,0)] [(6, .r (bs h))] [] rfl (by repeat' (first |exact rfl |exact trivial |exact cr |exact Cv.nil _ |exact⟨rfl,rfl⟩ |refine⟨_,_,rfl,?_,?_⟩ |refine⟨?_,?_⟩)) (by repeat' (first |exact rfl |exact trivial |exact cr |exact Cv.nil _ |exact⟨rfl,rfl⟩ |refine⟨_,_,rfl,?_,?_⟩ |refine⟨?_,?_⟩)) ⟨⟨1000000,rfl⟩,trivial⟩ (cr)
theorem zxt(lf:Leaf)(hlf:lf.fit)(hlr:lf.right=true):zab Tryz.prog 100 [nods [L1 lf]] (.r (.tu [bss [hash1 lf],Er 0])):=by
 refine zax (T:=Tab) mixed Tab_ok Tryz.func100 rfl (by kernel_rfl) ?_
 refine ze (zqy lf hlf hlr) ?_
 refine zu rfl (zq ?_)
 refine⟨rfl,(by show(0:Int)<=((1:Nat):Int);decide),(by show((1:Nat):Int).toNat*24<=140737488355328;decide),(by show((1:Nat):Int).toNat<=maxLen;decide),1,[nl],rfl,rfl,Vpub.own ?_⟩
 refine⟨by decide,0,(by show(0:Int)=IntKind.i64.wrap (((1:Nat):Int).tdiv 2);decide),?_⟩
 have hf:=λv=>z4b v lf hlf
 generalize hash1 lf=h at hf
 refine zj [(0,0)] [0] (λvs _=>hf (vs 0)) (zi rfl ⟨_,_,rfl,cr,_,_,rfl,cr,_,_,rfl,rfl,rfl⟩) rfl (by repeat' (first |exact rfl |exact trivial |exact cr |exact Cv.nil _ |exact⟨rfl,rfl⟩ |refine⟨_,_,rfl,?_,?_⟩ |refine⟨?_,?_⟩)) ⟨za4,trivial⟩ ?_
 refine⟨_,zbe (id:=0) rfl,?_⟩
 exact⟨_,rfl,cr⟩
theorem z4s(lf:Leaf)(hlf:lf.fit)(hlr:lf.right=true):zab Tryz.prog 37 [nods [L1 lf]] (.r (.tu [bs (hash1 lf),Er 0])):=by
 refine zaa (T:=Tab) mixed Tab_ok Tryz.func37 rfl (by kernel_rfl) ?_
 refine ze (zxt lf hlf hlr) ?_
 refine zu rfl (zq ?_)
 refine⟨by decide,0,(by show(0:Int)=IntKind.i64.wrap (((1:Nat):Int).tdiv 2);decide),?_⟩
 refine zm i00 i01 rfl ?_
 refine zg rfl ?_
 exact⟨_,rfl,cr⟩
abbrev stR(v:ViewP)(o:Leaf)(sg:List UInt8):List RV:=[bs v.ctx.group, .i .u64 v.ctx.epoch,bs v.ctx.tree,bs v.ctx.trans,I v.own,bs v.interim,bs v.tag,bs v.sec.jn,bs v.sec.wl,bs v.sec.ep,bs v.sec.sd,bs v.sec.en,bs v.sec.ex,bs v.sec.au,bs v.sec.xt,bs v.sec.cf,bs v.sec.mb,bs v.sec.rs,bs v.sec.it,keyR [v.key],nods [L1 o],bs sg,ns,ns]
theorem z0t(v:ViewP)(o:Leaf)(sg:List UInt8)(hv:v.sm)(ho:o.fit)(hs:sg.length<=1000000):zab Tryz.prog 107 [.ag (stR v o sg)] (.r (.ag (stR v o sg))):=by
 refine zaa (T:=Tab) mixed Tab_ok Tryz.func107 rfl (by kernel_rfl) ?_
 have c1:=zvp v hv
 have c2:=z38 o ho
 refine Vdraw.mk' (by kernel_rfl) ?_
 refine za rfl rfl ?_
 refine ze c1 ?_
 refine ze c2 ?_
 refine ze (zbt sg (by omega)) ?_
 refine Vloop.rounds 1 (Vrounds.step mixed Tab_ok ?_)
 refine zu rfl (zq ?_)
 refine Vloop.rounds 1 (Vrounds.step mixed Tab_ok ?_)
 refine zu rfl (zq ?_)
 refine za rfl rfl ?_
 refine za rfl rfl ?_
 exact cr
abbrev grR(v:ViewP)(o:Leaf)(sg:List UInt8):List RV:=[bs v.ctx.group, .i .u64 v.ctx.epoch,bs v.ctx.tree,bs v.ctx.trans,I v.own,bs v.interim,bs v.tag,bs v.sec.jn,bs v.sec.wl,bs v.sec.ep,bs v.sec.sd,bs v.sec.en,bs v.sec.ex,bs v.sec.au,bs v.sec.xt,bs v.sec.cf,bs v.sec.mb,bs v.sec.rs,bs v.sec.it,keyR [v.key],nods [L1 o],bs sg,ns,ns,ns,ns, .i .u64 0,ns,ns,I 0,ns,ns,ns,ns,ns,ns,ns,ns,ns,ns,ns,ns,ns,ns,ns,ns,ns,ns,ns]
theorem z4p(v:ViewP)(o:Leaf)(sg:List UInt8)(hv:v.sm)(ho:o.fit)(hs:sg.length<=1000000):zab Tryz.prog 44 [.ptr (grR v o sg)] (.r (.ag (stR v o sg))):=by
 refine zaa (T:=Tab) mixed Tab_ok Tryz.func44 rfl (by kernel_rfl) ?_
 have c1:=z0t v o sg hv ho hs
 refine Vfun.pn _ rfl rfl rfl Tryz.underlying48 (zq ?_)
 refine za rfl rfl ?_
 refine ze c1 ?_
 refine za rfl rfl ?_
 exact cr
theorem zyg:zab Tryz.prog 108 [] (.r (bs z32)):=by
 refine zaa (T:=Tab) mixed Tab_ok Tryz.func108 rfl (by kernel_rfl) ?_
 refine⟨rfl,by decide,by decide,by decide,_,_,rfl,zs32,zw ?_⟩
 exact cr
theorem zqf(o:Leaf):Cv (.sl 10 1 [.i .u8 1,bs o.box,bs o.sign,bs o.ident,U8 o.src,bs o.parent,bs o.sig,nl,nl,nl]) (nods [L1 o]):=
 Cv.sl (zk (cr) (zk (cr) (zk (cr) (zk (cr) (zk (cr) (zk (cr) (zk (cr) (zk (Cv.nil 1) (zk (Cv.nil 1) (zk (Cv.nil 1) Cvs.nil))))))))))
set_option maxHeartbeats 2000000 in
theorem z0w(id ident seed q1 s2 p1 p2 sg th x z tg it:List UInt8)(o:Leaf)(s:SecP)(hid:id.length<=64)
  (cp:zab Tryz.prog 156 [bs ident,bs seed] (.r (.tu [.ag (PackP.c ⟨q1,o,s2⟩),zwi p1 p2 sg,Er 0])))
  (ct:zab Tryz.prog 37 [nods [L1 o]] (.r (.tu [bs th,Er 0])))
  (cs:zab Tryz.prog 54 [bs seed,Str grpS] (.r (bs x)))
  (cz:zab Tryz.prog 108 [] (.r (bs z)))
  (cn:zab Tryz.prog 131 [bs x,bs z, .ag (CtxP.c ⟨id,0,th,[]⟩)] (.r (.ag s.c)))
  (cg:zab Tryz.prog 132 [.ag s.c,bs []] (.r (bs tg)))
  (ci:zab Tryz.prog 40 [bs [],bs tg] (.r (bs it))):
  zab Tryz.prog 73 [bs id,bs ident,bs seed] (.r (.tu [.ptr (grR ⟨⟨id,0,th,[]⟩,0,it,tg,s,⟨0,p2⟩⟩ o sg),Er 0])):=by
 refine zax (T:=Tab) mixed Tab_ok Tryz.func73 rfl (by kernel_rfl) ?_
 refine zu (by simp only[zb];omega) (zq ?_)
 refine ze cp ?_
 refine zu rfl (zq ?_)
 refine za rfl rfl ?_
 refine zw ?_
 refine ze (zbt id (by omega)) ?_
 refine Vcall.mk' ct (zk (zqf o) Cvs.nil) ?_
 refine Vdraw.mk' (by kernel_rfl) ?_
 refine ze cs ?_
 refine ze cz ?_
 refine za rfl rfl ?_
 refine Vcall.mk' cn (zk (cr) (zk (cr) (zk (Cv.ag (zk (cr) (zk (cr) (zk (cr) (zk (Cv.nil 1) Cvs.nil))))) Cvs.nil))) ?_
 refine za rfl rfl ?_
 refine Vcall.mk' cg (zk (cr) (zk (Cv.nil 1) Cvs.nil)) ?_
 refine Vcall.mk' ci (zk (Cv.nil 1) (zk (cr) Cvs.nil)) ?_
 refine zw ?_
 refine za rfl rfl ?_
 refine⟨_,Sub.trans (zad [(0,6)] (S':=⟨[(6, .own 0),(7, .r (Er 0))],[(0,some (.box ((grR ⟨⟨id,0,th,[]⟩,0,it,tg,s,⟨0,p2⟩⟩ o sg).map TF.r)))],1⟩) rfl (by repeat' (first |exact rfl |exact trivial |exact cr |exact Cv.nil _ |exact⟨rfl,rfl⟩ |refine⟨_,_,rfl,?_,?_⟩ |refine⟨?_,?_⟩)) (by repeat' (first |exact rfl |exact trivial |exact cr |exact Cv.nil _ |exact zqf _ |exact⟨rfl,rfl⟩ |refine⟨_,_,rfl,?_,?_⟩ |refine⟨?_,?_⟩))) (zdo (t:=6) (grR ⟨⟨id,0,th,[]⟩,0,it,tg,s,⟨0,p2⟩⟩ o sg) rfl rfl),?_⟩
 exact⟨_,rfl,cr⟩
end
section
theorem z69(pv:Value)(lf:Leaf):Acts Tryz.prog 160 1 [(0, .box [.r (nods [L1 lf])])] [.r (I 0), .own 0] [(0,pv)] 2 [(0, .box [.r (nods [L1 lf])])] (.r (.tu [.ag (L1 lf).c, .b true])):=by
 refine zbf (T:=Tab) mixed Tab_ok Tryz.func160 rfl (by kernel_rfl) rfl ⟨⟨_,_,rfl,rfl,zaj,zaj⟩,trivial⟩ ?_
 refine zm i00 i01 (idx0 lf) ?_
 refine za rfl rfl ?_
 exact zba (.inl rfl) [(0,0),(1,1)] [(3, .own 1),(4, .r (.b true))] [(1,some (.box ((L1 lf).c.map .r)))] rfl ⟨rfl,cr,⟨rfl,rfl⟩,trivial⟩ ⟨⟨_,_,rfl,cr,rfl⟩,⟨_,_,rfl,cr,_,_,rfl,cr,_,_,rfl,cr,_,_,rfl,cr,_,_,rfl,cr,_,_,rfl,cr,_,_,rfl,cr,_,_,rfl,cr,_,_,rfl,cr,_,_,rfl,cr,rfl⟩,trivial⟩ ⟨⟨1000000,rfl⟩,trivial⟩ (za rfl rfl ⟨_,rfl,cr⟩)
structure VD where
 lf:Leaf
 i:Int
 only:Bool
 p0:Value
 p1:Value
 p2:Value
 p3:Value
 p4:Value
 p5:Value
 p6:Value
 p7:Value
 p8:Value
def VD.fat(c:VD):Value:= .func (.func 160) #[] #[c.p0]
def VD.vis(c:VD):Value:= .func (.func 266) #[] #[c.p3,c.p6,c.p8,c.p4]
def VD.chi(c:VD):Value:= .func (.func 264) #[] #[c.p1,c.p7,c.p2,c.p5]
def VD.mem(c:VD)(A B:List Int)(ok:Bool):List (Nat×Ow):=
 [(0, .box [.r (nods [L1 c.lf])]),(1, .box [.r (I c.i)]),(2, .box [.r (.b c.only)]),(3, .box [.r (.x c.fat)]),(4, .box [.own 9]),(5, .box [.own 10]),(6, .box [.r (.b ok)]),(7, .box [.r (.x c.vis)]),(8, .box [.r (.x c.chi)]),
 (9, .ch 3 1 A.length (A.map I) false),(10, .ch 3 1 B.length (B.map I) false)]
def VD.nms(c:VD):List (Nat×Value):=[(0,c.p0),(1,c.p1),(2,c.p2),(3,c.p3),(4,c.p4),(5,c.p5),(6,c.p6),(7,c.p7),(8,c.p8)]
theorem VD.same(c:VD)(A B A' B':List Int)(ok ok':Bool):zm4 (c.mem A B ok) (c.mem A' B' ok') c.nms:=
 ⟨⟨_,_,rfl,rfl,zaj,zaj⟩,⟨_,_,rfl,rfl,zaj,zaj⟩,⟨_,_,rfl,rfl,zaj,zaj⟩,⟨_,_,rfl,rfl,zaj,zaj⟩,⟨_,_,rfl,rfl,zaj,zaj⟩,⟨_,_,rfl,rfl,zaj,zaj⟩,⟨_,_,rfl,rfl,zaj,zaj⟩,⟨_,_,rfl,rfl,zaj,zaj⟩,⟨_,_,rfl,rfl,zaj,zaj⟩,trivial⟩
set_option maxHeartbeats 2000000 in
theorem VD.visit(c:VD)(A B:List Int)(ok:Bool)(hlf:c.lf.fit)(hA:A.length<=1000000):
  Acts Tryz.prog 266 11 (c.mem A B ok) [.r (I 0), .r (I 0), .r (is []), .own 3, .own 6, .own 8, .own 4] c.nms 11 (c.mem (A++[(0:Int)]) B ok) (.r (.tu [])):=by
 refine zbf (T:=Tab) mixed Tab_ok Tryz.func266 rfl (by kernel_rfl) rfl (c.same _ _ _ _ _ _) ?_
 refine zj [(0,0)] [0] (λvs _=>z69 (vs 0) c.lf) (Handed.clo (fs:=[.r (I _)]) (cs:=[.own 0]) rfl rfl ⟨_,_,rfl,cr,rfl⟩ ⟨_,_,rfl,⟨0,1000000,rfl,rfl⟩,rfl⟩) rfl ⟨⟨_,_,rfl,cr,rfl⟩,trivial⟩ ⟨zac,trivial⟩ ?_
 refine zu rfl (zq ?_)
 refine zu rfl (zq ?_)
 refine⟨by decide,_,rfl,?_⟩
 refine zu rfl (zq ?_)
 refine zw ?_
 refine Vapp.mk' (j:=(A++[(0:Int)]).length) (zs:=(A++[(0:Int)]).map I) (by simp only[maxLen,List.length_append];omega) (by simp;omega) (by rw[List.length_append (bs:=[_])];rfl) (List.map_append (f:=I) (l₁:=A) (l₂:=[(0:Int)])).symm ?_
 refine⟨by decide,_,rfl,?_⟩
 refine zu rfl (zq ?_)
 exact zba (.inr rfl) [(0,0),(1,1),(2,2),(3,3),(4,4),(5,5),(6,6),(7,7),(8,8),(9,15),(10,10)] [] [] rfl ⟨⟨rfl,rfl⟩,⟨rfl,rfl⟩,⟨rfl,rfl⟩,⟨rfl,rfl⟩,⟨rfl,rfl⟩,⟨rfl,rfl⟩,⟨rfl,rfl⟩,⟨rfl,rfl⟩,⟨rfl,rfl⟩,trivial⟩ ⟨⟨_,_,rfl,cr,rfl⟩,⟨_,_,rfl,cr,rfl⟩,⟨_,_,rfl,cr,rfl⟩,⟨_,_,rfl,cr,rfl⟩,⟨_,_,rfl,rfl,rfl⟩,⟨_,_,rfl,rfl,rfl⟩,⟨_,_,rfl,cr,rfl⟩,⟨_,_,rfl,cr,rfl⟩,⟨_,_,rfl,cr,rfl⟩,⟨rfl,rfl,rfl,rfl,zn _⟩,⟨rfl,rfl,rfl,rfl,zn _⟩,trivial⟩ ⟨⟨1000000,rfl⟩,⟨1000001,rfl⟩,⟨1000002,rfl⟩,⟨1000003,rfl⟩,⟨1000004,rfl⟩,⟨1000005,rfl⟩,⟨1000006,rfl⟩,⟨1000007,rfl⟩,⟨1000008,rfl⟩,trivial⟩ ⟨_,rfl,cr⟩
set_option maxHeartbeats 2000000 in
theorem z0x(lf:Leaf)(hlf:lf.fit)(p0:Value)(i:Int)(only:Bool):
  Acts Tryz.prog 159 1 [(0, .box [.r (nods [L1 lf])])] [.r (I 1), .r (I i), .r (.b only), .r (.x (.func (.func 160) #[] #[p0]))] [(0,p0)] 11 [(0, .box [.r (nods [L1 lf])])] (.r (.tu [is [0],is [], .b true])):=by
 refine zbf (T:=Tab) mixed Tab_ok Tryz.func159 rfl (by kernel_rfl) rfl ⟨⟨_,_,rfl,rfl,zaj,zaj⟩,trivial⟩ ?_
 refine Vstep.nm 1 1000001 rfl λp1=>Vstep.nm 7 1000007 rfl λp7=>Vstep.nm 2 1000002 rfl λp2=>Vstep.nm 5 1000005 rfl λp5=>Vstep.mkfunX [p1,p7,p2,p5] rfl ⟨_,_,rfl,⟨1,1000001,rfl,rfl⟩,_,_,rfl,⟨7,1000007,rfl,rfl⟩,_,_,rfl,⟨2,1000002,rfl,rfl⟩,_,_,rfl,⟨5,1000005,rfl,rfl⟩,rfl⟩ ?_
 refine Vstep.nm 3 1000003 rfl λp3=>Vstep.nm 6 1000006 rfl λp6=>Vstep.nm 8 1000008 rfl λp8=>Vstep.nm 4 1000004 rfl λp4=>Vstep.mkfunX [p3,p6,p8,p4] rfl ⟨_,_,rfl,⟨3,1000003,rfl,rfl⟩,_,_,rfl,⟨6,1000006,rfl,rfl⟩,_,_,rfl,⟨8,1000008,rfl,rfl⟩,_,_,rfl,⟨4,1000004,rfl,rfl⟩,rfl⟩ ?_
 refine Vdraw.cut 3 (by kernel_rfl) ?_
 refine ze (zqp 1) ?_
 have hvis:=VD.visit ⟨lf,i,only,p0,p1,p2,p3,p4,p5,p6,p7,p8⟩ [] [] true hlf (by decide)
 simp only[List.nil_append]at hvis
 refine Vstep.sub (Sub.trans (zb8 false 4 0 3 1 rfl rfl) (zb8 false 5 0 3 1 rfl rfl)) ?_
 refine zj [(0,0),(1,1),(2,2),(3,3),(4,4),(5,5),(6,6),(7,7),(8,8),(9,9),(10,10)] [0,1,2,3,4,5,6,7,8] (λvs hv=>zbn (by simp only[List.map];rw[hv 0 0 1000000 _ rfl rfl,hv 1 1 1000001 _ rfl rfl,hv 2 2 1000002 _ rfl rfl,hv 3 3 1000003 _ rfl rfl,hv 4 4 1000004 _ rfl rfl,hv 5 5 1000005 _ rfl rfl,hv 6 6 1000006 _ rfl rfl,hv 7 7 1000007 _ rfl rfl,hv 8 8 1000008 _ rfl rfl];rfl) hvis) (Handed.clo (fs:=[.r (I _), .r (I _), .r (is [])]) (cs:=[.own 3, .own 6, .own 8, .own 4]) rfl rfl ⟨_,_,rfl,cr,_,_,rfl,cr,_,_,rfl,Cv.nil 1,rfl⟩ ⟨_,_,rfl,⟨3,1000003,rfl,rfl⟩,_,_,rfl,⟨6,1000006,rfl,rfl⟩,_,_,rfl,⟨8,1000008,rfl,rfl⟩,_,_,rfl,⟨4,1000004,rfl,rfl⟩,rfl⟩) rfl ⟨⟨_,_,rfl,cr,rfl⟩,⟨_,_,rfl,cr,rfl⟩,⟨_,_,rfl,cr,rfl⟩,⟨_,_,rfl,cr,rfl⟩,⟨_,_,rfl,rfl,rfl⟩,⟨_,_,rfl,rfl,rfl⟩,⟨_,_,rfl,cr,rfl⟩,⟨_,_,rfl,cr,rfl⟩,⟨_,_,rfl,cr,rfl⟩,⟨rfl,rfl,rfl,rfl,zn _⟩,⟨rfl,rfl,rfl,rfl,zn _⟩,trivial⟩ ⟨zac,zac,zac,zac,zac,zac,zac,zac,zac,za4,za4,trivial⟩ ?_
 refine Vdraw.code (Vcode.float mixed Tab_ok 5 [⟨0,19, .own 9,[]⟩,⟨1,20, .own 10,[]⟩,⟨2,21, .r (.b true),[]⟩] [(3,[0]),(4,[1])] (by kernel_rfl) (F:=[(8, .own 4),(9, .own 5),(10, .own 6),(1000000, .nm 0 p0)]) (O:=[(0,some (.box [.r (nods [L1 lf])])),(4,some (.box [.own 9])),(5,some (.box [.own 10])),(6,some (.box [.r (.b true)])),(9,some (.ch 3 1 1 [I 0] false)),(10,some (.ch 3 1 0 [] false))]) (nx:=11) (zad [(0,0),(4,4),(5,5),(6,6),(9,20),(10,21)] rfl ⟨rfl,rfl,rfl,⟨rfl,rfl⟩,trivial⟩ ⟨⟨_,_,rfl,cr,rfl⟩,⟨_,_,rfl,rfl,rfl⟩,⟨_,_,rfl,rfl,rfl⟩,⟨_,_,rfl,cr,rfl⟩,⟨rfl,rfl,rfl,rfl,zn _⟩,⟨rfl,rfl,rfl,rfl,zn _⟩,trivial⟩) ?_)
 refine⟨rfl,⟨λY=>zo _,λY=>zo _,λY=>zo _,trivial⟩,[(8, .own 4),(9, .own 5),(10, .own 6),(1000000, .nm 0 p0)],(4,some (.box [.own 9]))::[(0,some (.box [.r (nods [L1 lf])])),(4,some (.box [.own 9])),(5,some (.box [.own 10])),(6,some (.box [.r (.b true)])),(9,some (.ch 3 1 1 [I 0] false)),(10,some (.ch 3 1 0 [] false))],11,λY=>zo _,?_⟩
 refine⟨rfl,⟨λY=>zo _,λY=>zo _,λY=>zo _,trivial⟩,[(8, .own 4),(9, .own 5),(10, .own 6),(1000000, .nm 0 p0)],(5,some (.box [.own 10]))::(4,some (.box [.own 9]))::[(0,some (.box [.r (nods [L1 lf])])),(4,some (.box [.own 9])),(5,some (.box [.own 10])),(6,some (.box [.r (.b true)])),(9,some (.ch 3 1 1 [I 0] false)),(10,some (.ch 3 1 0 [] false))],11,λY=>zo _,?_⟩
 refine⟨rfl,⟨λY=>zo _,λY=>zo _,λY=>zo _,trivial⟩,?_⟩
 refine ztz (Sub.trans (zbe (id:=9) rfl) (zbe (id:=10) rfl)) ?_
 exact zba (.inl rfl) [(0,0),(4,4),(5,5),(6,6),(9,9),(10,10)] [(8, .own 4),(9, .own 5),(10, .own 6)] [(4,some (.box [.own 9])),(5,some (.box [.own 10])),(6,some (.box [.r (.b true)])),(9,some (.ch 3 1 1 [I 0] true)),(10,some (.ch 3 1 0 [] true))] rfl ⟨rfl,rfl,rfl,⟨rfl,rfl⟩,trivial⟩ ⟨⟨_,_,rfl,cr,rfl⟩,⟨_,_,rfl,rfl,rfl⟩,⟨_,_,rfl,rfl,rfl⟩,⟨_,_,rfl,cr,rfl⟩,⟨rfl,rfl,rfl,rfl,zn _⟩,⟨rfl,rfl,rfl,rfl,zn _⟩,trivial⟩ ⟨⟨1000000,rfl⟩,trivial⟩ ⟨_,rfl,cr⟩
end
section
open Go.RowKit Go.Sort Go.Shelf
abbrev KeyV:Type:=Int×{v:Value//v.oneCell'=true}
instance :Inhabited KeyV:=⟨(0,⟨.int .i64 0,rfl⟩)⟩
end
section
theorem Vsem.fieldN{P:Program}{T:TT}{S:St}{o:Oper}(hT:TOk P T){t:TypeId}{x:Operand}{i off:Nat}{ft:TypeId}{ti tf:TI}{fs:List (Nat×TypeId)}{cells cs:List RV}{K:TF->Option Ow->Prop}(hop:o.op= .field t x i)(hti:tget T t=some ti)(hk:ti.k= .struct fs)(hfs:lget fs i=some (off,ft))(htf:tget T ft=some tf)(hag:tf.agg=true)
  (hx:opr S x=some (.r (.ag cells))) (hb:off+tf.sz<=cells.length) (hc:(cells.drop off).take tf.sz=cs) (hK:K (.r (.ag cs)) none):Vsem P S o K:=by
 subst hc
 refine⟨_,_,λB N a w k Q ⟨g,hs⟩ hd=>?_,hK⟩
 have hv:=(zaf hs hx).2
 simp only[TF.at_,RV.at_]at hv
 obtain⟨us,e,hl⟩:=hv
 rw[zas]at hfs
 have hul:=(RV.listAt_iff _ _).1 hl
 have hus:off+tf.sz<=us.size:=by rw[<-Array.length_toList,hul.1];exact hb
 obtain⟨q,hq⟩:=hT.get hti
 obtain⟨d,hdd,hko,_⟩:=q.desc
 rw[hq]at hdd
 rw[hk]at hko
 obtain⟨fields,rfl,hfl⟩:=hko
 obtain⟨qf,hqf⟩:=hT.get htf
 have hsize:=zaz (w:=w) qf hqf
 obtain⟨df,hdf,_,hrow⟩:=qf.desc
 rw[hqf]at hdf
 rw[hag]at hrow
 have hagg:(isAgg ft).run P w= .ok true w:=by
  unfold isAgg
  rw[Sem.run_bind,run_underlying hdf w]
  cases df<;>simp_all [TypeDesc.isRow]
 rw[<-hfl,List.getElem?_map]at hfs
 cases hfi:fields.toList[i]? with
 |none=>simp[hfi]at hfs
 |some fd=>
  simp only[hfi,Option.map_some,Option.some.injEq,Prod.mk.injEq]at hfs
  obtain⟨h0,rfl⟩:=hfs
  have hfa:fields[i]?=some fd:=by simpa using hfi
  refine zan (v:= .agg (us.extract off (off+tf.sz))) (w':=w) ?_ ⟨k,g,hs.put hd trivial ?_⟩
  ·simp[execOp,hop,Instr.field,run_underlying hdd w,hfa,e,part,hagg,asAgg,hsize,h0,hus]
  ·simp only[TF.at_,RV.at_]
   refine⟨_,rfl,?_⟩
   rw[Array.toList_extract,List.extract_eq_take_drop,Nat.add_sub_cancel_left]
   exact zbs (zcj hl off) _
end
section
def oneS(n:Node):Lean_:=⟨1,0,[⟨0,n⟩],[]⟩
theorem zwg{n:Node}(hr:n.right=true)(hk:n.kind.toNat=1):sR (oneS n)=true:=by
 have hpar:n.par.late=[]:=by
  unfold Node.right at hr
  rw[if_neg (by omega),if_pos hk]at hr
  simp only[Bool.and_eq_true,Par.none,decide_eq_true_eq]at hr
  exact List.eq_nil_of_length_eq_zero (by omega)
 have hf:zdq 0 n=true:=by
  unfold zdq
  rw[hr,hpar]
  have:zew 0=2:=rfl
  rw[this]
  simp
  omega
 have hl:zgr [⟨0,n⟩] 0=true:=by simp[zgr,za1,hk]
 have hv:visV [⟨0,n⟩] 0 false 0 0 0 []=([0],[],true):=by
  unfold visV
  have:za1 [⟨0,n⟩] ((nd 0 0:Nat):Int)=some n:=by simp[za1,nd]
  rw[this]
  rfl
 unfold sR ascS atsO atsH zc9 oneS
 simp only[List.map_cons,List.map_nil,List.all_cons,List.all_nil]
 have hlog:(1:Int).toNat.log2=0:=rfl
 have hz:(0:Int).toNat=0:=rfl
 rw[show(2*(0:Int))=0 from rfl,hl,hf,hlog]
 simp only[hv]
 have hs1:za7 [0]=[0]:=by simp[za7]
 have hs2:za7 []=[]:=by simp[za7]
 have hf1:zc5 1=true:=by decide
 simp[ascL,hf1,hs1,hs2]
theorem z5b{n:Node}(hf:n.fit):(oneS n).bd:=by
 refine⟨(by show i64 1;unfold i64;decide),(by show i64 0;unfold i64;decide),(by show 1<=1000000;omega),(by show 0<=1000000;omega),λx hx=>?_,λx hx=>(by cases hx),λx hx=>?_,λx hx=>(by cases hx)⟩
 ·rw[List.mem_singleton.1 hx];show i64 0;unfold i64;decide
 ·rw[List.mem_singleton.1 hx];exact hf
end
section
abbrev zc0(lf:Leaf):Lean_:=oneS (L1 lf)
theorem zx0(lf:Leaf):zab Tryz.prog 193 [nods [L1 lf],I 0] (.r (.b true)):=by
 refine zaa (T:=Tab) mixed Tab_ok Tryz.func193 rfl (by kernel_rfl) ?_
 refine zt rfl ?_
 refine ze (zjh lf) ?_
 refine zt rfl ?_
 refine zd (m:=0) rfl (by decide) ?_
 refine zm i00 i01 (idx0 lf) ?_
 refine zg rfl ?_
 refine zt rfl ?_
 exact cr
theorem z03(lf:Leaf)(hlf:lf.fit)(hlr:lf.right=true):zab Tryz.prog 93 [nods [L1 lf],I 0] (.r (.tu [.ag lf.c, .b true])):=by
 refine zaa (T:=Tab) mixed Tab_ok Tryz.func93 rfl (by kernel_rfl) ?_
 refine ze (zqy lf hlf hlr) ?_
 refine zu rfl ?_
 refine ze (zx0 lf) ?_
 refine zu rfl (zq ?_)
 refine zd (m:=0) rfl (by decide) ?_
 refine zm i00 i01 (idx0 lf) ?_
 refine za rfl rfl ?_
 refine ze (zkj (L1 lf) (zen hlf) (zcv _ hlf)) ?_
 refine Vsem.fieldN Tab_ok rfl rfl rfl rfl rfl rfl rfl (Nat.le_of_ble_eq_true rfl) rfl ?_
 refine za rfl rfl ?_
 exact⟨_,rfl,cr⟩
theorem z4m(lf:Leaf)(hlf:lf.fit)(hlr:lf.right=true)(only:Bool):zab Tryz.prog 77 [nods [L1 lf],I 0, .b only] (.r (.tu [(zc0 lf).pr,Er 0])):=by
 refine zax (T:=Tab) mixed Tab_ok Tryz.func77 rfl (by kernel_rfl) ?_
 refine ze (zxt lf hlf hlr) ?_
 refine zu rfl (zq ?_)
 refine ze (z03 lf hlf hlr) ?_
 refine zu rfl (zq ?_)
 refine Vcode.run Tab_ok ?_
 refine zd (m:=2) rfl i2b ?_
 refine⟨by decide,1,by decide,?_⟩
 refine Vstep.mapMk 2000001 rfl λb1=>?_
 refine Vstep.mapMk 2000002 rfl λb2=>?_
 refine Vstep.nm 0 1000000 rfl λp0=>Vstep.mkfunX [p0] rfl ⟨_,_,rfl,⟨0,1000000,rfl,rfl⟩,rfl⟩ ?_
 refine zj [(0,0)] [0] (λvs hv=>zbn (by simp only[List.map];rw[hv 0 0 1000000 _ rfl rfl]) (z0x lf hlf p0 0 only)) (zi rfl ⟨_,_,rfl,cr,_,_,rfl,cr,_,_,rfl,cr,_,_,rfl,cr,rfl⟩) rfl ⟨⟨_,_,rfl,cr,rfl⟩,trivial⟩ ⟨zac,trivial⟩ ?_
 refine Vloop.rounds 2 (Vrounds.step mixed Tab_ok ?_)
 refine zt rfl (zp ?_)
 refine zm i00 i01 rfl ?_
 refine zg rfl ?_
 refine Vdraw.mk' (by kernel_rfl) ?_
 refine zm i00 i01 (idx0 lf) ?_
 refine za rfl rfl ?_
 refine Vstep.mapPut 3 2000001 rfl rfl rfl rfl rfl rfl rfl zhz ziz rfl ?_
 refine zd (m:=1) rfl (by decide) ?_
 refine Vrounds.step mixed Tab_ok ?_
 refine zu rfl (zq ?_)
 refine Vloop.rounds 1 (Vrounds.step mixed Tab_ok ?_)
 refine zu rfl (zq ?_)
 refine za rfl rfl ?_
 refine⟨_,Sub.trans (zfp (id:=1) (i:=2) (im:=3) (gh:=2000001) rfl rfl rfl rfl (by decide)) (zfp (id:=1) (i:=3) (im:=4) (gh:=2000002) rfl rfl rfl rfl (by decide)),?_⟩
 refine za rfl rfl ?_
 exact⟨_,rfl,cr⟩
theorem z4i(lf:Leaf)(hlf:lf.fit)(hlr:lf.right=true):zab Tryz.prog 27 [nods [L1 lf],I 0] (.r (.tu [.ag (zc0 lf).c,Er 0])):=by
 refine zaa (T:=Tab) mixed Tab_ok Tryz.func27 rfl (by kernel_rfl) ?_
 have c2:=z0n 1 0 (zc0 lf).opn [] (by show 1<=1000000;decide) (by decide) (λs hs=>by
  rw[List.mem_singleton.1 hs]
  exact zen hlf) (λs hs=>by
  rw[List.mem_singleton.1 hs]
  exact⟨by show(-9223372036854775808:Int)<=0;decide,by show(0:Int)<=9223372036854775807;decide⟩) (λs hs=>by cases hs) (λs hs=>by cases hs)
 have e:zky 1 0 (zc0 lf).opn []=zc0 lf:=by simp[zky,za7,oneS,putN,za1]
 rw[e]at c2
 refine ze (z4m lf hlf hlr false) ?_
 refine zu rfl (zq ?_)
 refine za rfl rfl ?_
 refine ze c2 ?_
 refine za rfl rfl ?_
 exact⟨_,rfl,cr⟩
end
section
theorem zqo(s:Lean_)(hs:s.fitN)(x:Int)(hx:za1 s.opn x=none):zab Tryz.prog 130 [zju s.leaves s.own s.opn s.shut,I x] (.r (bs (zf7 s.shut x))):=by
 refine zaa (T:=Tab) mixed Tab_ok Tryz.func130 rfl (by kernel_rfl) ?_
 obtain⟨hs1,hs2,hs3,hs4⟩:=id hs
 refine Vstep.node2 rfl rfl rfl (λn hn=>by rw[hx]at hn;cases hn) (λ_=>?_)
 refine zt rfl (zp ?_)
 refine Vstep.hash1 rfl rfl rfl (λm hm=>?_) (λhm=>?_)
 ·obtain⟨e,sp,hsp,_,rfl⟩:=zj3 hm
  have:=hs4 sp hsp
  refine ze (zbt _ (by omega)) ?_
  exact zf (by rw[e];rfl)
 ·refine Vcall.mk' (zbt [] (by simp)) (zk (Cv.nil 1) Cvs.nil) ?_
  exact zf (by rw[zwp hm];rfl)
theorem zqn(s:Lean_)(hs:s.fitN)(k:Nat)(hk:k<65536):zab Tryz.prog 130 [zju s.leaves s.own s.opn s.shut,I (nd 0 k)] (.r (bs (zg1 s 0 k))):=by
 cases hx:za1 s.opn (nd 0 k)with
 |none=>
  have:=zqo s hs (nd 0 k) hx
  have e:zg1 s 0 k=zf7 s.shut (nd 0 k):=by simp[zg1,hx]
  rw[e];exact this
 |some n=>
  have e:zg1 s 0 k=shaB (zer k n):=by simp[zg1,hx]
  rw[e]
  refine zaa (T:=Tab) mixed Tab_ok Tryz.func130 rfl (by kernel_rfl) ?_
  refine Vstep.node2 rfl rfl rfl (λm hm=>?_) (λhm=>by rw[hx]at hm;cases hm)
  rw[hx]at hm
  cases hm
  obtain⟨sp,hsp,_,rfl⟩:=zjd hx
  have hfit:=hs.2.2.1 sp hsp
  refine zu rfl (zq ?_)
  refine⟨by decide,_,rfl,?_⟩
  refine zt (by rw[zft];rfl) (zp ?_)
  refine⟨by decide,(k:Int),?_,?_⟩
  ·rw[zum,Int.tdiv_eq_ediv_of_nonneg (by omega)]
   rw[show(((2*k:Nat):Int))/2=k by omega]
   exact wrap_i64 (by omega)
  refine za rfl rfl ?_
  refine ze (zk7 k sp.node hfit) ?_
  have hle:=zo0 k sp.node hfit
  refine zw ?_
  refine Vcall.mk' (zkk [zer k sp.node] (by simp;omega)) (zk (zf (by rw[bss1]<;>rfl)) Cvs.nil) ?_
  exact zf (by simp[bs])
end
end Go.Proofs.YtlofklpckddkfaaGreat.Sx
