import Derived.Test.YtebhngeddnnpkaaGreatZGd
import Derived.Test.YtebhngeddnnpkaaGreatZMe
import Derived.Test.YtebhngeddnnpkaaGreatZSxS
import Derived.Test.YtebhngeddnnpkaaGreatZSxTu
import Derived.Test.YtebhngeddnnpkaaGreatZTm
import Derived.Test.YtebhngeddnnpkaaGreatZTt
import Derived.Shelf.SlSortCmp.WholeK
import Derived.Ground.SlsfProg
import Derived.Shelf.SlicesG.Cmp
import Derived.Ground.SlgcProg
import Derived.Test.YtebhngeddnnpkaaGreatZFw
import Derived.Test.YtebhngeddnnpkaaGreatZQa
namespace Go.Proofs.YtebhngeddnnpkaaGreat.Sx
open Go.RowKit
set_option linter.unusedVariables false
section
abbrev zp8:ByteArray:=⟨#[105,110,105,116]⟩
abbrev zqg:ByteArray:=⟨#[115,105,103,110]⟩
abbrev zPk:List RV:=[nl,nl,nl,nl, .i .u8 0,nl,nl,nl]
def zm7(a b c:List UInt8):RV:= .ag [bs a,bs b,bs c]
def zce(box sign ident:List UInt8):Leaf:=⟨box,sign,ident,1,[],[]⟩
section
variable (ident seed x1 p1 q1 x2 p2 q2 sg pk:List UInt8) (hs:seed.length=32)
 (c1:zab Tryz.prog 55 [bs seed,Str zp8] (.r (bs x1))) (c2:zab Tryz.prog 58 [bs x1] (.r (.tu [bs p1,bs q1])))
 (c3:zab Tryz.prog 55 [bs seed,Str boxS] (.r (bs x2))) (c4:zab Tryz.prog 58 [bs x2] (.r (.tu [bs p2,bs q2])))
 (c5:zab Tryz.prog 55 [bs seed,Str zqg] (.r (bs sg))) (c6:zab Tryz.prog 59 [bs sg] (.r (.tu [bs pk,Er 0])))
include hs c1 c2 c3 c4 c5 c6
set_option maxHeartbeats 2000000 in
theorem zq5(z tx s2:List UInt8)(o:Leaf)(hz:zS64=z)
  (c7:zab Tryz.prog 60 [.ag (zce q2 pk ident).c,bs sg,bs [],I 0] (.r (.tu [.ag o.c,Er 0])))
  (c8:zab Tryz.prog 61 [.ag (PackP.c ⟨q1,o,z⟩)] (.r (.tu [bs tx,Er 0])))
  (c9:zab Tryz.prog 62 [bs sg,Str kpS,bs tx] (.r (.tu [bs s2,Er 0]))):
  zab Tryz.prog 17 [bs ident,bs seed] (.r (.tu [.ag (PackP.c ⟨q1,o,s2⟩),zm7 p1 p2 sg,Er 0])):=by
 refine zaa (T:=Tab) mixed Tab_ok Tryz.func17 rfl (by kernel_rfl) ?_
 have hzl:64=z.length:=by rw[<-hz];decide
 refine zu (by simp only[zb];omega) (zq ?_)
 refine ze c1 ?_
 refine ze c2 ?_
 refine ze c3 ?_
 refine ze c4 ?_
 refine ze c5 ?_
 refine ze c6 ?_
 refine za rfl rfl ?_
 refine Vcall.mk' c7 (zk (Cv.ag (zk (cr) (zk (cr) (zk (cr) (zk (cr) (zk (Cv.nil 1) (zk (Cv.nil 1) Cvs.nil))))))) (zk (cr) (zk (Cv.nil 1) (zn _)))) ?_
 refine zu rfl (zq ?_)
 refine Vdraw.mk' (by kernel_rfl) ?_
 refine za rfl rfl ?_
 refine⟨rfl,by decide,by decide,by decide,z.length,z.map U8,hzl,by rw[zgz,hz],zw ?_⟩
 refine za rfl rfl ?_
 refine ze c8 ?_
 refine ze c9 ?_
 refine Vdraw.mk' (by kernel_rfl) ?_
 refine za rfl rfl ?_
 refine za rfl rfl ?_
 refine za rfl rfl ?_
 refine za rfl rfl ?_
 exact⟨_,rfl,cr⟩
set_option maxHeartbeats 2000000 in
theorem zps(e:Nat)(he:e≠0)(he2:e<256)
  (c7:zab Tryz.prog 60 [.ag (zce q2 pk ident).c,bs sg,bs [],I 0] (.r (.tu [.ag zl.c,Er e]))):
  zab Tryz.prog 17 [bs ident,bs seed] (.r (.tu [.ag zPk, .ag [nl,nl,nl],Er e])):=by
 refine zaa (T:=Tab) mixed Tab_ok Tryz.func17 rfl (by kernel_rfl) ?_
 refine zu (by simp only[zb];omega) (zq ?_)
 refine ze c1 ?_
 refine ze c2 ?_
 refine ze c3 ?_
 refine ze c4 ?_
 refine ze c5 ?_
 refine ze c6 ?_
 refine za rfl rfl ?_
 refine Vcall.mk' c7 (zk (Cv.ag (zk (cr) (zk (cr) (zk (cr) (zk (cr) (zk (Cv.nil 1) (zk (Cv.nil 1) Cvs.nil))))))) (zk (cr) (zk (Cv.nil 1) (zn _)))) ?_
 refine zt (by simp only[zb];omega) (zp ?_)
 refine za rfl rfl ?_
 refine za rfl rfl ?_
 exact⟨_,rfl,cr⟩
end
structure PkgV where
 init:List UInt8
 leaf:Leaf
 sig:List UInt8
 a:List UInt8
 b:List UInt8
 c:List UInt8
structure PkgV.ok (v:PkgV):Prop where
 init:v.init.length=32
 box:v.leaf.box.length=32
 sign:v.leaf.sign.length=32
 ident:v.leaf.ident.length<=64
 parent:v.leaf.parent.length=0
 lsig:v.leaf.sig.length=64
 sig:v.sig.length=64
 c:v.c.length=32
 right:v.leaf.right=true
 a:v.a.length=32
 b:v.b.length=32
 spub:v.leaf.sign=pubS v.c
theorem zvt(ident seed:List UInt8)(hs:seed.length=32)(hi:ident.length<=1000):
  (¬(0<ident.length/\ident.length<=64)/\zab Tryz.prog 17 [bs ident,bs seed] (.r (.tu [.ag zPk, .ag [nl,nl,nl],Er 3])))\/
  ((0<ident.length/\ident.length<=64)/\∃v:PkgV,v.ok/\zab Tryz.prog 17 [bs ident,bs seed] (.r (.tu [.ag (PackP.c ⟨v.init,v.leaf,v.sig⟩),zm7 v.a v.b v.c,Er 0]))):=by
 have c1:=zff seed zp8 (by omega) (by decide)
 have h1:=zct seed (sB zp8) [] (n:=32) (by omega)
 generalize labB seed (sB zp8) [] 32=x1 at c1 h1
 have c2:=zt3 x1 (by omega)
 have k1:=zjw x1
 generalize zko x1=p1 at c2 k1
 have e1:=zmj p1
 generalize zhn p1=q1 at c2 e1
 have c3:=zff seed boxS (by omega) (by decide)
 have h2:=zct seed (sB boxS) [] (n:=32) (by omega)
 generalize labB seed (sB boxS) [] 32=x2 at c3 h2
 have c4:=zt3 x2 (by omega)
 have k2:=zjw x2
 generalize zko x2=p2 at c4 k2
 have e2:=zmj p2
 generalize zhn p2=q2 at c4 e2
 have c5:=zff seed zqg (by omega) (by decide)
 have h3:=zct seed (sB zqg) [] (n:=32) (by omega)
 generalize labB seed (sB zqg) [] 32=sg at c5 h3
 have c6:=zov sg h3
 have e3:=zr3 sg
 generalize hpk:pubS sg=pk at c6 e3
 have c7:=zvx (zce q2 pk ident) sg [] 0 ⟨by show q2.length<=_;omega,by show pk.length<=_;omega,by show ident.length<=_;omega,by show 0<=_;omega,by show 0<=_;omega⟩ (by decide) (by show q2.length+pk.length+ident.length+0<=_;omega) (by unfold i64;omega)
 have hr:((zce q2 pk ident).with zS64).right=decide (0<ident.length/\ident.length<=64):=by
  unfold Leaf.right
  refine decide_eq_decide.2 ⟨λh=>⟨h.2.2.1,h.2.2.2.1⟩,λh=>⟨e2,e3,h.1,h.2,by show 0< (1:UInt8).toNat;decide,by show(1:UInt8).toNat<4;decide, .inl rfl,rfl⟩⟩
 have ht:zfd (zce q2 pk ident) 0=true:=rfl
 by_cases hz: ¬(0<ident.length/\ident.length<=64)
 ·refine .inl ⟨hz,?_⟩
  have he:zei (zce q2 pk ident) sg 0=3:=by
   unfold zei
   rw[hr,decide_eq_false hz]
   rfl
  rw[ziy,he,if_neg (by decide)]at c7
  exact zps ident seed x1 p1 q1 x2 p2 q2 sg pk hs c1 c2 c3 c4 c5 c6 3 (by decide) (by decide) c7
 ·have hz:=Decidable.not_not.1 hz
  refine .inr ⟨hz,?_⟩
  have he:zei (zce q2 pk ident) sg 0=0:=by
   unfold zei
   rw[hr,decide_eq_true hz,if_pos rfl,if_pos ht,if_pos h3]
  rw[ziy,if_pos he]at c7
  have hol:(slOk (zce q2 pk ident) sg [] 0).right=true:=by
   unfold Leaf.right
   refine decide_eq_true ⟨e2,e3,hz.1,hz.2,by show 0< (1:UInt8).toNat;decide,by show(1:UInt8).toNat<4;decide, .inl rfl,zjq _ _ _⟩
  have hsh:(slOk (zce q2 pk ident) sg [] 0).box.length=32/\(slOk (zce q2 pk ident) sg [] 0).sign.length=32/\(slOk (zce q2 pk ident) sg [] 0).ident.length<=64/\(slOk (zce q2 pk ident) sg [] 0).src=1/\(slOk (zce q2 pk ident) sg [] 0).parent.length=0/\(slOk (zce q2 pk ident) sg [] 0).sig.length=64/\(slOk (zce q2 pk ident) sg [] 0).sign=pubS sg:=⟨e2,e3,hz.2,rfl,rfl,zjq _ _ _,hpk.symm⟩
  generalize slOk (zce q2 pk ident) sg [] 0=o at c7 hol hsh
  obtain⟨o1,o2,o3,o4,o5,o6,o7⟩:=hsh
  have hzl:zS64.length=64:=by decide
  have hf:PackP.fit ⟨q1,o,zS64⟩:=⟨by show q1.length<=_;omega,⟨by show o.box.length<=_;omega,by show o.sign.length<=_;omega,by show o.ident.length<=_;omega,by show o.parent.length<=_;omega,by show o.sig.length<=_;omega⟩,by show zS64.length<=_;omega⟩
  have c8:=zvu ⟨q1,o,zS64⟩ hf
  have hpr:PackP.right ⟨q1,o,zS64⟩=true:=by
   unfold PackP.right
   rw[show(PackP.mk q1 o zS64).leaf=o from rfl,hol,o4]
   show(decide (q1.length=32)&&(true&&decide ((1:UInt8)=1)&&decide (zS64.length=64)))=true
   rw[decide_eq_true e1,decide_eq_true hzl]
   rfl
  have htl:(ze4 ⟨q1,o,zS64⟩).length<=500000000:=by
   have hv:=zaj q1
   have hL:=zlr o
   simp only[ze4,List.length_append,zam]
   omega
  rw[hpr]at c8
  generalize ze4 ⟨q1,o,zS64⟩=tx at c8 htl
  have c9:=zt4 sg kpS tx h3 (by decide) htl
  have hs2:=zjq sg (sB kpS) tx
  generalize zqb sg (sB kpS) tx=s2 at c9 hs2
  exact⟨⟨q1,o,s2,p1,p2,sg⟩,⟨e1,o1,o2,o3,o5,o6,hs2,h3,hol,k1,k2,o7⟩,zq5 ident seed x1 p1 q1 x2 p2 q2 sg pk hs c1 c2 c3 c4 c5 c6 zS64 tx s2 o rfl c7 c8 c9⟩
theorem zx5(ident seed:List UInt8)(hs:seed.length=32)(hi:ident.length<=64):
  (ident.length=0/\zab Tryz.prog 17 [bs ident,bs seed] (.r (.tu [.ag zPk, .ag [nl,nl,nl],Er 3])))\/
  (ident.length≠0/\∃v:PkgV,v.ok/\zab Tryz.prog 17 [bs ident,bs seed] (.r (.tu [.ag (PackP.c ⟨v.init,v.leaf,v.sig⟩),zm7 v.a v.b v.c,Er 0]))):=by
 rcases zvt ident seed hs (by omega)with⟨h,c⟩ |⟨h,c⟩
 ·exact .inl ⟨by omega,c⟩
 ·exact .inr ⟨by omega,c⟩
end
section
set_option maxRecDepth 20000
section
variable {P:Program} {S:St} {o:Oper} {x y:Operand} {t t2 e:TypeId} {K:RV->Prop}
theorem zte{w:World}{m:Nat}(hu:P.underlying t=some (.pointer e)):(Op.equalIn (m+1) t (.pointer none) (.pointer none)).run P w= .ok true w:=by simp[Op.equalIn,run_underlying hu w]
theorem zwk{w:World}(hu:P.underlying t=some (.pointer e)):(Op.equal t (.pointer none) (.pointer none)).run P w= .ok true w:=zte (m:=9999) hu
theorem Vfun.nn(e:TypeId)(hop:o.op= .binOp .eql t x y t2)(hx:opr S x=some (.r (.x (.pointer none))))(hy:opr S y=some (.r (.x (.pointer none))))(hu:P.underlying t=some (.pointer e))(hK:K (.b true)):Vfun P S o [x,y] K:=by
 refine⟨[.x (.pointer none), .x (.pointer none)],by simp only[oprs,hx,hy,St.rv], .b true,λa w k h=>?_,hK⟩
 obtain⟨u,v,e1,h1,h2⟩:=zeg h
 simp only[RV.at_]at h1 h2
 subst h1;subst h2
 simp only[List.map_cons,List.map_nil,List.cons.injEq,and_true]at e1
 refine⟨.bool true,?_,by simp only[RV.at_]⟩
 simp[execOp,hop,e1.1,e1.2,eqGuard,binOp,zwk hu]
end
abbrev np:RV:= .x (.pointer none)
abbrev ns:RV:= .x (.slice none 0 0)
theorem zqw:zab Tryz.prog 50 [bs [],bs []] (.r (.b true)):=by
 have h:=z0l [] []
 simpa using h
theorem nn2{s t:Nat}:Cvs [ns,ns] [.sl s 0 [], .sl t 0 []]:=zk (Cv.nil s) (zk (Cv.nil t) Cvs.nil)
theorem z4v:zab Tryz.prog 13 [.ag [ns, .i .u64 0,ns,ns], .ag [ns, .i .u64 0,ns,ns]] (.r (.b true)):=by
 refine zaa (T:=Tab) mixed Tab_ok Tryz.func13 rfl (by kernel_rfl) ?_
 refine Vcall.mk' zqw nn2 ?_
 refine zt rfl ?_
 refine Vcall.mk' zqw nn2 ?_
 refine Vcall.mk' zqw nn2 ?_
 exact cr
end
section
section
variable {P:Program} {S:St} {o:Oper} {x y:Operand} {t t2 e:TypeId} {K:RV->Prop}
theorem Vfun.pn(e:TypeId){cells:List RV}(hop:o.op= .binOp .eql t x y t2)(hx:opr S x=some (.r (.ptr cells)))(hy:opr S y=some (.r (.x (.pointer none))))(hu:P.underlying t=some (.pointer e))(hK:K (.b false)):Vfun P S o [x,y] K:=by
 refine⟨[.ptr cells, .x (.pointer none)],by simp only[oprs,hx,hy,St.rv], .b false,λa w k h=>?_,hK⟩
 obtain⟨u,v,e1,h1,h2⟩:=zeg h
 simp only[RV.at_]at h1 h2
 obtain⟨b,q,rfl,_⟩:=h1
 subst h2
 simp only[List.map_cons,List.map_nil,List.cons.injEq,and_true]at e1
 refine⟨.bool false,?_,by simp only[RV.at_]⟩
 simp[execOp,hop,e1.1,e1.2,eqGuard,binOp,zhi _ hu]
end
abbrev aO(l:List (List UInt8)):List (Nat×Ow):=[(0, .ch 22 1 l.length (l.map bs) false)]
def hash1(lf:Leaf):List UInt8:=shaB (zhw 0 (L1 lf))
theorem zyk(lf:Leaf):(hash1 lf).length=32:=zdl _
theorem z4e(v:Value)(lf:Leaf)(hlf:lf.fit):Acts Tryz.prog 239 1 (aO [[]]) [.r (nods [L1 lf]), .r (I 0), .own 0] [(0,v)] 1 (aO [hash1 lf]) (.r (bs (hash1 lf))):=by
 refine zbc (T:=Tab) mixed Tab_ok Tryz.func239 rfl (by kernel_rfl) rfl ⟨⟨_,_,rfl,rfl,zyy (Nat.succ_pos _),zyy (Nat.succ_pos _)⟩,trivial⟩ ?_
 have ht:=zs2 0 (L1 lf) (zev hlf)
 have hl:=zys 0 (L1 lf) (zev hlf)
 unfold hash1
 generalize zhw 0 (L1 lf)=q at ht hl
 generalize zrh 0 (L1 lf)=e at ht
 have hs:=zqz (zmr [q] (by simp;omega))
 have e1:([q]:List (List UInt8)).flatMap id=q:=by simp
 rw[e1]at hs
 generalize shaB q=h at hs
 refine⟨by decide,0,by decide,?_⟩
 refine zt rfl (zp ?_)
 refine⟨by decide,0,by decide,?_⟩
 refine zm i00 i01 (idx0 lf) ?_
 refine za rfl rfl ?_
 refine ze ht ?_
 refine zw ?_
 refine ze hs ?_
 refine Vadr.mk' 0 rfl (by decide) ?_
 refine⟨by decide,[bs h],rfl,?_⟩
 refine Vadr.mk' 0 rfl (by decide) ?_
 refine zg rfl ?_
 exact za9 (.inl rfl) [(0,0)] [(6, .r (bs h))] [] rfl (by repeat' (first |exact rfl |exact trivial |exact cr |exact Cv.nil _ |exact⟨rfl,rfl⟩ |refine⟨_,_,rfl,?_,?_⟩ |refine⟨?_,?_⟩)) (by repeat' (first |exact rfl |exact trivial |exact cr |exact Cv.nil _ |exact⟨rfl,rfl⟩ |refine⟨_,_,rfl,?_,?_⟩ |refine⟨?_,?_⟩)) ⟨⟨1000000,rfl⟩,trivial⟩ (cr)
theorem zxu(lf:Leaf)(hlf:lf.fit)(hlr:lf.right=true):zab Tryz.prog 124 [nods [L1 lf]] (.r (.tu [bss [hash1 lf],Er 0])):=by
 refine zax (T:=Tab) mixed Tab_ok Tryz.func124 rfl (by kernel_rfl) ?_
 refine ze (zq8 lf hlf hlr) ?_
 refine zu rfl (zq ?_)
 refine⟨rfl,(by show(0:Int)<=((1:Nat):Int);decide),(by show((1:Nat):Int).toNat*24<=140737488355328;decide),(by show((1:Nat):Int).toNat<=maxLen;decide),1,[nl],rfl,rfl,Vpub.own ?_⟩
 refine⟨by decide,0,(by show(0:Int)=IntKind.i64.wrap (((1:Nat):Int).tdiv 2);decide),?_⟩
 have hf:=λv=>z4e v lf hlf
 generalize hash1 lf=h at hf
 refine zj [(0,0)] [0] (λvs _=>hf (vs 0)) (zi rfl ⟨_,_,rfl,cr,_,_,rfl,cr,_,_,rfl,rfl,rfl⟩) rfl (by repeat' (first |exact rfl |exact trivial |exact cr |exact Cv.nil _ |exact⟨rfl,rfl⟩ |refine⟨_,_,rfl,?_,?_⟩ |refine⟨?_,?_⟩)) ⟨za2,trivial⟩ ?_
 refine⟨_,zbd (id:=0) rfl,?_⟩
 exact⟨_,rfl,cr⟩
theorem zt9(lf:Leaf)(hlf:lf.fit)(hlr:lf.right=true):zab Tryz.prog 46 [nods [L1 lf]] (.r (.tu [bs (hash1 lf),Er 0])):=by
 refine zaa (T:=Tab) mixed Tab_ok Tryz.func46 rfl (by kernel_rfl) ?_
 refine ze (zxu lf hlf hlr) ?_
 refine zu rfl (zq ?_)
 refine⟨by decide,0,(by show(0:Int)=IntKind.i64.wrap (((1:Nat):Int).tdiv 2);decide),?_⟩
 refine zm i00 i01 rfl ?_
 refine zg rfl ?_
 exact⟨_,rfl,cr⟩
abbrev stR(v:ViewP)(o:Leaf)(sg:List UInt8):List RV:=[bs v.ctx.group, .i .u64 v.ctx.epoch,bs v.ctx.tree,bs v.ctx.trans,I v.own,bs v.interim,bs v.tag,bs v.sec.jn,bs v.sec.wl,bs v.sec.ep,bs v.sec.sd,bs v.sec.en,bs v.sec.ex,bs v.sec.au,bs v.sec.xt,bs v.sec.cf,bs v.sec.mb,bs v.sec.rs,bs v.sec.it,keyR [v.key],nods [L1 o],bs sg,ns,ns]
theorem z0u(v:ViewP)(o:Leaf)(sg:List UInt8)(hv:v.sm)(ho:o.fit)(hs:sg.length<=1000000):zab Tryz.prog 80 [.ag (stR v o sg)] (.r (.ag (stR v o sg))):=by
 refine zaa (T:=Tab) mixed Tab_ok Tryz.func80 rfl (by kernel_rfl) ?_
 have c1:=zvm v hv
 have c2:=zt2 o ho
 refine Vdraw.mk' (by kernel_rfl) ?_
 refine za rfl rfl ?_
 refine ze c1 ?_
 refine ze c2 ?_
 refine ze (zbw sg (by omega)) ?_
 refine Vloop.rounds 1 (Vrounds.step mixed Tab_ok ?_)
 refine zu rfl (zq ?_)
 refine Vloop.rounds 1 (Vrounds.step mixed Tab_ok ?_)
 refine zu rfl (zq ?_)
 refine za rfl rfl ?_
 refine za rfl rfl ?_
 exact cr
abbrev grR(v:ViewP)(o:Leaf)(sg:List UInt8):List RV:=[bs v.ctx.group, .i .u64 v.ctx.epoch,bs v.ctx.tree,bs v.ctx.trans,I v.own,bs v.interim,bs v.tag,bs v.sec.jn,bs v.sec.wl,bs v.sec.ep,bs v.sec.sd,bs v.sec.en,bs v.sec.ex,bs v.sec.au,bs v.sec.xt,bs v.sec.cf,bs v.sec.mb,bs v.sec.rs,bs v.sec.it,keyR [v.key],nods [L1 o],bs sg,ns,ns,ns,ns, .i .u64 0,ns,ns,I 0,ns,ns,ns,ns,ns,ns,ns,ns,ns,ns,ns,ns,ns,ns,ns,ns,ns,ns,ns]
theorem z4r(v:ViewP)(o:Leaf)(sg:List UInt8)(hv:v.sm)(ho:o.fit)(hs:sg.length<=1000000):zab Tryz.prog 26 [.ptr (grR v o sg)] (.r (.ag (stR v o sg))):=by
 refine zaa (T:=Tab) mixed Tab_ok Tryz.func26 rfl (by kernel_rfl) ?_
 have c1:=z0u v o sg hv ho hs
 refine Vfun.pn _ rfl rfl rfl Tryz.underlying38 (zq ?_)
 refine za rfl rfl ?_
 refine ze c1 ?_
 refine za rfl rfl ?_
 exact cr
theorem zow:zab Tryz.prog 56 [] (.r (bs z32)):=by
 refine zaa (T:=Tab) mixed Tab_ok Tryz.func56 rfl (by kernel_rfl) ?_
 refine⟨rfl,by decide,by decide,by decide,_,_,rfl,zs32,zw ?_⟩
 exact cr
theorem zh9(o:Leaf):Cv (.sl 10 1 [.i .u8 1,bs o.box,bs o.sign,bs o.ident,U8 o.src,bs o.parent,bs o.sig,nl,nl,nl]) (nods [L1 o]):=
 Cv.sl (zk (cr) (zk (cr) (zk (cr) (zk (cr) (zk (cr) (zk (cr) (zk (cr) (zk (Cv.nil 1) (zk (Cv.nil 1) (zk (Cv.nil 1) Cvs.nil))))))))))
set_option maxHeartbeats 2000000 in
theorem z0y(id ident seed q1 s2 p1 p2 sg th x z tg it:List UInt8)(o:Leaf)(s:SecP)(hid:id.length<=64)
  (cp:zab Tryz.prog 17 [bs ident,bs seed] (.r (.tu [.ag (PackP.c ⟨q1,o,s2⟩),zm7 p1 p2 sg,Er 0])))
  (ct:zab Tryz.prog 46 [nods [L1 o]] (.r (.tu [bs th,Er 0])))
  (cs:zab Tryz.prog 55 [bs seed,Str grpS] (.r (bs x)))
  (cz:zab Tryz.prog 56 [] (.r (bs z)))
  (cn:zab Tryz.prog 54 [bs x,bs z, .ag (CtxP.c ⟨id,0,th,[]⟩)] (.r (.ag s.c)))
  (cg:zab Tryz.prog 57 [.ag s.c,bs []] (.r (bs tg)))
  (ci:zab Tryz.prog 49 [bs [],bs tg] (.r (bs it))):
  zab Tryz.prog 16 [bs id,bs ident,bs seed] (.r (.tu [.ptr (grR ⟨⟨id,0,th,[]⟩,0,it,tg,s,⟨0,p2⟩⟩ o sg),Er 0])):=by
 refine zax (T:=Tab) mixed Tab_ok Tryz.func16 rfl (by kernel_rfl) ?_
 refine zu (by simp only[zb];omega) (zq ?_)
 refine ze cp ?_
 refine zu rfl (zq ?_)
 refine za rfl rfl ?_
 refine zw ?_
 refine ze (zbw id (by omega)) ?_
 refine Vcall.mk' ct (zk (zh9 o) Cvs.nil) ?_
 refine Vdraw.mk' (by kernel_rfl) ?_
 refine ze cs ?_
 refine ze cz ?_
 refine za rfl rfl ?_
 refine Vcall.mk' cn (zk (cr) (zk (cr) (zk (Cv.ag (zk (cr) (zk (cr) (zk (cr) (zk (Cv.nil 1) Cvs.nil))))) Cvs.nil))) ?_
 refine za rfl rfl ?_
 refine Vcall.mk' cg (zk (cr) (zk (Cv.nil 1) Cvs.nil)) ?_
 refine Vcall.mk' ci (zk (Cv.nil 1) (zk (cr) Cvs.nil)) ?_
 refine zw ?_
 refine za rfl rfl ?_
 refine⟨_,Sub.trans (zad [(0,6)] (S':=⟨[(6, .own 0),(7, .r (Er 0))],[(0,some (.box ((grR ⟨⟨id,0,th,[]⟩,0,it,tg,s,⟨0,p2⟩⟩ o sg).map TF.r)))],1⟩) rfl (by repeat' (first |exact rfl |exact trivial |exact cr |exact Cv.nil _ |exact⟨rfl,rfl⟩ |refine⟨_,_,rfl,?_,?_⟩ |refine⟨?_,?_⟩)) (by repeat' (first |exact rfl |exact trivial |exact cr |exact Cv.nil _ |exact zh9 _ |exact⟨rfl,rfl⟩ |refine⟨_,_,rfl,?_,?_⟩ |refine⟨?_,?_⟩))) (zdu (t:=6) (grR ⟨⟨id,0,th,[]⟩,0,it,tg,s,⟨0,p2⟩⟩ o sg) rfl rfl),?_⟩
 exact⟨_,rfl,cr⟩
theorem zx2(id ident seed q1 s2 p1 p2 sg th x z tg it:List UInt8)(o:Leaf)(s:SecP)(hid:id.length<=64)
  (cp:zab Tryz.prog 17 [bs ident,bs seed] (.r (.tu [.ag (PackP.c ⟨q1,o,s2⟩),zm7 p1 p2 sg,Er 0])))
  (ct:zab Tryz.prog 46 [nods [L1 o]] (.r (.tu [bs th,Er 0])))
  (cs:zab Tryz.prog 55 [bs seed,Str grpS] (.r (bs x)))
  (cz:zab Tryz.prog 56 [] (.r (bs z)))
  (cn:zab Tryz.prog 54 [bs x,bs z, .ag (CtxP.c ⟨id,0,th,[]⟩)] (.r (.ag s.c)))
  (cg:zab Tryz.prog 57 [.ag s.c,bs []] (.r (bs tg)))
  (ci:zab Tryz.prog 49 [bs [],bs tg] (.r (bs it))):
  zqj Tryz.prog 16 [bs id,bs ident,bs seed] (grR ⟨⟨id,0,th,[]⟩,0,it,tg,s,⟨0,p2⟩⟩ o sg) [Er 0]:=by
 refine zpq (T:=Tab) mixed Tab_ok Tryz.func16 rfl (by kernel_rfl) ?_
 refine zu (by simp only[zb];omega) (zq ?_)
 refine ze cp ?_
 refine zu rfl (zq ?_)
 refine za rfl rfl ?_
 refine zw ?_
 refine ze (zbw id (by omega)) ?_
 refine Vcall.mk' ct (zk (zh9 o) Cvs.nil) ?_
 refine Vdraw.mk' (by kernel_rfl) ?_
 refine ze cs ?_
 refine ze cz ?_
 refine za rfl rfl ?_
 refine Vcall.mk' cn (zk (cr) (zk (cr) (zk (Cv.ag (zk (cr) (zk (cr) (zk (cr) (zk (Cv.nil 1) Cvs.nil))))) Cvs.nil))) ?_
 refine za rfl rfl ?_
 refine Vcall.mk' cg (zk (cr) (zk (Cv.nil 1) Cvs.nil)) ?_
 refine Vcall.mk' ci (zk (Cv.nil 1) (zk (cr) Cvs.nil)) ?_
 refine zw ?_
 refine za rfl rfl ?_
 refine⟨by first |exact .inl rfl |exact .inr rfl,_,(zad [(0,6)] (S':=⟨[(6, .own 0),(7, .r (Er 0))],[(0,some (.box ((grR ⟨⟨id,0,th,[]⟩,0,it,tg,s,⟨0,p2⟩⟩ o sg).map TF.r)))],1⟩) rfl (by repeat' (first |exact rfl |exact trivial |exact cr |exact Cv.nil _ |exact⟨rfl,rfl⟩ |refine⟨_,_,rfl,?_,?_⟩ |refine⟨?_,?_⟩)) (by repeat' (first |exact rfl |exact trivial |exact cr |exact Cv.nil _ |exact zh9 _ |exact⟨rfl,rfl⟩ |refine⟨_,_,rfl,?_,?_⟩ |refine⟨?_,?_⟩))),rfl,zn _⟩
end
section
theorem z7d(pv:Value)(lf:Leaf):Acts Tryz.prog 196 1 [(0, .box [.r (nods [L1 lf])])] [.r (I 0), .own 0] [(0,pv)] 2 [(0, .box [.r (nods [L1 lf])])] (.r (.tu [.ag (L1 lf).c, .b true])):=by
 refine zbc (T:=Tab) mixed Tab_ok Tryz.func196 rfl (by kernel_rfl) rfl ⟨⟨_,_,rfl,rfl,zak,zak⟩,trivial⟩ ?_
 refine zm i00 i01 (idx0 lf) ?_
 refine za rfl rfl ?_
 exact za9 (.inl rfl) [(0,0),(1,1)] [(3, .own 1),(4, .r (.b true))] [(1,some (.box ((L1 lf).c.map .r)))] rfl ⟨rfl,cr,⟨rfl,rfl⟩,trivial⟩ ⟨⟨_,_,rfl,cr,rfl⟩,⟨_,_,rfl,cr,_,_,rfl,cr,_,_,rfl,cr,_,_,rfl,cr,_,_,rfl,cr,_,_,rfl,cr,_,_,rfl,cr,_,_,rfl,cr,_,_,rfl,cr,_,_,rfl,cr,rfl⟩,trivial⟩ ⟨⟨1000000,rfl⟩,trivial⟩ (za rfl rfl ⟨_,rfl,cr⟩)
structure VD where
 lf:Leaf
 i:Int
 only:Bool
 p0:Value
 p1:Value
 p2:Value
 p3:Value
 p4:Value
 p5:Value
 p6:Value
 p7:Value
 p8:Value
def VD.fat(c:VD):Value:= .func (.func 196) #[] #[c.p0]
def VD.vis(c:VD):Value:= .func (.func 324) #[] #[c.p3,c.p6,c.p8,c.p4]
def VD.chi(c:VD):Value:= .func (.func 322) #[] #[c.p1,c.p7,c.p2,c.p5]
def VD.mem(c:VD)(A B:List Int)(ok:Bool):List (Nat×Ow):=
 [(0, .box [.r (nods [L1 c.lf])]),(1, .box [.r (I c.i)]),(2, .box [.r (.b c.only)]),(3, .box [.r (.x c.fat)]),(4, .box [.own 9]),(5, .box [.own 10]),(6, .box [.r (.b ok)]),(7, .box [.r (.x c.vis)]),(8, .box [.r (.x c.chi)]),
 (9, .ch 3 1 A.length (A.map I) false),(10, .ch 3 1 B.length (B.map I) false)]
def VD.nms(c:VD):List (Nat×Value):=[(0,c.p0),(1,c.p1),(2,c.p2),(3,c.p3),(4,c.p4),(5,c.p5),(6,c.p6),(7,c.p7),(8,c.p8)]
theorem VD.same(c:VD)(A B A' B':List Int)(ok ok':Bool):zm4 (c.mem A B ok) (c.mem A' B' ok') c.nms:=
 ⟨⟨_,_,rfl,rfl,zak,zak⟩,⟨_,_,rfl,rfl,zak,zak⟩,⟨_,_,rfl,rfl,zak,zak⟩,⟨_,_,rfl,rfl,zak,zak⟩,⟨_,_,rfl,rfl,zak,zak⟩,⟨_,_,rfl,rfl,zak,zak⟩,⟨_,_,rfl,rfl,zak,zak⟩,⟨_,_,rfl,rfl,zak,zak⟩,⟨_,_,rfl,rfl,zak,zak⟩,trivial⟩
set_option maxHeartbeats 2000000 in
theorem VD.visit(c:VD)(A B:List Int)(ok:Bool)(hlf:c.lf.fit)(hA:A.length<=1000000):
  Acts Tryz.prog 324 11 (c.mem A B ok) [.r (I 0), .r (I 0), .r (is []), .own 3, .own 6, .own 8, .own 4] c.nms 11 (c.mem (A++[(0:Int)]) B ok) (.r (.tu [])):=by
 refine zbc (T:=Tab) mixed Tab_ok Tryz.func324 rfl (by kernel_rfl) rfl (c.same _ _ _ _ _ _) ?_
 refine zj [(0,0)] [0] (λvs _=>z7d (vs 0) c.lf) (Handed.clo (fs:=[.r (I _)]) (cs:=[.own 0]) rfl rfl ⟨_,_,rfl,cr,rfl⟩ ⟨_,_,rfl,⟨0,1000000,rfl,rfl⟩,rfl⟩) rfl ⟨⟨_,_,rfl,cr,rfl⟩,trivial⟩ ⟨zac,trivial⟩ ?_
 refine zu rfl (zq ?_)
 refine zu rfl (zq ?_)
 refine⟨by decide,_,rfl,?_⟩
 refine zu rfl (zq ?_)
 refine zw ?_
 refine Vapp.mk' (j:=(A++[(0:Int)]).length) (zs:=(A++[(0:Int)]).map I) (by simp only[maxLen,List.length_append];omega) (by simp;omega) (by rw[List.length_append (bs:=[_])];rfl) (List.map_append (f:=I) (l₁:=A) (l₂:=[(0:Int)])).symm ?_
 refine⟨by decide,_,rfl,?_⟩
 refine zu rfl (zq ?_)
 exact za9 (.inr rfl) [(0,0),(1,1),(2,2),(3,3),(4,4),(5,5),(6,6),(7,7),(8,8),(9,15),(10,10)] [] [] rfl ⟨⟨rfl,rfl⟩,⟨rfl,rfl⟩,⟨rfl,rfl⟩,⟨rfl,rfl⟩,⟨rfl,rfl⟩,⟨rfl,rfl⟩,⟨rfl,rfl⟩,⟨rfl,rfl⟩,⟨rfl,rfl⟩,trivial⟩ ⟨⟨_,_,rfl,cr,rfl⟩,⟨_,_,rfl,cr,rfl⟩,⟨_,_,rfl,cr,rfl⟩,⟨_,_,rfl,cr,rfl⟩,⟨_,_,rfl,rfl,rfl⟩,⟨_,_,rfl,rfl,rfl⟩,⟨_,_,rfl,cr,rfl⟩,⟨_,_,rfl,cr,rfl⟩,⟨_,_,rfl,cr,rfl⟩,⟨rfl,rfl,rfl,rfl,zn _⟩,⟨rfl,rfl,rfl,rfl,zn _⟩,trivial⟩ ⟨⟨1000000,rfl⟩,⟨1000001,rfl⟩,⟨1000002,rfl⟩,⟨1000003,rfl⟩,⟨1000004,rfl⟩,⟨1000005,rfl⟩,⟨1000006,rfl⟩,⟨1000007,rfl⟩,⟨1000008,rfl⟩,trivial⟩ ⟨_,rfl,cr⟩
set_option maxHeartbeats 2000000 in
theorem z0z(lf:Leaf)(hlf:lf.fit)(p0:Value)(i:Int)(only:Bool):
  Acts Tryz.prog 195 1 [(0, .box [.r (nods [L1 lf])])] [.r (I 1), .r (I i), .r (.b only), .r (.x (.func (.func 196) #[] #[p0]))] [(0,p0)] 11 [(0, .box [.r (nods [L1 lf])])] (.r (.tu [is [0],is [], .b true])):=by
 refine zbc (T:=Tab) mixed Tab_ok Tryz.func195 rfl (by kernel_rfl) rfl ⟨⟨_,_,rfl,rfl,zak,zak⟩,trivial⟩ ?_
 refine Vstep.nm 1 1000001 rfl λp1=>Vstep.nm 7 1000007 rfl λp7=>Vstep.nm 2 1000002 rfl λp2=>Vstep.nm 5 1000005 rfl λp5=>Vstep.mkfunX [p1,p7,p2,p5] rfl ⟨_,_,rfl,⟨1,1000001,rfl,rfl⟩,_,_,rfl,⟨7,1000007,rfl,rfl⟩,_,_,rfl,⟨2,1000002,rfl,rfl⟩,_,_,rfl,⟨5,1000005,rfl,rfl⟩,rfl⟩ ?_
 refine Vstep.nm 3 1000003 rfl λp3=>Vstep.nm 6 1000006 rfl λp6=>Vstep.nm 8 1000008 rfl λp8=>Vstep.nm 4 1000004 rfl λp4=>Vstep.mkfunX [p3,p6,p8,p4] rfl ⟨_,_,rfl,⟨3,1000003,rfl,rfl⟩,_,_,rfl,⟨6,1000006,rfl,rfl⟩,_,_,rfl,⟨8,1000008,rfl,rfl⟩,_,_,rfl,⟨4,1000004,rfl,rfl⟩,rfl⟩ ?_
 refine Vdraw.cut 3 (by kernel_rfl) ?_
 refine ze (zqy 1) ?_
 have hvis:=VD.visit ⟨lf,i,only,p0,p1,p2,p3,p4,p5,p6,p7,p8⟩ [] [] true hlf (by decide)
 simp only[List.nil_append]at hvis
 refine Vstep.sub (Sub.trans (zcc false 4 0 3 1 rfl rfl) (zcc false 5 0 3 1 rfl rfl)) ?_
 refine zj [(0,0),(1,1),(2,2),(3,3),(4,4),(5,5),(6,6),(7,7),(8,8),(9,9),(10,10)] [0,1,2,3,4,5,6,7,8] (λvs hv=>zbq (by simp only[List.map];rw[hv 0 0 1000000 _ rfl rfl,hv 1 1 1000001 _ rfl rfl,hv 2 2 1000002 _ rfl rfl,hv 3 3 1000003 _ rfl rfl,hv 4 4 1000004 _ rfl rfl,hv 5 5 1000005 _ rfl rfl,hv 6 6 1000006 _ rfl rfl,hv 7 7 1000007 _ rfl rfl,hv 8 8 1000008 _ rfl rfl];rfl) hvis) (Handed.clo (fs:=[.r (I _), .r (I _), .r (is [])]) (cs:=[.own 3, .own 6, .own 8, .own 4]) rfl rfl ⟨_,_,rfl,cr,_,_,rfl,cr,_,_,rfl,Cv.nil 1,rfl⟩ ⟨_,_,rfl,⟨3,1000003,rfl,rfl⟩,_,_,rfl,⟨6,1000006,rfl,rfl⟩,_,_,rfl,⟨8,1000008,rfl,rfl⟩,_,_,rfl,⟨4,1000004,rfl,rfl⟩,rfl⟩) rfl ⟨⟨_,_,rfl,cr,rfl⟩,⟨_,_,rfl,cr,rfl⟩,⟨_,_,rfl,cr,rfl⟩,⟨_,_,rfl,cr,rfl⟩,⟨_,_,rfl,rfl,rfl⟩,⟨_,_,rfl,rfl,rfl⟩,⟨_,_,rfl,cr,rfl⟩,⟨_,_,rfl,cr,rfl⟩,⟨_,_,rfl,cr,rfl⟩,⟨rfl,rfl,rfl,rfl,zn _⟩,⟨rfl,rfl,rfl,rfl,zn _⟩,trivial⟩ ⟨zac,zac,zac,zac,zac,zac,zac,zac,zac,za2,za2,trivial⟩ ?_
 refine Vdraw.code (Vcode.float mixed Tab_ok 5 [⟨0,19, .own 9,[]⟩,⟨1,20, .own 10,[]⟩,⟨2,21, .r (.b true),[]⟩] [(3,[0]),(4,[1])] (by kernel_rfl) (F:=[(8, .own 4),(9, .own 5),(10, .own 6),(1000000, .nm 0 p0)]) (O:=[(0,some (.box [.r (nods [L1 lf])])),(4,some (.box [.own 9])),(5,some (.box [.own 10])),(6,some (.box [.r (.b true)])),(9,some (.ch 3 1 1 [I 0] false)),(10,some (.ch 3 1 0 [] false))]) (nx:=11) (zad [(0,0),(4,4),(5,5),(6,6),(9,20),(10,21)] rfl ⟨rfl,rfl,rfl,⟨rfl,rfl⟩,trivial⟩ ⟨⟨_,_,rfl,cr,rfl⟩,⟨_,_,rfl,rfl,rfl⟩,⟨_,_,rfl,rfl,rfl⟩,⟨_,_,rfl,cr,rfl⟩,⟨rfl,rfl,rfl,rfl,zn _⟩,⟨rfl,rfl,rfl,rfl,zn _⟩,trivial⟩) ?_)
 refine⟨rfl,⟨λY=>zo _,λY=>zo _,λY=>zo _,trivial⟩,[(8, .own 4),(9, .own 5),(10, .own 6),(1000000, .nm 0 p0)],(4,some (.box [.own 9]))::[(0,some (.box [.r (nods [L1 lf])])),(4,some (.box [.own 9])),(5,some (.box [.own 10])),(6,some (.box [.r (.b true)])),(9,some (.ch 3 1 1 [I 0] false)),(10,some (.ch 3 1 0 [] false))],11,λY=>zo _,?_⟩
 refine⟨rfl,⟨λY=>zo _,λY=>zo _,λY=>zo _,trivial⟩,[(8, .own 4),(9, .own 5),(10, .own 6),(1000000, .nm 0 p0)],(5,some (.box [.own 10]))::(4,some (.box [.own 9]))::[(0,some (.box [.r (nods [L1 lf])])),(4,some (.box [.own 9])),(5,some (.box [.own 10])),(6,some (.box [.r (.b true)])),(9,some (.ch 3 1 1 [I 0] false)),(10,some (.ch 3 1 0 [] false))],11,λY=>zo _,?_⟩
 refine⟨rfl,⟨λY=>zo _,λY=>zo _,λY=>zo _,trivial⟩,?_⟩
 refine ztu (Sub.trans (zbd (id:=9) rfl) (zbd (id:=10) rfl)) ?_
 exact za9 (.inl rfl) [(0,0),(4,4),(5,5),(6,6),(9,9),(10,10)] [(8, .own 4),(9, .own 5),(10, .own 6)] [(4,some (.box [.own 9])),(5,some (.box [.own 10])),(6,some (.box [.r (.b true)])),(9,some (.ch 3 1 1 [I 0] true)),(10,some (.ch 3 1 0 [] true))] rfl ⟨rfl,rfl,rfl,⟨rfl,rfl⟩,trivial⟩ ⟨⟨_,_,rfl,cr,rfl⟩,⟨_,_,rfl,rfl,rfl⟩,⟨_,_,rfl,rfl,rfl⟩,⟨_,_,rfl,cr,rfl⟩,⟨rfl,rfl,rfl,rfl,zn _⟩,⟨rfl,rfl,rfl,rfl,zn _⟩,trivial⟩ ⟨⟨1000000,rfl⟩,trivial⟩ ⟨_,rfl,cr⟩
end
section
open Go.RowKit Go.Sort Go.Shelf
abbrev KeyV:Type:=Int×{v:Value//v.oneCell'=true}
instance :Inhabited KeyV:=⟨(0,⟨.int .i64 0,rfl⟩)⟩
end
section
theorem Vsem.fieldN{P:Program}{T:TT}{S:St}{o:Oper}(hT:TOk P T){t:TypeId}{x:Operand}{i off:Nat}{ft:TypeId}{ti tf:TI}{fs:List (Nat×TypeId)}{cells cs:List RV}{K:TF->Option Ow->Prop}(hop:o.op= .field t x i)(hti:tget T t=some ti)(hk:ti.k= .struct fs)(hfs:lget fs i=some (off,ft))(htf:tget T ft=some tf)(hag:tf.agg=true)
  (hx:opr S x=some (.r (.ag cells))) (hb:off+tf.sz<=cells.length) (hc:(cells.drop off).take tf.sz=cs) (hK:K (.r (.ag cs)) none):Vsem P S o K:=by
 subst hc
 refine⟨_,_,λB N a w k Q ⟨g,hs⟩ hd=>?_,hK⟩
 have hv:=(zaf hs hx).2
 simp only[TF.at_,RV.at_]at hv
 obtain⟨us,e,hl⟩:=hv
 rw[zat]at hfs
 have hul:=(RV.listAt_iff _ _).1 hl
 have hus:off+tf.sz<=us.size:=by rw[<-Array.length_toList,hul.1];exact hb
 obtain⟨q,hq⟩:=hT.get hti
 obtain⟨d,hdd,hko,_⟩:=q.desc
 rw[hq]at hdd
 rw[hk]at hko
 obtain⟨fields,rfl,hfl⟩:=hko
 obtain⟨qf,hqf⟩:=hT.get htf
 have hsize:=za1 (w:=w) qf hqf
 obtain⟨df,hdf,_,hrow⟩:=qf.desc
 rw[hqf]at hdf
 rw[hag]at hrow
 have hagg:(isAgg ft).run P w= .ok true w:=by
  unfold isAgg
  rw[Sem.run_bind,run_underlying hdf w]
  cases df<;>simp_all [TypeDesc.isRow]
 rw[<-hfl,List.getElem?_map]at hfs
 cases hfi:fields.toList[i]? with
 |none=>simp[hfi]at hfs
 |some fd=>
  simp only[hfi,Option.map_some,Option.some.injEq,Prod.mk.injEq]at hfs
  obtain⟨h0,rfl⟩:=hfs
  have hfa:fields[i]?=some fd:=by simpa using hfi
  refine zap (v:= .agg (us.extract off (off+tf.sz))) (w':=w) ?_ ⟨k,g,hs.put hd trivial ?_⟩
  ·simp[execOp,hop,Instr.field,run_underlying hdd w,hfa,e,part,hagg,asAgg,hsize,h0,hus]
  ·simp only[TF.at_,RV.at_]
   refine⟨_,rfl,?_⟩
   rw[Array.toList_extract,List.extract_eq_take_drop,Nat.add_sub_cancel_left]
   exact zbv (zco hl off) _
end
section
def oneS(n:Node):Lean_:=⟨1,0,[⟨0,n⟩],[]⟩
theorem zwa{n:Node}(hr:n.right=true)(hk:n.kind.toNat=1):sR (oneS n)=true:=by
 have hpar:n.par.late=[]:=by
  unfold Node.right at hr
  rw[if_neg (by omega),if_pos hk]at hr
  simp only[Bool.and_eq_true,Par.none,decide_eq_true_eq]at hr
  exact List.eq_nil_of_length_eq_zero (by omega)
 have hf:zdw 0 n=true:=by
  unfold zdw
  rw[hr,hpar]
  have:ze3 0=2:=rfl
  rw[this]
  simp
  omega
 have hl:zgw [⟨0,n⟩] 0=true:=by simp[zgw,za6,hk]
 have hv:visV [⟨0,n⟩] 0 false 0 0 0 []=([0],[],true):=by
  unfold visV
  have:za6 [⟨0,n⟩] ((nd 0 0:Nat):Int)=some n:=by simp[za6,nd]
  rw[this]
  rfl
 unfold sR ascS atsO atsH zdb oneS
 simp only[List.map_cons,List.map_nil,List.all_cons,List.all_nil]
 have hlog:(1:Int).toNat.log2=0:=rfl
 have hz:(0:Int).toNat=0:=rfl
 rw[show(2*(0:Int))=0 from rfl,hl,hf,hlog]
 simp only[hv]
 have hs1:za8 [0]=[0]:=by simp[za8]
 have hs2:za8 []=[]:=by simp[za8]
 have hf1:zc6 1=true:=by decide
 simp[ascL,hf1,hs1,hs2]
theorem z5e{n:Node}(hf:n.fit):(oneS n).bd:=by
 refine⟨(by show i64 1;unfold i64;decide),(by show i64 0;unfold i64;decide),(by show 1<=1000000;omega),(by show 0<=1000000;omega),λx hx=>?_,λx hx=>(by cases hx),λx hx=>?_,λx hx=>(by cases hx)⟩
 ·rw[List.mem_singleton.1 hx];show i64 0;unfold i64;decide
 ·rw[List.mem_singleton.1 hx];exact hf
end
section
abbrev ze2(lf:Leaf):Lean_:=oneS (L1 lf)
theorem zx0(lf:Leaf):zab Tryz.prog 188 [nods [L1 lf],I 0] (.r (.b true)):=by
 refine zaa (T:=Tab) mixed Tab_ok Tryz.func188 rfl (by kernel_rfl) ?_
 refine zt rfl ?_
 refine ze (zji lf) ?_
 refine zt rfl ?_
 refine zd (m:=0) rfl (by decide) ?_
 refine zm i00 i01 (idx0 lf) ?_
 refine zg rfl ?_
 refine zt rfl ?_
 exact cr
theorem z04(lf:Leaf)(hlf:lf.fit)(hlr:lf.right=true):zab Tryz.prog 95 [nods [L1 lf],I 0] (.r (.tu [.ag lf.c, .b true])):=by
 refine zaa (T:=Tab) mixed Tab_ok Tryz.func95 rfl (by kernel_rfl) ?_
 refine ze (zq8 lf hlf hlr) ?_
 refine zu rfl ?_
 refine ze (zx0 lf) ?_
 refine zu rfl (zq ?_)
 refine zd (m:=0) rfl (by decide) ?_
 refine zm i00 i01 (idx0 lf) ?_
 refine za rfl rfl ?_
 refine ze (zn2 (L1 lf) (zev hlf) (zdf _ hlf)) ?_
 refine Vsem.fieldN Tab_ok rfl rfl rfl rfl rfl rfl rfl (Nat.le_of_ble_eq_true rfl) rfl ?_
 refine za rfl rfl ?_
 exact⟨_,rfl,cr⟩
theorem z4o(lf:Leaf)(hlf:lf.fit)(hlr:lf.right=true)(only:Bool):zab Tryz.prog 103 [nods [L1 lf],I 0, .b only] (.r (.tu [(ze2 lf).pr,Er 0])):=by
 refine zax (T:=Tab) mixed Tab_ok Tryz.func103 rfl (by kernel_rfl) ?_
 refine ze (zxu lf hlf hlr) ?_
 refine zu rfl (zq ?_)
 refine ze (z04 lf hlf hlr) ?_
 refine zu rfl (zq ?_)
 refine Vcode.run Tab_ok ?_
 refine zd (m:=2) rfl i2b ?_
 refine⟨by decide,1,by decide,?_⟩
 refine Vstep.mapMk 2000001 rfl λb1=>?_
 refine Vstep.mapMk 2000002 rfl λb2=>?_
 refine Vstep.nm 0 1000000 rfl λp0=>Vstep.mkfunX [p0] rfl ⟨_,_,rfl,⟨0,1000000,rfl,rfl⟩,rfl⟩ ?_
 refine zj [(0,0)] [0] (λvs hv=>zbq (by simp only[List.map];rw[hv 0 0 1000000 _ rfl rfl]) (z0z lf hlf p0 0 only)) (zi rfl ⟨_,_,rfl,cr,_,_,rfl,cr,_,_,rfl,cr,_,_,rfl,cr,rfl⟩) rfl ⟨⟨_,_,rfl,cr,rfl⟩,trivial⟩ ⟨zac,trivial⟩ ?_
 refine Vloop.rounds 2 (Vrounds.step mixed Tab_ok ?_)
 refine zt rfl (zp ?_)
 refine zm i00 i01 rfl ?_
 refine zg rfl ?_
 refine Vdraw.mk' (by kernel_rfl) ?_
 refine zm i00 i01 (idx0 lf) ?_
 refine za rfl rfl ?_
 refine Vstep.mapPut 3 2000001 rfl rfl rfl rfl rfl rfl rfl zh2 zi1 rfl ?_
 refine zd (m:=1) rfl (by decide) ?_
 refine Vrounds.step mixed Tab_ok ?_
 refine zu rfl (zq ?_)
 refine Vloop.rounds 1 (Vrounds.step mixed Tab_ok ?_)
 refine zu rfl (zq ?_)
 refine za rfl rfl ?_
 refine⟨_,Sub.trans (zfu (id:=1) (i:=2) (im:=3) (gh:=2000001) rfl rfl rfl rfl (by decide)) (zfu (id:=1) (i:=3) (im:=4) (gh:=2000002) rfl rfl rfl rfl (by decide)),?_⟩
 refine za rfl rfl ?_
 exact⟨_,rfl,cr⟩
theorem z4k(lf:Leaf)(hlf:lf.fit)(hlr:lf.right=true):zab Tryz.prog 36 [nods [L1 lf],I 0] (.r (.tu [.ag (ze2 lf).c,Er 0])):=by
 refine zaa (T:=Tab) mixed Tab_ok Tryz.func36 rfl (by kernel_rfl) ?_
 have c2:=z0o 1 0 (ze2 lf).opn [] (by show 1<=1000000;decide) (by decide) (λs hs=>by
  rw[List.mem_singleton.1 hs]
  exact zev hlf) (λs hs=>by
  rw[List.mem_singleton.1 hs]
  exact⟨by show(-9223372036854775808:Int)<=0;decide,by show(0:Int)<=9223372036854775807;decide⟩) (λs hs=>by cases hs) (λs hs=>by cases hs)
 have e:zkv 1 0 (ze2 lf).opn []=ze2 lf:=by simp[zkv,za8,oneS,putN,za6]
 rw[e]at c2
 refine ze (z4o lf hlf hlr false) ?_
 refine zu rfl (zq ?_)
 refine za rfl rfl ?_
 refine ze c2 ?_
 refine za rfl rfl ?_
 exact⟨_,rfl,cr⟩
end
section
theorem z5q{jn wl ep:List UInt8}(h1:jn.length=32)(h2:wl.length=32)(h3:ep.length=32):(secE jn wl ep).sm:=by
 have q: ∀l:List UInt8,(labB ep l [] 32).length<=1000000:=λl=>by rw[zct ep l [] (n:=32) (by omega)];decide
 exact⟨by show jn.length<=_;omega,by show wl.length<=_;omega,by show ep.length<=_;omega,q _,q _,q _,q _,q _,q _,q _,q _,q _⟩
structure GrpV where
 v:ViewP
 o:Leaf
 sg:List UInt8
structure GrpV.ok (g:GrpV) (id:List UInt8):Prop where
 sm:g.v.sm
 own:g.v.own=0
 ctx:g.v.ctx=⟨id,0,hash1 g.o,[]⟩
 box:g.o.box.length=32
 sign:g.o.sign.length=32
 ident:g.o.ident.length<=64
 parent:g.o.parent.length=0
 lsig:g.o.sig.length=64
 right:g.o.right=true
 sg:g.sg.length<=1000000
 sgl:g.sg.length=32
 spub:g.o.sign=pubS g.sg
theorem GrpV.ok.fit{g:GrpV}{id:List UInt8}(h:g.ok id):g.o.fit:=⟨by have:=h.box;omega,by have:=h.sign;omega,by have:=h.ident;omega,by have:=h.parent;omega,by have:=h.lsig;omega⟩
theorem z7f(id ident seed:List UInt8)(hid:id.length<=64)(hi:ident.length<=64)(h0:ident.length≠0)(hs:seed.length=32):
  ∃g:GrpV,g.ok id/\zab Tryz.prog 16 [bs id,bs ident,bs seed] (.r (.tu [.ptr (grR g.v g.o g.sg),Er 0]))/\zqj Tryz.prog 16 [bs id,bs ident,bs seed] (grR g.v g.o g.sg) [Er 0]:=by
 rcases zx5 ident seed hs hi with⟨e0,_⟩ |⟨_,w,hw,cp⟩
 ·exact absurd e0 h0
 have hf:w.leaf.fit:=⟨by have:=hw.box;omega,by have:=hw.sign;omega,by have:=hw.ident;omega,by have:=hw.parent;omega,by have:=hw.lsig;omega⟩
 have ct:=zt9 w.leaf hf hw.right
 have hh:=zyk w.leaf
 have cs:=zff seed grpS (by omega) (by decide)
 have hx:=zct seed (sB grpS) [] (n:=32) (by omega)
 generalize labB seed (sB grpS) [] 32=x at cs hx
 have cn:=z4q x z32 ⟨id,0,hash1 w.leaf,[]⟩ ⟨by show id.length<=_;omega,by show 0<18446744073709551616;decide,by show(hash1 w.leaf).length<=_;omega,by show 0<=1000000;decide⟩ (by show id.length+(hash1 w.leaf).length+0<=_;omega) (by omega) (by decide)
 obtain⟨s,hs2,hsm,hcf⟩: ∃s:SecP,s=schS (zkj x z32 (ctxB ⟨id,0,hash1 w.leaf,[]⟩)) (ctxB ⟨id,0,hash1 w.leaf,[]⟩)/\s.sm/\s.cf.length=32:=by
  refine⟨_,rfl,z5q (zct _ _ _ (n:=32) (by omega)) (zct _ _ _ (n:=32) (by omega)) (zct _ _ _ (n:=32) (by omega)),zct _ _ _ (n:=32) (by omega)⟩
 rw[<-hs2]at cn
 have cg:=z7p s [] (by omega) (by decide)
 have hg:=zdi s.cf []
 generalize macB s.cf []=tg at cg hg
 have ci:=zvy [] tg (by decide) (by omega)
 have hit:(intB [] tg).length=32:=zdl _
 generalize intB [] tg=it at ci hit
 refine⟨⟨⟨⟨id,0,hash1 w.leaf,[]⟩,0,it,tg,s,⟨0,w.b⟩⟩,w.leaf,w.c⟩,⟨⟨by show id.length<=_;omega,by show(hash1 w.leaf).length<=_;omega,by show 0<=1000000;decide,by show it.length<=_;omega,by show tg.length<=_;omega,hsm,by show w.b.length<=_;have:=hw.b;omega⟩,rfl,rfl,hw.box,hw.sign,hw.ident,hw.parent,hw.lsig,hw.right,by show w.c.length<=_;have:=hw.c;omega,hw.c,hw.spub⟩,?_⟩
 exact⟨z0y id ident seed w.init w.sig w.a w.b w.c (hash1 w.leaf) x z32 tg it w.leaf s hid cp ct cs zow cn cg ci,zx2 id ident seed w.init w.sig w.a w.b w.c (hash1 w.leaf) x z32 tg it w.leaf s hid cp ct cs zow cn cg ci⟩
abbrev zh7(g:RV)(n:Int):List RV:=[g,nl,nl,nl,nl,nl,I n]
theorem z4c(v:Value)(n:Nat)(hn:n<=1000000):Acts Tryz.prog 101 1 [(0, .box ((zh7 nl n).map .r))] [.own 0] [(0,v)] 1 [(0, .box ((zh7 nl ((n+1:Nat):Int)).map .r))] (.r (bs (zge (5000+(n+1))))):=by
 refine zbc (T:=Tab) mixed Tab_ok Tryz.func101 rfl (by kernel_rfl) rfl ⟨⟨_,_,rfl,rfl,zak,zak⟩,trivial⟩ ?_
 refine zd (m:=((n+1:Nat):Int)) (by omega) (by omega) ?_
 refine zd (m:=((5000+(n+1):Nat):Int)) (by omega) (by omega) ?_
 refine ze (zqz (z7m (5000+(n+1)) (by omega))) ?_
 exact za9 (.inl rfl) [(0,0)] [(2, .r (bs (zge (5000+(n+1)))))] [] rfl (by repeat' (first |exact rfl |exact trivial |exact cr |exact Cv.nil _ |exact⟨rfl,rfl⟩ |refine⟨_,_,rfl,?_,?_⟩ |refine⟨?_,?_⟩)) (by repeat' (first |exact rfl |exact trivial |exact cr |exact Cv.nil _ |exact⟨rfl,rfl⟩ |refine⟨_,_,rfl,?_,?_⟩ |refine⟨?_,?_⟩)) ⟨⟨1000000,rfl⟩,trivial⟩ (cr)
theorem z7g:zab Tryz.prog 100 [] (.r (bs [99,108,117,98])):=by
 refine zaa (T:=Tab) mixed Tab_ok Tryz.func100 rfl (by kernel_rfl) ?_
 refine zw ?_
 exact cr
abbrev zjc:List UInt8:=[99,108,117,98]
theorem zvl(g:List RV)(c:zab Tryz.prog 16 [bs zjc,bs [9],bs (zge (5000+(0+1)))] (.r (.tu [.ptr g,Er 0]))):zab Tryz.prog 32 [] (.r (.tu [.ptr (zh7 (.sl 1 1 [.ptr g]) 1), .b true])):=by
 refine zax (T:=Tab) mixed Tab_ok Tryz.func32 rfl (by kernel_rfl) ?_
 refine ze z7g ?_
 refine zw ?_
 refine zj [(0,0)] [0] (λvs _=>z4c (vs 0) 0 (by decide)) (zi rfl ⟨_,_,rfl,rfl,rfl⟩) rfl ⟨⟨_,_,rfl,cr,_,_,rfl,cr,_,_,rfl,cr,_,_,rfl,cr,_,_,rfl,cr,_,_,rfl,cr,_,_,rfl,cr,rfl⟩,trivial⟩ ⟨zac,trivial⟩ ?_
 refine ze c ?_
 refine zw ?_
 refine zd (m:=0) rfl (by decide) ?_
 refine zt rfl ?_
 refine⟨_,Sub.trans (zad [(0,0)] (S':=⟨[(0, .own 0),(1, .r (.b true))],[(0,some (.box ((zh7 (.sl 1 1 [.ptr g]) 1).map .r)))],1⟩) rfl (by repeat' (first |exact rfl |exact trivial |exact cr |exact Cv.nil _ |exact⟨rfl,rfl⟩ |refine⟨_,_,rfl,?_,?_⟩ |refine⟨?_,?_⟩)) (by repeat' (first |exact rfl |exact trivial |exact cr |exact Cv.nil _ |exact⟨rfl,rfl⟩ |refine⟨_,_,rfl,?_,?_⟩ |refine⟨?_,?_⟩))) (zdu (t:=0) (zh7 (.sl 1 1 [.ptr g]) 1) rfl rfl),?_⟩
 exact⟨_,rfl,cr⟩
theorem zxv: ∃g:GrpV,g.ok zjc/\zab Tryz.prog 32 [] (.r (.tu [.ptr (zh7 (.sl 1 1 [.ptr (grR g.v g.o g.sg)]) 1), .b true])):=by
 obtain⟨g,hg,c,_⟩:=z7f zjc [9] (zge (5000+(0+1))) (by decide) (by decide) (by decide) (zpf _)
 exact⟨g,hg,zvl _ c⟩
end
end Go.Proofs.YtebhngeddnnpkaaGreat.Sx
