import Derived.Test.YtkegaaonpekkgaaGreatXqEt
import Derived.Test.YtkegaaonpekkgaaGreatXqTl
import Derived.Test.YtkegaaonpekkgaaGreatXqMe
import Derived.Test.YtkegaaonpekkgaaGreatXqNx
import Derived.Test.YtkegaaonpekkgaaGreatXqEn
import Derived.Test.YtkegaaonpekkgaaGreatXqVg
import Derived.Test.YtkegaaonpekkgaaGreatXqSxTu
import Derived.Test.YtkegaaonpekkgaaGreatXqSxMg
import Derived.Test.YtkegaaonpekkgaaGreatXqSxBr
namespace Go.Proofs.YtkegaaonpekkgaaGreat.Sx
open Go.RowKit
set_option maxHeartbeats 2000000
abbrev WP:ByteArray:=⟨#[105,110,105,116]⟩
abbrev Vb:ByteArray:=⟨#[115,105,103,110]⟩
abbrev Bf:List RV:=[nl,nl,nl,nl,.i .u8 0,nl,nl,nl]
def ZL(a b c:cT):RV:= .ag [bs a,bs b,bs c]
def vM(box sign ident:cT):Leaf:=⟨box,sign,ident,1,[],[]⟩
section
variable (ident seed x1 p1 q1 x2 p2 q2 sg pk:cT) (hs:seed.length=32)
 (c1:aG 45 [bs seed,vd WP] (.r (bs x1))) (c2:aG 49 [bs x1] (.r (.tu [bs p1,bs q1])))
 (c3:aG 45 [bs seed,vd Qf] (.r (bs x2))) (c4:aG 49 [bs x2] (.r (.tu [bs p2,bs q2])))
 (c5:aG 45 [bs seed,vd Vb] (.r (bs sg))) (c6:aG 50 [bs sg] (.r (.tu [bs pk,Er 0])))
include hs c1 c2 c3 c4 c5 c6
theorem VT(z tx s2:cT)(o:Leaf)(hz:zS64=z)
  (c7:aG 51 [.ag (vM q2 pk ident).c,bs sg,bs [],I 0] (.r (.tu [.ag o.c,Er 0])))
  (c8:aG 52 [.ag (PackP.c ⟨q1,o,z⟩)] (.r (.tu [bs tx,Er 0])))
  (c9:aG 53 [bs sg,vd JU,bs tx] (.r (.tu [bs s2,Er 0]))):
  aG 8 [bs ident,bs seed] (.r (.tu [.ag (PackP.c ⟨q1,o,s2⟩),ZL p1 p2 sg,Er 0])):=by
 refine aT Tryz.func8 rfl ?_
 have hzl:64=z.length:=by rw[<-hz];decide
 refine cX ?_ (by simp only[zb];omega)
 refine ze c1 ?_
 refine ze c2 ?_
 refine ze c3 ?_
 refine ze c4 ?_
 refine ze c5 ?_
 refine ze c6 ?_
 refine cU ?_
 refine zB c7 (zk (Cv.ag (zk (cr) (zk (cr) (zk (cr) (zk (cr) (zk (z8 1) (zk (z8 1) zA))))))) (zk (cr) (zk (z8 1) (zn _)))) ?_
 refine cX ?_
 refine aV ?_
 refine cU ?_
 refine⟨rfl,by decide,by decide,by decide,z.length,z.map U8,hzl,by rw[mG,hz],zw ?_⟩
 refine cU ?_
 refine ze c8 ?_
 refine ze c9 ?_
 refine aV ?_
 refine cU ?_
 refine cU ?_
 refine cU ?_
 refine cU ?_
 exact⟨_,rfl,cr⟩
theorem WC(e:Nat)(he:e≠0)(he2:e<256)
  (c7:aG 51 [.ag (vM q2 pk ident).c,bs sg,bs [],I 0] (.r (.tu [.ag zl.c,Er e]))):
  aG 8 [bs ident,bs seed] (.r (.tu [.ag Bf,.ag [nl,nl,nl],Er e])):=by
 refine aT Tryz.func8 rfl ?_
 refine cX ?_ (by simp only[zb];omega)
 refine ze c1 ?_
 refine ze c2 ?_
 refine ze c3 ?_
 refine ze c4 ?_
 refine ze c5 ?_
 refine ze c6 ?_
 refine cU ?_
 refine zB c7 (zk (Cv.ag (zk (cr) (zk (cr) (zk (cr) (zk (cr) (zk (z8 1) (zk (z8 1) zA))))))) (zk (cr) (zk (z8 1) (zn _)))) ?_
 refine cY ?_ (by simp only[zb];omega)
 refine cU ?_
 refine cU ?_
 exact⟨_,rfl,cr⟩
end
structure PkgV where
 init:cT
 leaf:Leaf
 sig:cT
 a:cT
 b:cT
 c:cT
structure PkgV.ok (v:PkgV):Prop where
 init:v.init.length=32
 box:v.leaf.box.length=32
 sign:v.leaf.sign.length=32
 ident:v.leaf.ident.length<=64
 parent:v.leaf.parent.length=0
 lsig:v.leaf.sig.length=64
 sig:v.sig.length=64
 c:v.c.length=32
 right:v.leaf.right=true
 a:v.a.length=32
 b:v.b.length=32
 spub:v.leaf.sign=pd v.c
theorem QX(ident seed:cT)(hs:seed.length=32)(hi:ident.length<=1000):
  (¬(0<ident.length/\ident.length<=64)/\aG 8 [bs ident,bs seed] (.r (.tu [.ag Bf,.ag [nl,nl,nl],Er 3])))\/
  ((0<ident.length/\ident.length<=64)/\∃v:PkgV,v.ok/\aG 8 [bs ident,bs seed] (.r (.tu [.ag (PackP.c ⟨v.init,v.leaf,v.sig⟩),ZL v.a v.b v.c,Er 0]))):=by
 have c1:=un seed WP (by omega) (by decide)
 have h1:=x7 seed (sB WP) [] (n:=32) (by omega)
 generalize xU seed (sB WP) [] 32=x1 at c1 h1
 have c2:=YF x1 (by omega)
 have k1:=lj x1
 generalize nA x1=p1 at c2 k1
 have e1:=jz p1
 generalize oI p1=q1 at c2 e1
 have c3:=un seed Qf (by omega) (by decide)
 have h2:=x7 seed (sB Qf) [] (n:=32) (by omega)
 generalize xU seed (sB Qf) [] 32=x2 at c3 h2
 have c4:=YF x2 (by omega)
 have k2:=lj x2
 generalize nA x2=p2 at c4 k2
 have e2:=jz p2
 generalize oI p2=q2 at c4 e2
 have c5:=un seed Vb (by omega) (by decide)
 have h3:=x7 seed (sB Vb) [] (n:=32) (by omega)
 generalize xU seed (sB Vb) [] 32=sg at c5 h3
 have c6:=XL sg h3
 have e3:=UX sg
 generalize hpk:pd sg=pk at c6 e3
 have c7:=Z5 (vM q2 pk ident) sg [] 0 ⟨by show q2.length<=_;omega,by show pk.length<=_;omega,by show ident.length<=_;omega,by show 0<=_;omega,by show 0<=_;omega⟩ (by decide) (by show q2.length+pk.length+ident.length+0<=_;omega) (by unfold i64;omega)
 have hr:((vM q2 pk ident).with zS64).right=decide (0<ident.length/\ident.length<=64):=by
  unfold Leaf.right
  refine decide_eq_decide.2 ⟨λh=>⟨h.2.2.1,h.2.2.2.1⟩,λh=>⟨e2,e3,h.1,h.2,by show 0< (1:UInt8).toNat;decide,by show(1:UInt8).toNat<4;decide,.inl rfl,rfl⟩⟩
 have ht:r9 (vM q2 pk ident) 0=true:=rfl
 by_cases hz: ¬(0<ident.length/\ident.length<=64)
 ·refine .inl ⟨hz,?_⟩
  have he:sh (vM q2 pk ident) sg 0=3:=by
   unfold sh
   rw[hr,bD hz]
   rfl
  rw[nF,he,cQ (by decide)]at c7
  exact WC ident seed x1 p1 q1 x2 p2 q2 sg pk hs c1 c2 c3 c4 c5 c6 3 (by decide) (by decide) c7
 ·have hz:=Decidable.not_not.1 hz
  refine .inr ⟨hz,?_⟩
  have he:sh (vM q2 pk ident) sg 0=0:=by
   unfold sh
   rw[hr,bE hz,cO rfl,cO ht,cO h3]
  rw[nF,cO he]at c7
  have hol:(tW (vM q2 pk ident) sg [] 0).right=true:=by
   unfold Leaf.right
   refine bE ⟨e2,e3,hz.1,hz.2,by show 0< (1:UInt8).toNat;decide,by show(1:UInt8).toNat<4;decide,.inl rfl,xg _ _ _⟩
  have hsh:(tW (vM q2 pk ident) sg [] 0).box.length=32/\(tW (vM q2 pk ident) sg [] 0).sign.length=32/\(tW (vM q2 pk ident) sg [] 0).ident.length<=64/\(tW (vM q2 pk ident) sg [] 0).src=1/\(tW (vM q2 pk ident) sg [] 0).parent.length=0/\(tW (vM q2 pk ident) sg [] 0).sig.length=64/\(tW (vM q2 pk ident) sg [] 0).sign=pd sg:=⟨e2,e3,hz.2,rfl,rfl,xg _ _ _,hpk.symm⟩
  generalize tW (vM q2 pk ident) sg [] 0=o at c7 hol hsh
  obtain⟨o1,o2,o3,o4,o5,o6,o7⟩:=hsh
  have hzl:zS64.length=64:=by decide
  have hf:PackP.fit ⟨q1,o,zS64⟩:=⟨by show q1.length<=_;omega,⟨by show o.box.length<=_;omega,by show o.sign.length<=_;omega,by show o.ident.length<=_;omega,by show o.parent.length<=_;omega,by show o.sig.length<=_;omega⟩,by show zS64.length<=_;omega⟩
  have c8:=QY ⟨q1,o,zS64⟩ hf
  have hpr:PackP.right ⟨q1,o,zS64⟩=true:=by
   unfold PackP.right
   rw[show(PackP.mk q1 o zS64).leaf=o from rfl,hol,o4]
   show(decide (q1.length=32)&&(true&&decide ((1:UInt8)=1)&&decide (zS64.length=64)))=true
   rw[bE e1,bE hzl]
   rfl
  have htl:(uw ⟨q1,o,zS64⟩).length<=500000000:=by
   have hv:=yf q1
   have hL:=rM o
   simp only[uw,aL,yj]
   omega
  rw[hpr]at c8
  generalize uw ⟨q1,o,zS64⟩=tx at c8 htl
  have c9:=sN sg JU tx h3 (by decide) htl
  have hs2:=xg sg (sB JU) tx
  generalize oo sg (sB JU) tx=s2 at c9 hs2
  exact⟨⟨q1,o,s2,p1,p2,sg⟩,⟨e1,o1,o2,o3,o5,o6,hs2,h3,hol,k1,k2,o7⟩,VT ident seed x1 p1 q1 x2 p2 q2 sg pk hs c1 c2 c3 c4 c5 c6 zS64 tx s2 o rfl c7 c8 c9⟩
theorem N8(ident seed:cT)(hs:seed.length=32)(hi:ident.length<=64):
  (ident.length=0/\aG 8 [bs ident,bs seed] (.r (.tu [.ag Bf,.ag [nl,nl,nl],Er 3])))\/
  (ident.length≠0/\∃v:PkgV,v.ok/\aG 8 [bs ident,bs seed] (.r (.tu [.ag (PackP.c ⟨v.init,v.leaf,v.sig⟩),ZL v.a v.b v.c,Er 0]))):=by
 rcases QX ident seed hs (by omega)with⟨h,c⟩ |⟨h,c⟩
 ·exact .inl ⟨by omega,c⟩
 ·exact .inr ⟨by omega,c⟩
section
set_option maxRecDepth 20000
abbrev ns:RV:= .x (.slice none 0 0)
end
section
variable {P:Program} {S:St} {o:Oper} {x y:Operand} {t t2 e:TypeId} {K:RV->Prop}
theorem Vfun.pn(e:TypeId){cells:List RV}(hop:o.op= .binOp .eql t x y t2)(hx:yv S x=some (.r (.ptr cells)))(hy:yv S y=some (.r (.x (.pointer none))))(hu:P.underlying t=some (.pointer e))(hK:K (.b false)):Vfun P S o [x,y] K:=by
 refine⟨[.ptr cells,.x (.pointer none)],by simp only[tU,hx,hy,St.rv],.b false,λa w k h=>?_,hK⟩
 obtain⟨u,v,e1,h1,h2⟩:=ZI h
 simp only[RV.at_]at h1 h2
 obtain⟨b,q,rfl,_⟩:=h1
 subst h2
 simp only[cJ,List.map_nil,List.cons.injEq,and_true]at e1
 refine⟨.bool false,?_,by simp only[RV.at_]⟩
 simp[execOp,hop,e1.1,e1.2,eqGuard,binOp,lT _ hu]
end
abbrev aO(l:List cT):List (Nat×Ow):=[(0,.ch 22 1 l.length (l.map bs) false)]
def hash1(lf:Leaf):cT:=vk (kR 0 (L1 lf))
theorem mU(lf:Leaf):(hash1 lf).length=32:=wT _
theorem Gi(v:Value)(lf:Leaf)(hlf:lf.fit):yz aP 201 1 (aO [[]]) [.r (yS [L1 lf]),.r (I 0),.own 0] [(0,v)] 1 (aO [hash1 lf]) (.r (bs (hash1 lf))):=by
 refine yk (T:=Tab) mixed Tab_ok Tryz.func201 rfl (by kernel_rfl) rfl ⟨⟨_,_,rfl,rfl,Mm (Nat.succ_pos _),Mm (Nat.succ_pos _)⟩,trivial⟩ ?_
 have ht:=Sa 0 (L1 lf) (tE hlf)
 have hl:=Me 0 (L1 lf) (tE hlf)
 unfold hash1
 generalize kR 0 (L1 lf)=q at ht hl
 generalize U0 0 (L1 lf)=e at ht
 have hs:=uH (jD [q] (by simp;omega))
 have e1:([q]:List cT).flatMap id=q:=by simp
 rw[e1]at hs
 generalize vk q=h at hs
 refine⟨by decide,0,by decide,?_⟩
 refine cY ?_
 refine⟨by decide,0,by decide,?_⟩
 refine zm qN qO (oY lf) ?_
 refine cU ?_
 refine ze ht ?_
 refine zw ?_
 refine ze hs ?_
 refine zD 0 rfl (by decide) ?_
 refine⟨by decide,[bs h],rfl,?_⟩
 refine zD 0 rfl (by decide) ?_
 refine zg rfl ?_
 exact yr (.inl rfl) [(0,0)] [(6,.r (bs h))] [] rfl (by repeat' (first|exact rfl|exact trivial|exact cr|exact z8 _|exact⟨rfl,rfl⟩|refine⟨_,_,rfl,?_,?_⟩|refine⟨?_,?_⟩)) (by repeat' (first|exact rfl|exact trivial|exact cr|exact z8 _|exact⟨rfl,rfl⟩|refine⟨_,_,rfl,?_,?_⟩|refine⟨?_,?_⟩)) ⟨⟨1000000,rfl⟩,trivial⟩ (cr)
theorem Nc(lf:Leaf)(hlf:lf.fit)(hlr:lf.right=true):aG 116 [yS [L1 lf]] (.r (.tu [tk [hash1 lf],Er 0])):=by
 refine yT (T:=Tab) mixed Tab_ok Tryz.func116 rfl (by kernel_rfl) ?_
 refine ze (mo lf hlf hlr) ?_
 refine cX ?_
 refine⟨rfl,(by show(0:Int)<=((1:Nat):Int);decide),(by show((1:Nat):Int).toNat*24<=140737488355328;decide),(by show((1:Nat):Int).toNat<=maxLen;decide),1,[nl],rfl,rfl,Vpub.own ?_⟩
 refine⟨by decide,0,(by show(0:Int)=IntKind.i64.wrap (((1:Nat):Int).tdiv 2);decide),?_⟩
 have hf:=λv=>Gi v lf hlf
 generalize hash1 lf=h at hf
 refine zj [(0,0)] [0] (λvs _=>hf (vs 0)) (zi rfl ⟨_,_,rfl,cr,_,_,rfl,cr,_,_,rfl,rfl,rfl⟩) rfl (by repeat' (first|exact rfl|exact trivial|exact cr|exact z8 _|exact⟨rfl,rfl⟩|refine⟨_,_,rfl,?_,?_⟩|refine⟨?_,?_⟩)) ⟨jj,trivial⟩ ?_
 refine⟨_,xE (id:=0) rfl,?_⟩
 exact⟨_,rfl,cr⟩
theorem YO(lf:Leaf)(hlf:lf.fit)(hlr:lf.right=true):aG 43 [yS [L1 lf]] (.r (.tu [bs (hash1 lf),Er 0])):=by
 refine aT Tryz.func43 rfl ?_
 refine ze (Nc lf hlf hlr) ?_
 refine cX ?_
 refine⟨by decide,0,(by show(0:Int)=IntKind.i64.wrap (((1:Nat):Int).tdiv 2);decide),?_⟩
 refine zm qN qO rfl ?_
 refine zg rfl ?_
 exact⟨_,rfl,cr⟩
abbrev iK(v:ViewP)(o:Leaf)(sg:cT):List RV:=[bs v.ctx.group,.i .u64 v.ctx.epoch,bs v.ctx.tree,bs v.ctx.trans,I v.own,bs v.interim,bs v.tag,bs v.sec.jn,bs v.sec.wl,bs v.sec.ep,bs v.sec.sd,bs v.sec.en,bs v.sec.ex,bs v.sec.au,bs v.sec.xt,bs v.sec.cf,bs v.sec.mb,bs v.sec.rs,bs v.sec.it,wQ [v.key],yS [L1 o],bs sg,ns,ns]
theorem VG(v:ViewP)(o:Leaf)(sg:cT)(hv:v.sm)(ho:o.fit)(hs:sg.length<=1000000):aG 69 [.ag (iK v o sg)] (.r (.ag (iK v o sg))):=by
 refine aT Tryz.func69 rfl ?_
 have c1:=QI v hv
 have c2:=Ra o ho
 refine aV ?_
 refine cU ?_
 refine ze c1 ?_
 refine ze c2 ?_
 refine ze (x4 sg (by omega)) ?_
 refine zE 1 (zC mixed Tab_ok ?_)
 refine cX ?_
 refine zE 1 (zC mixed Tab_ok ?_)
 refine cX ?_
 refine cU ?_
 refine cU ?_
 exact cr
abbrev Zl(v:ViewP)(o:Leaf)(sg:cT):List RV:=[bs v.ctx.group,.i .u64 v.ctx.epoch,bs v.ctx.tree,bs v.ctx.trans,I v.own,bs v.interim,bs v.tag,bs v.sec.jn,bs v.sec.wl,bs v.sec.ep,bs v.sec.sd,bs v.sec.en,bs v.sec.ex,bs v.sec.au,bs v.sec.xt,bs v.sec.cf,bs v.sec.mb,bs v.sec.rs,bs v.sec.it,wQ [v.key],yS [L1 o],bs sg,ns,ns,ns,ns,.i .u64 0,ns,ns,I 0,ns,ns,ns,ns,ns,ns,ns,ns,ns,ns,ns,ns,ns,ns,ns,ns,ns,ns,ns]
theorem GB(v:ViewP)(o:Leaf)(sg:cT)(hv:v.sm)(ho:o.fit)(hs:sg.length<=1000000):aG 17 [.ptr (Zl v o sg)] (.r (.ag (iK v o sg))):=by
 refine aT Tryz.func17 rfl ?_
 have c1:=VG v o sg hv ho hs
 refine Vfun.pn _ rfl rfl rfl Tryz.underlying24 (zq ?_)
 refine cU ?_
 refine ze c1 ?_
 refine cU ?_
 exact cr
theorem qk:aG 46 [] (.r (bs z32)):=by
 refine aT Tryz.func46 rfl ?_
 refine⟨rfl,by decide,by decide,by decide,_,_,rfl,bt,zw ?_⟩
 exact cr
theorem nY(o:Leaf):Cv (.sl 10 1 [.i .u8 1,bs o.box,bs o.sign,bs o.ident,U8 o.src,bs o.parent,bs o.sig,nl,nl,nl]) (yS [L1 o]):=
 Cv.sl (zk (cr) (zk (cr) (zk (cr) (zk (cr) (zk (cr) (zk (cr) (zk (cr) (zk (z8 1) (zk (z8 1) (zk (z8 1) zA))))))))))
theorem Kh(id ident seed q1 s2 p1 p2 sg th x z tg it:cT)(o:Leaf)(s:SecP)(hid:id.length<=64)
  (cp:aG 8 [bs ident,bs seed] (.r (.tu [.ag (PackP.c ⟨q1,o,s2⟩),ZL p1 p2 sg,Er 0])))
  (ct:aG 43 [yS [L1 o]] (.r (.tu [bs th,Er 0])))
  (cs:aG 45 [bs seed,vd VB] (.r (bs x)))
  (cz:aG 46 [] (.r (bs z)))
  (cn:aG 44 [bs x,bs z,.ag (CtxP.c ⟨id,0,th,[]⟩)] (.r (.ag s.c)))
  (cg:aG 47 [.ag s.c,bs []] (.r (bs tg)))
  (ci:aG 48 [bs [],bs tg] (.r (bs it))):
  aG 7 [bs id,bs ident,bs seed] (.r (.tu [.ptr (Zl ⟨⟨id,0,th,[]⟩,0,it,tg,s,⟨0,p2⟩⟩ o sg),Er 0])):=by
 refine yT (T:=Tab) mixed Tab_ok Tryz.func7 rfl (by kernel_rfl) ?_
 refine cX ?_ (by simp only[zb];omega)
 refine ze cp ?_
 refine cX ?_
 refine cU ?_
 refine zw ?_
 refine ze (x4 id (by omega)) ?_
 refine zB ct (zk (nY o) zA) ?_
 refine aV ?_
 refine ze cs ?_
 refine ze cz ?_
 refine cU ?_
 refine zB cn (zk (cr) (zk (cr) (zk (Cv.ag (zk (cr) (zk (cr) (zk (cr) (zk (z8 1) zA))))) zA))) ?_
 refine cU ?_
 refine zB cg (zk (cr) (zk (z8 1) zA)) ?_
 refine zB ci (zk (z8 1) (zk (cr) zA)) ?_
 refine zw ?_
 refine cU ?_
 refine⟨_,Sub.trans (zX [(0,6)] (S':=⟨[(6,.own 0),(7,.r (Er 0))],[(0,some (.box ((Zl ⟨⟨id,0,th,[]⟩,0,it,tg,s,⟨0,p2⟩⟩ o sg).map TF.r)))],1⟩) rfl (by repeat' (first|exact rfl|exact trivial|exact cr|exact z8 _|exact⟨rfl,rfl⟩|refine⟨_,_,rfl,?_,?_⟩|refine⟨?_,?_⟩)) (by repeat' (first|exact rfl|exact trivial|exact cr|exact z8 _|exact nY _|exact⟨rfl,rfl⟩|refine⟨_,_,rfl,?_,?_⟩|refine⟨?_,?_⟩))) (xO (t:=6) (Zl ⟨⟨id,0,th,[]⟩,0,it,tg,s,⟨0,p2⟩⟩ o sg) rfl rfl),?_⟩
 exact⟨_,rfl,cr⟩
theorem N1(id ident seed q1 s2 p1 p2 sg th x z tg it:cT)(o:Leaf)(s:SecP)(hid:id.length<=64)
  (cp:aG 8 [bs ident,bs seed] (.r (.tu [.ag (PackP.c ⟨q1,o,s2⟩),ZL p1 p2 sg,Er 0])))
  (ct:aG 43 [yS [L1 o]] (.r (.tu [bs th,Er 0])))
  (cs:aG 45 [bs seed,vd VB] (.r (bs x)))
  (cz:aG 46 [] (.r (bs z)))
  (cn:aG 44 [bs x,bs z,.ag (CtxP.c ⟨id,0,th,[]⟩)] (.r (.ag s.c)))
  (cg:aG 47 [.ag s.c,bs []] (.r (bs tg)))
  (ci:aG 48 [bs [],bs tg] (.r (bs it))):
  iM aP 7 [bs id,bs ident,bs seed] (Zl ⟨⟨id,0,th,[]⟩,0,it,tg,s,⟨0,p2⟩⟩ o sg) [Er 0]:=by
 refine W4 (T:=Tab) mixed Tab_ok Tryz.func7 rfl (by kernel_rfl) ?_
 refine cX ?_ (by simp only[zb];omega)
 refine ze cp ?_
 refine cX ?_
 refine cU ?_
 refine zw ?_
 refine ze (x4 id (by omega)) ?_
 refine zB ct (zk (nY o) zA) ?_
 refine aV ?_
 refine ze cs ?_
 refine ze cz ?_
 refine cU ?_
 refine zB cn (zk (cr) (zk (cr) (zk (Cv.ag (zk (cr) (zk (cr) (zk (cr) (zk (z8 1) zA))))) zA))) ?_
 refine cU ?_
 refine zB cg (zk (cr) (zk (z8 1) zA)) ?_
 refine zB ci (zk (z8 1) (zk (cr) zA)) ?_
 refine zw ?_
 refine cU ?_
 refine⟨by first|exact .inl rfl|exact .inr rfl,_,(zX [(0,6)] (S':=⟨[(6,.own 0),(7,.r (Er 0))],[(0,some (.box ((Zl ⟨⟨id,0,th,[]⟩,0,it,tg,s,⟨0,p2⟩⟩ o sg).map TF.r)))],1⟩) rfl (by repeat' (first|exact rfl|exact trivial|exact cr|exact z8 _|exact⟨rfl,rfl⟩|refine⟨_,_,rfl,?_,?_⟩|refine⟨?_,?_⟩)) (by repeat' (first|exact rfl|exact trivial|exact cr|exact z8 _|exact nY _|exact⟨rfl,rfl⟩|refine⟨_,_,rfl,?_,?_⟩|refine⟨?_,?_⟩))),rfl,zn _⟩
theorem EB(pv:Value)(lf:Leaf):yz aP 373 1 [(0,.box [.r (yS [L1 lf])])] [.r (I 0),.own 0] [(0,pv)] 2 [(0,.box [.r (yS [L1 lf])])] (.r (.tu [.ag (L1 lf).c,.b true])):=by
 refine yk (T:=Tab) mixed Tab_ok Tryz.func373 rfl (by kernel_rfl) rfl ⟨⟨_,_,rfl,rfl,ym,ym⟩,trivial⟩ ?_
 refine zm qN qO (oY lf) ?_
 refine cU ?_
 exact yr (.inl rfl) [(0,0),(1,1)] [(3,.own 1),(4,.r (.b true))] [(1,some (.box ((L1 lf).c.map .r)))] rfl ⟨rfl,cr,⟨rfl,rfl⟩,trivial⟩ ⟨(aA aZ),(aD (aB aZ)),trivial⟩ ⟨⟨1000000,rfl⟩,trivial⟩ (za rfl rfl ⟨_,rfl,cr⟩)
structure VD where
 lf:Leaf
 i:Int
 only:Bool
 p0:Value
 p1:Value
 p2:Value
 p3:Value
 p4:Value
 p5:Value
 p6:Value
 p7:Value
 p8:Value
def VD.fat(c:VD):Value:= .func (.func 373) #[] #[c.p0]
def VD.vis(c:VD):Value:= .func (.func 450) #[] #[c.p3,c.p6,c.p8,c.p4]
def VD.chi(c:VD):Value:= .func (.func 448) #[] #[c.p1,c.p7,c.p2,c.p5]
def VD.mem(c:VD)(A B:List Int)(ok:Bool):List (Nat×Ow):=
 [(0,.box [.r (yS [L1 c.lf])]),(1,.box [.r (I c.i)]),(2,.box [.r (.b c.only)]),(3,.box [.r (.x c.fat)]),(4,.box [.own 9]),(5,.box [.own 10]),(6,.box [.r (.b ok)]),(7,.box [.r (.x c.vis)]),(8,.box [.r (.x c.chi)]),
 (9,.ch 3 1 A.length (A.map I) false),(10,.ch 3 1 B.length (B.map I) false)]
def VD.nms(c:VD):List (Nat×Value):=[(0,c.p0),(1,c.p1),(2,c.p2),(3,c.p3),(4,c.p4),(5,c.p5),(6,c.p6),(7,c.p7),(8,c.p8)]
theorem VD.same(c:VD)(A B A' B':List Int)(ok ok':Bool):mZ (c.mem A B ok) (c.mem A' B' ok') c.nms:=
 ⟨⟨_,_,rfl,rfl,ym,ym⟩,⟨_,_,rfl,rfl,ym,ym⟩,⟨_,_,rfl,rfl,ym,ym⟩,⟨_,_,rfl,rfl,ym,ym⟩,⟨_,_,rfl,rfl,ym,ym⟩,⟨_,_,rfl,rfl,ym,ym⟩,⟨_,_,rfl,rfl,ym,ym⟩,⟨_,_,rfl,rfl,ym,ym⟩,⟨_,_,rfl,rfl,ym,ym⟩,trivial⟩
theorem VD.visit(c:VD)(A B:List Int)(ok:Bool)(hlf:c.lf.fit)(hA:A.length<=1000000):
  yz aP 450 11 (c.mem A B ok) [.r (I 0),.r (I 0),.r (is []),.own 3,.own 6,.own 8,.own 4] c.nms 11 (c.mem (A++[(0:Int)]) B ok) (.r (.tu [])):=by
 refine yk (T:=Tab) mixed Tab_ok Tryz.func450 rfl (by kernel_rfl) rfl (c.same _ _ _ _ _ _) ?_
 refine zj [(0,0)] [0] (λvs _=>EB (vs 0) c.lf) (Handed.clo (fs:=[.r (I _)]) (cs:=[.own 0]) rfl rfl ⟨_,_,rfl,cr,rfl⟩ ⟨_,_,rfl,⟨0,1000000,rfl,rfl⟩,rfl⟩) rfl ⟨(aA aZ),trivial⟩ ⟨zY,trivial⟩ ?_
 refine cX ?_
 refine cX ?_
 refine⟨by decide,_,rfl,?_⟩
 refine cX ?_
 refine zw ?_
 refine z7 (j:=(A++[(0:Int)]).length) (zs:=(A++[(0:Int)]).map I) (by simp only[maxLen,aL];omega) (by simp;omega) (by rw[aL (bs:=[_])];rfl) (List.map_append (f:=I) (l₁:=A) (l₂:=[(0:Int)])).symm ?_
 refine⟨by decide,_,rfl,?_⟩
 refine cX ?_
 exact yr (.inr rfl) [(0,0),(1,1),(2,2),(3,3),(4,4),(5,5),(6,6),(7,7),(8,8),(9,15),(10,10)] [] [] rfl ⟨⟨rfl,rfl⟩,⟨rfl,rfl⟩,⟨rfl,rfl⟩,⟨rfl,rfl⟩,⟨rfl,rfl⟩,⟨rfl,rfl⟩,⟨rfl,rfl⟩,⟨rfl,rfl⟩,⟨rfl,rfl⟩,trivial⟩ ⟨(aA aZ),(aA aZ),(aA aZ),(aA aZ),⟨_,_,rfl,rfl,rfl⟩,⟨_,_,rfl,rfl,rfl⟩,(aA aZ),(aA aZ),(aA aZ),⟨rfl,rfl,rfl,rfl,zn _⟩,⟨rfl,rfl,rfl,rfl,zn _⟩,trivial⟩ ⟨⟨1000000,rfl⟩,⟨1000001,rfl⟩,⟨1000002,rfl⟩,⟨1000003,rfl⟩,⟨1000004,rfl⟩,⟨1000005,rfl⟩,⟨1000006,rfl⟩,⟨1000007,rfl⟩,⟨1000008,rfl⟩,trivial⟩ ⟨_,rfl,cr⟩
theorem Kj(lf:Leaf)(hlf:lf.fit)(p0:Value)(i:Int)(only:Bool):
  yz aP 372 1 [(0,.box [.r (yS [L1 lf])])] [.r (I 1),.r (I i),.r (.b only),.r (.x (.func (.func 373) #[] #[p0]))] [(0,p0)] 11 [(0,.box [.r (yS [L1 lf])])] (.r (.tu [is [0],is [],.b true])):=by
 refine yk (T:=Tab) mixed Tab_ok Tryz.func372 rfl (by kernel_rfl) rfl ⟨⟨_,_,rfl,rfl,ym,ym⟩,trivial⟩ ?_
 refine Vstep.nm 1 1000001 rfl λp1=>Vstep.nm 7 1000007 rfl λp7=>Vstep.nm 2 1000002 rfl λp2=>Vstep.nm 5 1000005 rfl λp5=>Vstep.mkfunX [p1,p7,p2,p5] rfl ⟨_,_,rfl,⟨1,1000001,rfl,rfl⟩,_,_,rfl,⟨7,1000007,rfl,rfl⟩,_,_,rfl,⟨2,1000002,rfl,rfl⟩,_,_,rfl,⟨5,1000005,rfl,rfl⟩,rfl⟩ ?_
 refine Vstep.nm 3 1000003 rfl λp3=>Vstep.nm 6 1000006 rfl λp6=>Vstep.nm 8 1000008 rfl λp8=>Vstep.nm 4 1000004 rfl λp4=>Vstep.mkfunX [p3,p6,p8,p4] rfl ⟨_,_,rfl,⟨3,1000003,rfl,rfl⟩,_,_,rfl,⟨6,1000006,rfl,rfl⟩,_,_,rfl,⟨8,1000008,rfl,rfl⟩,_,_,rfl,⟨4,1000004,rfl,rfl⟩,rfl⟩ ?_
 refine Vdraw.cut 3 (by kernel_rfl) ?_
 refine ze (OX 1) ?_
 have hvis:=VD.visit ⟨lf,i,only,p0,p1,p2,p3,p4,p5,p6,p7,p8⟩ [] [] true hlf (by decide)
 simp only[cG]at hvis
 refine zJ (Sub.trans (w8 false 4 0 3 1 rfl rfl) (w8 false 5 0 3 1 rfl rfl)) ?_
 refine zj [(0,0),(1,1),(2,2),(3,3),(4,4),(5,5),(6,6),(7,7),(8,8),(9,9),(10,10)] [0,1,2,3,4,5,6,7,8] (λvs hv=>oC (by simp only[List.map];rw[hv 0 0 1000000 _ rfl rfl,hv 1 1 1000001 _ rfl rfl,hv 2 2 1000002 _ rfl rfl,hv 3 3 1000003 _ rfl rfl,hv 4 4 1000004 _ rfl rfl,hv 5 5 1000005 _ rfl rfl,hv 6 6 1000006 _ rfl rfl,hv 7 7 1000007 _ rfl rfl,hv 8 8 1000008 _ rfl rfl];rfl) hvis) (Handed.clo (fs:=[.r (I _),.r (I _),.r (is [])]) (cs:=[.own 3,.own 6,.own 8,.own 4]) rfl rfl ⟨_,_,rfl,cr,_,_,rfl,cr,_,_,rfl,z8 1,rfl⟩ ⟨_,_,rfl,⟨3,1000003,rfl,rfl⟩,_,_,rfl,⟨6,1000006,rfl,rfl⟩,_,_,rfl,⟨8,1000008,rfl,rfl⟩,_,_,rfl,⟨4,1000004,rfl,rfl⟩,rfl⟩) rfl ⟨(aA aZ),(aA aZ),(aA aZ),(aA aZ),⟨_,_,rfl,rfl,rfl⟩,⟨_,_,rfl,rfl,rfl⟩,(aA aZ),(aA aZ),(aA aZ),⟨rfl,rfl,rfl,rfl,zn _⟩,⟨rfl,rfl,rfl,rfl,zn _⟩,trivial⟩ ⟨zY,zY,zY,zY,zY,zY,zY,zY,zY,jj,jj,trivial⟩ ?_
 refine Vdraw.code (Vcode.float mixed Tab_ok 5 [⟨0,19,.own 9,[]⟩,⟨1,20,.own 10,[]⟩,⟨2,21,.r (.b true),[]⟩] [(3,[0]),(4,[1])] (by kernel_rfl) (F:=[(8,.own 4),(9,.own 5),(10,.own 6),(1000000,.nm 0 p0)]) (O:=[(0,some (.box [.r (yS [L1 lf])])),(4,some (.box [.own 9])),(5,some (.box [.own 10])),(6,some (.box [.r (.b true)])),(9,some (.ch 3 1 1 [I 0] false)),(10,some (.ch 3 1 0 [] false))]) (nx:=11) (zN [(0,0),(4,4),(5,5),(6,6),(9,20),(10,21)] ⟨(aA aZ),⟨_,_,rfl,rfl,rfl⟩,⟨_,_,rfl,rfl,rfl⟩,(aA aZ),⟨rfl,rfl,rfl,rfl,zn _⟩,⟨rfl,rfl,rfl,rfl,zn _⟩,trivial⟩) ?_)
 refine⟨rfl,⟨λY=>zo _,λY=>zo _,λY=>zo _,trivial⟩,[(8,.own 4),(9,.own 5),(10,.own 6),(1000000,.nm 0 p0)],(4,some (.box [.own 9]))::[(0,some (.box [.r (yS [L1 lf])])),(4,some (.box [.own 9])),(5,some (.box [.own 10])),(6,some (.box [.r (.b true)])),(9,some (.ch 3 1 1 [I 0] false)),(10,some (.ch 3 1 0 [] false))],11,λY=>zo _,?_⟩
 refine⟨rfl,⟨λY=>zo _,λY=>zo _,λY=>zo _,trivial⟩,[(8,.own 4),(9,.own 5),(10,.own 6),(1000000,.nm 0 p0)],(5,some (.box [.own 10]))::(4,some (.box [.own 9]))::[(0,some (.box [.r (yS [L1 lf])])),(4,some (.box [.own 9])),(5,some (.box [.own 10])),(6,some (.box [.r (.b true)])),(9,some (.ch 3 1 1 [I 0] false)),(10,some (.ch 3 1 0 [] false))],11,λY=>zo _,?_⟩
 refine⟨rfl,⟨λY=>zo _,λY=>zo _,λY=>zo _,trivial⟩,?_⟩
 refine SQ (Sub.trans (xE (id:=9) rfl) (xE (id:=10) rfl)) ?_
 exact yr (.inl rfl) [(0,0),(4,4),(5,5),(6,6),(9,9),(10,10)] [(8,.own 4),(9,.own 5),(10,.own 6)] [(4,some (.box [.own 9])),(5,some (.box [.own 10])),(6,some (.box [.r (.b true)])),(9,some (.ch 3 1 1 [I 0] true)),(10,some (.ch 3 1 0 [] true))] rfl ⟨rfl,rfl,rfl,⟨rfl,rfl⟩,trivial⟩ ⟨(aA aZ),⟨_,_,rfl,rfl,rfl⟩,⟨_,_,rfl,rfl,rfl⟩,(aA aZ),⟨rfl,rfl,rfl,rfl,zn _⟩,⟨rfl,rfl,rfl,rfl,zn _⟩,trivial⟩ ⟨⟨1000000,rfl⟩,trivial⟩ ⟨_,rfl,cr⟩
abbrev vg(lf:Leaf):Lean_:=sD (L1 lf)
theorem Nv(lf:Leaf):aG 195 [yS [L1 lf],I 0] (.r (.b true)):=by
 refine aT Tryz.func195 rfl ?_
 refine zt rfl ?_
 refine ze (mR lf) ?_
 refine zt rfl ?_
 refine zd (m:=0) rfl (by decide) ?_
 refine zm qN qO (oY lf) ?_
 refine zg rfl ?_
 refine zt rfl ?_
 exact cr
theorem Ub(lf:Leaf)(hlf:lf.fit)(hlr:lf.right=true):aG 112 [yS [L1 lf],I 0] (.r (.tu [.ag lf.c,.b true])):=by
 refine aT Tryz.func112 rfl ?_
 refine ze (mo lf hlf hlr) ?_
 refine zu rfl ?_
 refine ze (Nv lf) ?_
 refine cX ?_
 refine zd (m:=0) rfl (by decide) ?_
 refine zm qN qO (oY lf) ?_
 refine cU ?_
 refine ze (sL (L1 lf) (tE hlf) (ww _ hlf)) ?_
 refine Vsem.fieldN Tab_ok rfl rfl rfl rfl rfl rfl rfl (cE rfl) rfl ?_
 refine cU ?_
 exact⟨_,rfl,cr⟩
theorem G8(lf:Leaf)(hlf:lf.fit)(hlr:lf.right=true)(only:Bool):aG 273 [yS [L1 lf],I 0,.b only] (.r (.tu [(vg lf).pr,Er 0])):=by
 refine yT (T:=Tab) mixed Tab_ok Tryz.func273 rfl (by kernel_rfl) ?_
 refine ze (Nc lf hlf hlr) ?_
 refine cX ?_
 refine ze (Ub lf hlf hlr) ?_
 refine cX ?_
 refine Vcode.run Tab_ok ?_
 refine zd (m:=2) rfl BP ?_
 refine⟨by decide,1,by decide,?_⟩
 refine Vstep.mapMk 2000001 rfl λb1=>?_
 refine Vstep.mapMk 2000002 rfl λb2=>?_
 refine Vstep.nm 0 1000000 rfl λp0=>Vstep.mkfunX [p0] rfl ⟨_,_,rfl,⟨0,1000000,rfl,rfl⟩,rfl⟩ ?_
 refine zj [(0,0)] [0] (λvs hv=>oC (by simp only[List.map];rw[hv 0 0 1000000 _ rfl rfl]) (Kj lf hlf p0 0 only)) (zi rfl ⟨_,_,rfl,cr,_,_,rfl,cr,_,_,rfl,cr,_,_,rfl,cr,rfl⟩) rfl ⟨(aA aZ),trivial⟩ ⟨zY,trivial⟩ ?_
 refine zE 2 (zC mixed Tab_ok ?_)
 refine cY ?_
 refine zm qN qO rfl ?_
 refine zg rfl ?_
 refine aV ?_
 refine zm qN qO (oY lf) ?_
 refine cU ?_
 refine Vstep.mapPut 3 2000001 rfl rfl rfl rfl rfl rfl rfl jh nJ rfl ?_
 refine zd (m:=1) rfl (by decide) ?_
 refine zC mixed Tab_ok ?_
 refine cX ?_
 refine zE 1 (zC mixed Tab_ok ?_)
 refine cX ?_
 refine cU ?_
 refine⟨_,Sub.trans (oA (id:=1) (i:=2) (im:=3) (gh:=2000001) rfl rfl rfl rfl (by decide)) (oA (id:=1) (i:=3) (im:=4) (gh:=2000002) rfl rfl rfl rfl (by decide)),?_⟩
 refine cU ?_
 exact⟨_,rfl,cr⟩
theorem G4(lf:Leaf)(hlf:lf.fit)(hlr:lf.right=true):aG 182 [yS [L1 lf],I 0] (.r (.tu [.ag (vg lf).c,Er 0])):=by
 refine aT Tryz.func182 rfl ?_
 have c2:=LJ 1 0 (vg lf).opn [] (by show 1<=1000000;decide) (by decide) (λs hs=>by
  rw[List.mem_singleton.1 hs]
  exact tE hlf) (λs hs=>by
  rw[List.mem_singleton.1 hs]
  exact⟨by show(-9223372036854775808:Int)<=0;decide,by show(0:Int)<=9223372036854775807;decide⟩) (λs hs=>by cases hs) (λs hs=>by cases hs)
 have e:eh 1 0 (vg lf).opn []=vg lf:=by simp[eh,xS,sD,ua,xP]
 rw[e]at c2
 refine ze (G8 lf hlf hlr false) ?_
 refine cX ?_
 refine cU ?_
 refine ze c2 ?_
 refine cU ?_
 exact⟨_,rfl,cr⟩
theorem RF{jn wl ep:cT}(h1:jn.length=32)(h2:wl.length=32)(h3:ep.length=32):(Ts jn wl ep).sm:=by
 have q: ∀l:cT,(xU ep l [] 32).length<=1000000:=λl=>by rw[x7 ep l [] (n:=32) (by omega)];decide
 exact⟨by show jn.length<=_;omega,by show wl.length<=_;omega,by show ep.length<=_;omega,q _,q _,q _,q _,q _,q _,q _,q _,q _⟩
structure GrpV where
 v:ViewP
 o:Leaf
 sg:cT
structure GrpV.ok (g:GrpV) (id:cT):Prop where
 sm:g.v.sm
 own:g.v.own=0
 ctx:g.v.ctx=⟨id,0,hash1 g.o,[]⟩
 box:g.o.box.length=32
 sign:g.o.sign.length=32
 ident:g.o.ident.length<=64
 parent:g.o.parent.length=0
 lsig:g.o.sig.length=64
 right:g.o.right=true
 sg:g.sg.length<=1000000
 sgl:g.sg.length=32
 spub:g.o.sign=pd g.sg
theorem EC(id ident seed:cT)(hid:id.length<=64)(hi:ident.length<=64)(h0:ident.length≠0)(hs:seed.length=32):
  ∃g:GrpV,g.ok id/\aG 7 [bs id,bs ident,bs seed] (.r (.tu [.ptr (Zl g.v g.o g.sg),Er 0]))/\iM aP 7 [bs id,bs ident,bs seed] (Zl g.v g.o g.sg) [Er 0]:=by
 rcases N8 ident seed hs hi with⟨e0,_⟩ |⟨_,w,hw,cp⟩
 ·exact absurd e0 h0
 have hf:w.leaf.fit:=⟨by have:=hw.box;omega,by have:=hw.sign;omega,by have:=hw.ident;omega,by have:=hw.parent;omega,by have:=hw.lsig;omega⟩
 have ct:=YO w.leaf hf hw.right
 have hh:=mU w.leaf
 have cs:=un seed VB (by omega) (by decide)
 have hx:=x7 seed (sB VB) [] (n:=32) (by omega)
 generalize xU seed (sB VB) [] 32=x at cs hx
 have cn:=YN x z32 ⟨id,0,hash1 w.leaf,[]⟩ ⟨by show id.length<=_;omega,by show 0<18446744073709551616;decide,by show(hash1 w.leaf).length<=_;omega,by show 0<=1000000;decide⟩ (by show id.length+(hash1 w.leaf).length+0<=_;omega) (by omega) (by decide)
 obtain⟨s,hs2,hsm,hcf⟩: ∃s:SecP,s=iw (rF x z32 (yV ⟨id,0,hash1 w.leaf,[]⟩)) (yV ⟨id,0,hash1 w.leaf,[]⟩)/\s.sm/\s.cf.length=32:=by
  refine⟨_,rfl,RF (x7 _ _ _ (n:=32) (by omega)) (x7 _ _ _ (n:=32) (by omega)) (x7 _ _ _ (n:=32) (by omega)),x7 _ _ _ (n:=32) (by omega)⟩
 rw[<-hs2]at cn
 have cg:=VZ s [] (by omega) (by decide)
 have hg:=x8 s.cf []
 generalize wh s.cf []=tg at cg hg
 have ci:=jL [] tg (by decide) (by omega)
 have hit:(gz [] tg).length=32:=wT _
 generalize gz [] tg=it at ci hit
 refine⟨⟨⟨⟨id,0,hash1 w.leaf,[]⟩,0,it,tg,s,⟨0,w.b⟩⟩,w.leaf,w.c⟩,⟨⟨by show id.length<=_;omega,by show(hash1 w.leaf).length<=_;omega,by show 0<=1000000;decide,by show it.length<=_;omega,by show tg.length<=_;omega,hsm,by show w.b.length<=_;have:=hw.b;omega⟩,rfl,rfl,hw.box,hw.sign,hw.ident,hw.parent,hw.lsig,hw.right,by show w.c.length<=_;have:=hw.c;omega,hw.c,hw.spub⟩,?_⟩
 exact⟨Kh id ident seed w.init w.sig w.a w.b w.c (hash1 w.leaf) x z32 tg it w.leaf s hid cp ct cs qk cn cg ci,N1 id ident seed w.init w.sig w.a w.b w.c (hash1 w.leaf) x z32 tg it w.leaf s hid cp ct cs qk cn cg ci⟩
abbrev BH:List RV:=[nl,nl,nl,U8 0,nl,nl]
abbrev BI:List RV:=[nl,nl,nl,nl,U8 0,nl,nl,nl]
abbrev BJ:List RV:=[U8 0,nl,nl,nl,nl,U8 0,nl,nl,nl,nl,nl,nl,U8 0,nl,nl,I 0]
abbrev J4(l:Leaf):List RV:=[bs l.box,bs l.sign,bs l.ident,U8 l.src,bs l.parent,bs l.sig,nl]
abbrev nX(l:Leaf):List RV:=[nl,.b true,bs l.box,bs l.sign,bs l.ident,U8 l.src,bs l.parent,bs l.sig,nl]
structure MsgP where
 group:cT
 epoch:Nat
 frm:Nat
 lf:Leaf
 sig:cT
 tag:cT
 mem:cT
abbrev MsgP.c(m:MsgP):List RV:=[bs m.group,.i .u64 m.epoch,I m.frm,U8 3,U8 0,nl,nl,nl,nl,U8 0,nl,nl,nl,nl,nl,nl,U8 0,nl,nl,I 0,nl,.b true,bs m.lf.box,bs m.lf.sign,bs m.lf.ident,U8 m.lf.src,bs m.lf.parent,bs m.lf.sig,nl,bs m.sig,bs m.tag,bs m.mem]
structure MsgP.sm (m:MsgP):Prop where
 group:m.group.length<=64
 epoch:m.epoch<18446744073709551616
 frm:m.frm<65536
 sig:m.sig.length=64
 tag:m.tag.length=32
 mem:m.mem.length=32
 lf:m.lf.right=true
 src:m.lf.src=3
 par:m.lf.parent.length=0
theorem oO{l:Leaf}(h:l.right=true):l.box.length=32/\l.sign.length=32/\l.ident.length<=64/\l.parent.length<=32/\l.sig.length=64:=by
 simp only[Leaf.right,decide_eq_true_eq]at h
 omega
theorem ug{l:Leaf}(h:l.right=true):l.fit:=by
 obtain⟨h1,h2,h3,h4,h5⟩:=oO h
 exact⟨by omega,by omega,by omega,by omega,by omega⟩
theorem VS:aG 114 [bs [],bs []] (.r (.b true)):=by
 have h:=sn [] []
 simpa using h
abbrev Ot:List RV:=[U8 0,nl,nl,nl,U8 0,nl,nl,nl,nl,nl]
theorem Ke(n:Nat)(h:n<65536):aG 245 [I n] (.r (.b true)):=by
 refine aT Tryz.func245 rfl ?_
 refine zt (by simp only[zb];omega) ?_
 refine zt (by simp only[zb];omega) ?_
 exact cr
theorem Ss:aG 433 [.ag Ot,.ag Ot] (.r (.b true)):=by
 have ce:aG 494 [is [],is []] (.r (.b true)):=by
  have h:=jB [] [] (by simp) (by simp)
  simpa using h
 have ci:Cvs [ns,ns] [is [],is []]:=zk (z8 1) (zk (z8 1) zA)
 have cb:=VS
 have cc:Cvs [ns,ns] [bs [],bs []]:=zk (z8 1) (zk (z8 1) zA)
 refine aT Tryz.func433 rfl ?_
 refine aV ?_
 repeat' ((conv=>whnf);refine cU ?_)
 refine zu rfl ?_
 refine zu rfl ?_
 refine zB ce ci ?_
 refine zu rfl ?_
 refine zq ?_
 refine zB cb cc ?_
 refine zB cb cc ?_
 refine zB cb cc ?_
 refine zB cb cc ?_
 refine zB cb cc ?_
 refine zB cb cc ?_
 refine zB cb cc ?_
 exact cr
theorem XD:aG 345 [.ag BH] (.r (.b true)):=by
 refine aT Tryz.func345 rfl ?_
 refine cU ?_
 refine ze Ss ?_
 exact cr
theorem Nx:aG 346 [.ag BI] (.r (.b true)):=by
 refine aT Tryz.func346 rfl ?_
 refine zd (m:=0) rfl (by decide) ?_
 refine zt rfl ?_
 refine cU ?_
 refine ze XD ?_
 exact cr
theorem Ny:aG 248 [.ag BJ] (.r (.b true)):=by
 refine aT Tryz.func248 rfl ?_
 refine zt rfl ?_
 refine cU ?_
 refine ze Nx ?_
 refine cU ?_
 refine ze XD ?_
 refine zt rfl ?_
 exact cr
theorem Uc(f:FuncId):aG 434 [ns,.x (.func (.func f) #[] #[])] (.r (I (-1))):=by
 refine aT Tryz.func434 rfl ?_
 refine zE 1 (zC mixed Tab_ok ?_)
 refine cX ?_
 exact cr
theorem Ph(f:FuncId):aG 347 [ns,.x (.func (.func f) #[] #[])] (.r (.b false)):=by
 refine aT Tryz.func347 rfl ?_
 refine ze (Uc f) ?_
 refine zu rfl ?_
 exact cr
theorem Ud(f:FuncId):aG 495 [ns,.x (.func (.func f) #[] #[])] (.r (I (-1))):=by
 refine aT Tryz.func495 rfl ?_
 refine zE 1 (zC mixed Tab_ok ?_)
 refine cX ?_
 exact cr
theorem Pj(f:FuncId):aG 435 [ns,.x (.func (.func f) #[] #[])] (.r (.b false)):=by
 refine aT Tryz.func435 rfl ?_
 refine ze (Ud f) ?_
 refine zu rfl ?_
 exact cr
theorem Gz(l:Leaf)(hr:l.right=true)(hs:l.src=3):aG 350 [.ag (J4 l)] (.r (.b true)):=by
 refine aT Tryz.func350 rfl ?_
 have h:=qJ l 3 (ug hr)
 rw[hr,hs]at h
 refine cU ?_
 refine ze h ?_
 refine zu rfl ?_
 refine zu rfl ?_
 refine zq ?_
 refine ze (Pj _) ?_
 refine zt rfl ?_
 exact cr
theorem QT(l:Leaf)(hr:l.right=true)(hs:l.src=3):aG 249 [.ag (nX l)] (.r (.b true)):=by
 refine aT Tryz.func249 rfl ?_
 refine zu rfl ?_
 refine ze (Ph _) ?_
 refine zq ?_
 refine cX ?_
 refine cU ?_
 refine ze (Gz l hr hs) ?_
 exact cr
theorem mn(m:MsgP)(hm:m.sm):aG 154 [.ag m.c] (.r (.b true)):=by
 refine aT Tryz.func154 rfl ?_
 obtain⟨h1,h2,h3,h4,h5,h6,h7,h8,h9⟩:=hm
 refine zu (by simp only[zb];omega) ?_
 refine ze (Ke m.frm h3) ?_
 refine zu (by(try simp only[zb])<;>omega) ?_
 refine zu (by(try simp only[zb])<;>omega) ?_
 refine zu (by(try simp only[zb])<;>omega) ?_
 refine zq ?_
 refine cX ?_
 refine cY ?_
 refine cU ?_
 refine ze Ny ?_
 refine cU ?_
 refine ze (QT m.lf h7 h8) ?_
 refine zt (by(try simp only[zb])<;>omega) ?_
 exact cr
end Go.Proofs.YtkegaaonpekkgaaGreat.Sx
