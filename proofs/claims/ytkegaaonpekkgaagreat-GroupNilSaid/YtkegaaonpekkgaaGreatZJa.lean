import Derived.Test.YtkegaaonpekkgaaGreatZHa
import Derived.Test.YtkegaaonpekkgaaGreatZTj
import Derived.Test.YtkegaaonpekkgaaGreatZSha
import Derived.Test.YtkegaaonpekkgaaGreatZTt
import Derived.Test.YtkegaaonpekkgaaGreatZGh
import Derived.Test.YtkegaaonpekkgaaGreatZFu
import Derived.Test.YtkegaaonpekkgaaGreatZTc
import Derived.Test.YtkegaaonpekkgaaGreatZTn
import Derived.Test.YtkegaaonpekkgaaGreatZSxPt
import Derived.Test.YtkegaaonpekkgaaGreatZEe
namespace Go.Proofs.YtkegaaonpekkgaaGreat.Sx
open Go.RowKit
section
variable {P:Program} {S:St} {o:Oper} {x y:Operand} {t t2 e:TypeId} {K:RV->Prop}
theorem Vfun.pn(e:TypeId){cells:List RV}(hop:o.op= .binOp .eql t x y t2)(hx:opr S x=some (.r (.ptr cells)))(hy:opr S y=some (.r (.x (.pointer none))))(hu:P.underlying t=some (.pointer e))(hK:K (.b false)):Vfun P S o [x,y] K:=by
 refine⟨[.ptr cells, .x (.pointer none)],by simp only[oprs,hx,hy,St.rv], .b false,λa w k h=>?_,hK⟩
 obtain⟨u,v,e1,h1,h2⟩:=zmz h
 simp only[RV.at_]at h1 h2
 obtain⟨b,q,rfl,_⟩:=h1
 subst h2
 simp only[List.map_cons,List.map_nil,List.cons.injEq,and_true]at e1
 refine⟨.bool false,?_,by simp only[RV.at_]⟩
 simp[execOp,hop,e1.1,e1.2,eqGuard,binOp,zjj _ hu]
end
abbrev aO(l:List (List UInt8)):List (Nat×Ow):=[(0, .ch 22 1 l.length (l.map bs) false)]
def hash1(lf:Leaf):List UInt8:=shaB (zj5 0 (L1 lf))
theorem zix(lf:Leaf):(hash1 lf).length=32:=zdz _
theorem zdkb(v:Value)(lf:Leaf)(hlf:lf.fit):Acts aP 201 1 (aO [[]]) [.r (nods [L1 lf]), .r (I 0), .own 0] [(0,v)] 1 (aO [hash1 lf]) (.r (bs (hash1 lf))):=by
 refine zag (T:=Tab) mixed Tab_ok Tryz.func201 rfl (by kernel_rfl) rfl ⟨⟨_,_,rfl,rfl,z7a (Nat.succ_pos _),z7a (Nat.succ_pos _)⟩,trivial⟩ ?_
 have ht:=zy1 0 (L1 lf) (zd0 hlf)
 have hl:=z61 0 (L1 lf) (zd0 hlf)
 unfold hash1
 generalize zj5 0 (L1 lf)=q at ht hl
 generalize zwy 0 (L1 lf)=e at ht
 have hs:=zfd (znn [q] (by simp;omega))
 have e1:([q]:List (List UInt8)).flatMap id=q:=by simp
 rw[e1]at hs
 generalize shaB q=h at hs
 refine⟨by decide,0,by decide,?_⟩
 refine zt rfl (zp ?_)
 refine⟨by decide,0,by decide,?_⟩
 refine zm i00 i01 (idx0 lf) ?_
 refine za rfl rfl ?_
 refine ze ht ?_
 refine zw ?_
 refine ze hs ?_
 refine Vadr.mk' 0 rfl (by decide) ?_
 refine⟨by decide,[bs h],rfl,?_⟩
 refine Vadr.mk' 0 rfl (by decide) ?_
 refine zg rfl ?_
 exact zal (.inl rfl) [(0,0)] [(6, .r (bs h))] [] rfl (by repeat' (first|exact rfl|exact trivial|exact cr|exact Cv.nil _|exact⟨rfl,rfl⟩|refine⟨_,_,rfl,?_,?_⟩|refine⟨?_,?_⟩)) (by repeat' (first|exact rfl|exact trivial|exact cr|exact Cv.nil _|exact⟨rfl,rfl⟩|refine⟨_,_,rfl,?_,?_⟩|refine⟨?_,?_⟩)) ⟨⟨1000000,rfl⟩,trivial⟩ (cr)
theorem z5m(lf:Leaf)(hlf:lf.fit)(hlr:lf.right=true):aG 116 [nods [L1 lf]] (.r (.tu [bss [hash1 lf],Er 0])):=by
 refine za1 (T:=Tab) mixed Tab_ok Tryz.func116 rfl (by kernel_rfl) ?_
 refine ze (zh7 lf hlf hlr) ?_
 refine zu rfl (zq ?_)
 refine⟨rfl,(by show(0:Int)<=((1:Nat):Int);decide),(by show((1:Nat):Int).toNat*24<=140737488355328;decide),(by show((1:Nat):Int).toNat<=maxLen;decide),1,[nl],rfl,rfl,Vpub.own ?_⟩
 refine⟨by decide,0,(by show(0:Int)=IntKind.i64.wrap (((1:Nat):Int).tdiv 2);decide),?_⟩
 have hf:=λv=>zdkb v lf hlf
 generalize hash1 lf=h at hf
 refine zj [(0,0)] [0] (λvs _=>hf (vs 0)) (zi rfl ⟨_,_,rfl,cr,_,_,rfl,cr,_,_,rfl,rfl,rfl⟩) rfl (by repeat' (first|exact rfl|exact trivial|exact cr|exact Cv.nil _|exact⟨rfl,rfl⟩|refine⟨_,_,rfl,?_,?_⟩|refine⟨?_,?_⟩)) ⟨zkl,trivial⟩ ?_
 refine⟨_,zbb (id:=0) rfl,?_⟩
 exact⟨_,rfl,cr⟩
theorem zr2(lf:Leaf)(hlf:lf.fit)(hlr:lf.right=true):aG 43 [nods [L1 lf]] (.r (.tu [bs (hash1 lf),Er 0])):=by
 refine aT Tryz.func43 rfl ?_
 refine ze (z5m lf hlf hlr) ?_
 refine zu rfl (zq ?_)
 refine⟨by decide,0,(by show(0:Int)=IntKind.i64.wrap (((1:Nat):Int).tdiv 2);decide),?_⟩
 refine zm i00 i01 rfl ?_
 refine zg rfl ?_
 exact⟨_,rfl,cr⟩
abbrev stR(v:ViewP)(o:Leaf)(sg:List UInt8):List RV:=[bs v.ctx.group, .i .u64 v.ctx.epoch,bs v.ctx.tree,bs v.ctx.trans,I v.own,bs v.interim,bs v.tag,bs v.sec.jn,bs v.sec.wl,bs v.sec.ep,bs v.sec.sd,bs v.sec.en,bs v.sec.ex,bs v.sec.au,bs v.sec.xt,bs v.sec.cf,bs v.sec.mb,bs v.sec.rs,bs v.sec.it,keyR [v.key],nods [L1 o],bs sg,ns,ns]
theorem zv2(v:ViewP)(o:Leaf)(sg:List UInt8)(hv:v.sm)(ho:o.fit)(hs:sg.length<=1000000):aG 69 [.ag (stR v o sg)] (.r (.ag (stR v o sg))):=by
 refine aT Tryz.func69 rfl ?_
 have c1:=z2g v hv
 have c2:=z0e o ho
 refine aV ?_
 refine za rfl rfl ?_
 refine ze c1 ?_
 refine ze c2 ?_
 refine ze (zbu sg (by omega)) ?_
 refine Vloop.rounds 1 (Vrounds.step mixed Tab_ok ?_)
 refine zu rfl (zq ?_)
 refine Vloop.rounds 1 (Vrounds.step mixed Tab_ok ?_)
 refine zu rfl (zq ?_)
 refine za rfl rfl ?_
 refine za rfl rfl ?_
 exact cr
abbrev grR(v:ViewP)(o:Leaf)(sg:List UInt8):List RV:=[bs v.ctx.group, .i .u64 v.ctx.epoch,bs v.ctx.tree,bs v.ctx.trans,I v.own,bs v.interim,bs v.tag,bs v.sec.jn,bs v.sec.wl,bs v.sec.ep,bs v.sec.sd,bs v.sec.en,bs v.sec.ex,bs v.sec.au,bs v.sec.xt,bs v.sec.cf,bs v.sec.mb,bs v.sec.rs,bs v.sec.it,keyR [v.key],nods [L1 o],bs sg,ns,ns,ns,ns, .i .u64 0,ns,ns,I 0,ns,ns,ns,ns,ns,ns,ns,ns,ns,ns,ns,ns,ns,ns,ns,ns,ns,ns,ns]
theorem zd8b(v:ViewP)(o:Leaf)(sg:List UInt8)(hv:v.sm)(ho:o.fit)(hs:sg.length<=1000000):aG 17 [.ptr (grR v o sg)] (.r (.ag (stR v o sg))):=by
 refine aT Tryz.func17 rfl ?_
 have c1:=zv2 v o sg hv ho hs
 refine Vfun.pn _ rfl rfl rfl Tryz.underlying24 (zq ?_)
 refine za rfl rfl ?_
 refine ze c1 ?_
 refine za rfl rfl ?_
 exact cr
theorem ziw:aG 46 [] (.r (bs z32)):=by
 refine aT Tryz.func46 rfl ?_
 refine⟨rfl,by decide,by decide,by decide,_,_,rfl,zs32,zw ?_⟩
 exact cr
theorem zhy(o:Leaf):Cv (.sl 10 1 [.i .u8 1,bs o.box,bs o.sign,bs o.ident,U8 o.src,bs o.parent,bs o.sig,nl,nl,nl]) (nods [L1 o]):=
 Cv.sl (zk (cr) (zk (cr) (zk (cr) (zk (cr) (zk (cr) (zk (cr) (zk (cr) (zk (Cv.nil 1) (zk (Cv.nil 1) (zk (Cv.nil 1) Cvs.nil))))))))))
set_option maxHeartbeats 2000000 in
theorem z9v(id ident seed q1 s2 p1 p2 sg th x z tg it:List UInt8)(o:Leaf)(s:SecP)(hid:id.length<=64)
  (cp:aG 8 [bs ident,bs seed] (.r (.tu [.ag (PackP.c ⟨q1,o,s2⟩),zqy p1 p2 sg,Er 0])))
  (ct:aG 43 [nods [L1 o]] (.r (.tu [bs th,Er 0])))
  (cs:aG 45 [bs seed,Str grpS] (.r (bs x)))
  (cz:aG 46 [] (.r (bs z)))
  (cn:aG 44 [bs x,bs z, .ag (CtxP.c ⟨id,0,th,[]⟩)] (.r (.ag s.c)))
  (cg:aG 47 [.ag s.c,bs []] (.r (bs tg)))
  (ci:aG 48 [bs [],bs tg] (.r (bs it))):
  aG 7 [bs id,bs ident,bs seed] (.r (.tu [.ptr (grR ⟨⟨id,0,th,[]⟩,0,it,tg,s,⟨0,p2⟩⟩ o sg),Er 0])):=by
 refine za1 (T:=Tab) mixed Tab_ok Tryz.func7 rfl (by kernel_rfl) ?_
 refine zu (by simp only[zb];omega) (zq ?_)
 refine ze cp ?_
 refine zu rfl (zq ?_)
 refine za rfl rfl ?_
 refine zw ?_
 refine ze (zbu id (by omega)) ?_
 refine Vcall.mk' ct (zk (zhy o) Cvs.nil) ?_
 refine aV ?_
 refine ze cs ?_
 refine ze cz ?_
 refine za rfl rfl ?_
 refine Vcall.mk' cn (zk (cr) (zk (cr) (zk (Cv.ag (zk (cr) (zk (cr) (zk (cr) (zk (Cv.nil 1) Cvs.nil))))) Cvs.nil))) ?_
 refine za rfl rfl ?_
 refine Vcall.mk' cg (zk (cr) (zk (Cv.nil 1) Cvs.nil)) ?_
 refine Vcall.mk' ci (zk (Cv.nil 1) (zk (cr) Cvs.nil)) ?_
 refine zw ?_
 refine za rfl rfl ?_
 refine⟨_,Sub.trans (zad [(0,6)] (S':=⟨[(6, .own 0),(7, .r (Er 0))],[(0,some (.box ((grR ⟨⟨id,0,th,[]⟩,0,it,tg,s,⟨0,p2⟩⟩ o sg).map TF.r)))],1⟩) rfl (by repeat' (first|exact rfl|exact trivial|exact cr|exact Cv.nil _|exact⟨rfl,rfl⟩|refine⟨_,_,rfl,?_,?_⟩|refine⟨?_,?_⟩)) (by repeat' (first|exact rfl|exact trivial|exact cr|exact Cv.nil _|exact zhy _|exact⟨rfl,rfl⟩|refine⟨_,_,rfl,?_,?_⟩|refine⟨?_,?_⟩))) (zci (t:=6) (grR ⟨⟨id,0,th,[]⟩,0,it,tg,s,⟨0,p2⟩⟩ o sg) rfl rfl),?_⟩
 exact⟨_,rfl,cr⟩
theorem z50(id ident seed q1 s2 p1 p2 sg th x z tg it:List UInt8)(o:Leaf)(s:SecP)(hid:id.length<=64)
  (cp:aG 8 [bs ident,bs seed] (.r (.tu [.ag (PackP.c ⟨q1,o,s2⟩),zqy p1 p2 sg,Er 0])))
  (ct:aG 43 [nods [L1 o]] (.r (.tu [bs th,Er 0])))
  (cs:aG 45 [bs seed,Str grpS] (.r (bs x)))
  (cz:aG 46 [] (.r (bs z)))
  (cn:aG 44 [bs x,bs z, .ag (CtxP.c ⟨id,0,th,[]⟩)] (.r (.ag s.c)))
  (cg:aG 47 [.ag s.c,bs []] (.r (bs tg)))
  (ci:aG 48 [bs [],bs tg] (.r (bs it))):
  zlv aP 7 [bs id,bs ident,bs seed] (grR ⟨⟨id,0,th,[]⟩,0,it,tg,s,⟨0,p2⟩⟩ o sg) [Er 0]:=by
 refine zua (T:=Tab) mixed Tab_ok Tryz.func7 rfl (by kernel_rfl) ?_
 refine zu (by simp only[zb];omega) (zq ?_)
 refine ze cp ?_
 refine zu rfl (zq ?_)
 refine za rfl rfl ?_
 refine zw ?_
 refine ze (zbu id (by omega)) ?_
 refine Vcall.mk' ct (zk (zhy o) Cvs.nil) ?_
 refine aV ?_
 refine ze cs ?_
 refine ze cz ?_
 refine za rfl rfl ?_
 refine Vcall.mk' cn (zk (cr) (zk (cr) (zk (Cv.ag (zk (cr) (zk (cr) (zk (cr) (zk (Cv.nil 1) Cvs.nil))))) Cvs.nil))) ?_
 refine za rfl rfl ?_
 refine Vcall.mk' cg (zk (cr) (zk (Cv.nil 1) Cvs.nil)) ?_
 refine Vcall.mk' ci (zk (Cv.nil 1) (zk (cr) Cvs.nil)) ?_
 refine zw ?_
 refine za rfl rfl ?_
 refine⟨by first|exact .inl rfl|exact .inr rfl,_,(zad [(0,6)] (S':=⟨[(6, .own 0),(7, .r (Er 0))],[(0,some (.box ((grR ⟨⟨id,0,th,[]⟩,0,it,tg,s,⟨0,p2⟩⟩ o sg).map TF.r)))],1⟩) rfl (by repeat' (first|exact rfl|exact trivial|exact cr|exact Cv.nil _|exact⟨rfl,rfl⟩|refine⟨_,_,rfl,?_,?_⟩|refine⟨?_,?_⟩)) (by repeat' (first|exact rfl|exact trivial|exact cr|exact Cv.nil _|exact zhy _|exact⟨rfl,rfl⟩|refine⟨_,_,rfl,?_,?_⟩|refine⟨?_,?_⟩))),rfl,zn _⟩
theorem zgtb(pv:Value)(lf:Leaf):Acts aP 373 1 [(0, .box [.r (nods [L1 lf])])] [.r (I 0), .own 0] [(0,pv)] 2 [(0, .box [.r (nods [L1 lf])])] (.r (.tu [.ag (L1 lf).c, .b true])):=by
 refine zag (T:=Tab) mixed Tab_ok Tryz.func373 rfl (by kernel_rfl) rfl ⟨⟨_,_,rfl,rfl,zah,zah⟩,trivial⟩ ?_
 refine zm i00 i01 (idx0 lf) ?_
 refine za rfl rfl ?_
 exact zal (.inl rfl) [(0,0),(1,1)] [(3, .own 1),(4, .r (.b true))] [(1,some (.box ((L1 lf).c.map .r)))] rfl ⟨rfl,cr,⟨rfl,rfl⟩,trivial⟩ ⟨(aA aZ),(aD (aB aZ)),trivial⟩ ⟨⟨1000000,rfl⟩,trivial⟩ (za rfl rfl ⟨_,rfl,cr⟩)
structure VD where
 lf:Leaf
 i:Int
 only:Bool
 p0:Value
 p1:Value
 p2:Value
 p3:Value
 p4:Value
 p5:Value
 p6:Value
 p7:Value
 p8:Value
def VD.fat(c:VD):Value:= .func (.func 373) #[] #[c.p0]
def VD.vis(c:VD):Value:= .func (.func 450) #[] #[c.p3,c.p6,c.p8,c.p4]
def VD.chi(c:VD):Value:= .func (.func 448) #[] #[c.p1,c.p7,c.p2,c.p5]
def VD.mem(c:VD)(A B:List Int)(ok:Bool):List (Nat×Ow):=
 [(0, .box [.r (nods [L1 c.lf])]),(1, .box [.r (I c.i)]),(2, .box [.r (.b c.only)]),(3, .box [.r (.x c.fat)]),(4, .box [.own 9]),(5, .box [.own 10]),(6, .box [.r (.b ok)]),(7, .box [.r (.x c.vis)]),(8, .box [.r (.x c.chi)]),
 (9, .ch 3 1 A.length (A.map I) false),(10, .ch 3 1 B.length (B.map I) false)]
def VD.nms(c:VD):List (Nat×Value):=[(0,c.p0),(1,c.p1),(2,c.p2),(3,c.p3),(4,c.p4),(5,c.p5),(6,c.p6),(7,c.p7),(8,c.p8)]
theorem VD.same(c:VD)(A B A' B':List Int)(ok ok':Bool):zi2 (c.mem A B ok) (c.mem A' B' ok') c.nms:=
 ⟨⟨_,_,rfl,rfl,zah,zah⟩,⟨_,_,rfl,rfl,zah,zah⟩,⟨_,_,rfl,rfl,zah,zah⟩,⟨_,_,rfl,rfl,zah,zah⟩,⟨_,_,rfl,rfl,zah,zah⟩,⟨_,_,rfl,rfl,zah,zah⟩,⟨_,_,rfl,rfl,zah,zah⟩,⟨_,_,rfl,rfl,zah,zah⟩,⟨_,_,rfl,rfl,zah,zah⟩,trivial⟩
set_option maxHeartbeats 2000000 in
theorem VD.visit(c:VD)(A B:List Int)(ok:Bool)(hlf:c.lf.fit)(hA:A.length<=1000000):
  Acts aP 450 11 (c.mem A B ok) [.r (I 0), .r (I 0), .r (is []), .own 3, .own 6, .own 8, .own 4] c.nms 11 (c.mem (A++[(0:Int)]) B ok) (.r (.tu [])):=by
 refine zag (T:=Tab) mixed Tab_ok Tryz.func450 rfl (by kernel_rfl) rfl (c.same _ _ _ _ _ _) ?_
 refine zj [(0,0)] [0] (λvs _=>zgtb (vs 0) c.lf) (Handed.clo (fs:=[.r (I _)]) (cs:=[.own 0]) rfl rfl ⟨_,_,rfl,cr,rfl⟩ ⟨_,_,rfl,⟨0,1000000,rfl,rfl⟩,rfl⟩) rfl ⟨(aA aZ),trivial⟩ ⟨zac,trivial⟩ ?_
 refine zu rfl (zq ?_)
 refine zu rfl (zq ?_)
 refine⟨by decide,_,rfl,?_⟩
 refine zu rfl (zq ?_)
 refine zw ?_
 refine Vapp.mk' (j:=(A++[(0:Int)]).length) (zs:=(A++[(0:Int)]).map I) (by simp only[maxLen,aL];omega) (by simp;omega) (by rw[aL (bs:=[_])];rfl) (List.map_append (f:=I) (l₁:=A) (l₂:=[(0:Int)])).symm ?_
 refine⟨by decide,_,rfl,?_⟩
 refine zu rfl (zq ?_)
 exact zal (.inr rfl) [(0,0),(1,1),(2,2),(3,3),(4,4),(5,5),(6,6),(7,7),(8,8),(9,15),(10,10)] [] [] rfl ⟨⟨rfl,rfl⟩,⟨rfl,rfl⟩,⟨rfl,rfl⟩,⟨rfl,rfl⟩,⟨rfl,rfl⟩,⟨rfl,rfl⟩,⟨rfl,rfl⟩,⟨rfl,rfl⟩,⟨rfl,rfl⟩,trivial⟩ ⟨(aA aZ),(aA aZ),(aA aZ),(aA aZ),⟨_,_,rfl,rfl,rfl⟩,⟨_,_,rfl,rfl,rfl⟩,(aA aZ),(aA aZ),(aA aZ),⟨rfl,rfl,rfl,rfl,zn _⟩,⟨rfl,rfl,rfl,rfl,zn _⟩,trivial⟩ ⟨⟨1000000,rfl⟩,⟨1000001,rfl⟩,⟨1000002,rfl⟩,⟨1000003,rfl⟩,⟨1000004,rfl⟩,⟨1000005,rfl⟩,⟨1000006,rfl⟩,⟨1000007,rfl⟩,⟨1000008,rfl⟩,trivial⟩ ⟨_,rfl,cr⟩
set_option maxHeartbeats 2000000 in
theorem z9x(lf:Leaf)(hlf:lf.fit)(p0:Value)(i:Int)(only:Bool):
  Acts aP 372 1 [(0, .box [.r (nods [L1 lf])])] [.r (I 1), .r (I i), .r (.b only), .r (.x (.func (.func 373) #[] #[p0]))] [(0,p0)] 11 [(0, .box [.r (nods [L1 lf])])] (.r (.tu [is [0],is [], .b true])):=by
 refine zag (T:=Tab) mixed Tab_ok Tryz.func372 rfl (by kernel_rfl) rfl ⟨⟨_,_,rfl,rfl,zah,zah⟩,trivial⟩ ?_
 refine Vstep.nm 1 1000001 rfl λp1=>Vstep.nm 7 1000007 rfl λp7=>Vstep.nm 2 1000002 rfl λp2=>Vstep.nm 5 1000005 rfl λp5=>Vstep.mkfunX [p1,p7,p2,p5] rfl ⟨_,_,rfl,⟨1,1000001,rfl,rfl⟩,_,_,rfl,⟨7,1000007,rfl,rfl⟩,_,_,rfl,⟨2,1000002,rfl,rfl⟩,_,_,rfl,⟨5,1000005,rfl,rfl⟩,rfl⟩ ?_
 refine Vstep.nm 3 1000003 rfl λp3=>Vstep.nm 6 1000006 rfl λp6=>Vstep.nm 8 1000008 rfl λp8=>Vstep.nm 4 1000004 rfl λp4=>Vstep.mkfunX [p3,p6,p8,p4] rfl ⟨_,_,rfl,⟨3,1000003,rfl,rfl⟩,_,_,rfl,⟨6,1000006,rfl,rfl⟩,_,_,rfl,⟨8,1000008,rfl,rfl⟩,_,_,rfl,⟨4,1000004,rfl,rfl⟩,rfl⟩ ?_
 refine Vdraw.cut 3 (by kernel_rfl) ?_
 refine ze (z5i 1) ?_
 have hvis:=VD.visit ⟨lf,i,only,p0,p1,p2,p3,p4,p5,p6,p7,p8⟩ [] [] true hlf (by decide)
 simp only[List.nil_append]at hvis
 refine Vstep.sub (Sub.trans (zb0 false 4 0 3 1 rfl rfl) (zb0 false 5 0 3 1 rfl rfl)) ?_
 refine zj [(0,0),(1,1),(2,2),(3,3),(4,4),(5,5),(6,6),(7,7),(8,8),(9,9),(10,10)] [0,1,2,3,4,5,6,7,8] (λvs hv=>zgx (by simp only[List.map];rw[hv 0 0 1000000 _ rfl rfl,hv 1 1 1000001 _ rfl rfl,hv 2 2 1000002 _ rfl rfl,hv 3 3 1000003 _ rfl rfl,hv 4 4 1000004 _ rfl rfl,hv 5 5 1000005 _ rfl rfl,hv 6 6 1000006 _ rfl rfl,hv 7 7 1000007 _ rfl rfl,hv 8 8 1000008 _ rfl rfl];rfl) hvis) (Handed.clo (fs:=[.r (I _), .r (I _), .r (is [])]) (cs:=[.own 3, .own 6, .own 8, .own 4]) rfl rfl ⟨_,_,rfl,cr,_,_,rfl,cr,_,_,rfl,Cv.nil 1,rfl⟩ ⟨_,_,rfl,⟨3,1000003,rfl,rfl⟩,_,_,rfl,⟨6,1000006,rfl,rfl⟩,_,_,rfl,⟨8,1000008,rfl,rfl⟩,_,_,rfl,⟨4,1000004,rfl,rfl⟩,rfl⟩) rfl ⟨(aA aZ),(aA aZ),(aA aZ),(aA aZ),⟨_,_,rfl,rfl,rfl⟩,⟨_,_,rfl,rfl,rfl⟩,(aA aZ),(aA aZ),(aA aZ),⟨rfl,rfl,rfl,rfl,zn _⟩,⟨rfl,rfl,rfl,rfl,zn _⟩,trivial⟩ ⟨zac,zac,zac,zac,zac,zac,zac,zac,zac,zkl,zkl,trivial⟩ ?_
 refine Vdraw.code (Vcode.float mixed Tab_ok 5 [⟨0,19, .own 9,[]⟩,⟨1,20, .own 10,[]⟩,⟨2,21, .r (.b true),[]⟩] [(3,[0]),(4,[1])] (by kernel_rfl) (F:=[(8, .own 4),(9, .own 5),(10, .own 6),(1000000, .nm 0 p0)]) (O:=[(0,some (.box [.r (nods [L1 lf])])),(4,some (.box [.own 9])),(5,some (.box [.own 10])),(6,some (.box [.r (.b true)])),(9,some (.ch 3 1 1 [I 0] false)),(10,some (.ch 3 1 0 [] false))]) (nx:=11) (zad [(0,0),(4,4),(5,5),(6,6),(9,20),(10,21)] rfl ⟨rfl,rfl,rfl,⟨rfl,rfl⟩,trivial⟩ ⟨(aA aZ),⟨_,_,rfl,rfl,rfl⟩,⟨_,_,rfl,rfl,rfl⟩,(aA aZ),⟨rfl,rfl,rfl,rfl,zn _⟩,⟨rfl,rfl,rfl,rfl,zn _⟩,trivial⟩) ?_)
 refine⟨rfl,⟨λY=>zo _,λY=>zo _,λY=>zo _,trivial⟩,[(8, .own 4),(9, .own 5),(10, .own 6),(1000000, .nm 0 p0)],(4,some (.box [.own 9]))::[(0,some (.box [.r (nods [L1 lf])])),(4,some (.box [.own 9])),(5,some (.box [.own 10])),(6,some (.box [.r (.b true)])),(9,some (.ch 3 1 1 [I 0] false)),(10,some (.ch 3 1 0 [] false))],11,λY=>zo _,?_⟩
 refine⟨rfl,⟨λY=>zo _,λY=>zo _,λY=>zo _,trivial⟩,[(8, .own 4),(9, .own 5),(10, .own 6),(1000000, .nm 0 p0)],(5,some (.box [.own 10]))::(4,some (.box [.own 9]))::[(0,some (.box [.r (nods [L1 lf])])),(4,some (.box [.own 9])),(5,some (.box [.own 10])),(6,some (.box [.r (.b true)])),(9,some (.ch 3 1 1 [I 0] false)),(10,some (.ch 3 1 0 [] false))],11,λY=>zo _,?_⟩
 refine⟨rfl,⟨λY=>zo _,λY=>zo _,λY=>zo _,trivial⟩,?_⟩
 refine zz5 (Sub.trans (zbb (id:=9) rfl) (zbb (id:=10) rfl)) ?_
 exact zal (.inl rfl) [(0,0),(4,4),(5,5),(6,6),(9,9),(10,10)] [(8, .own 4),(9, .own 5),(10, .own 6)] [(4,some (.box [.own 9])),(5,some (.box [.own 10])),(6,some (.box [.r (.b true)])),(9,some (.ch 3 1 1 [I 0] true)),(10,some (.ch 3 1 0 [] true))] rfl ⟨rfl,rfl,rfl,⟨rfl,rfl⟩,trivial⟩ ⟨(aA aZ),⟨_,_,rfl,rfl,rfl⟩,⟨_,_,rfl,rfl,rfl⟩,(aA aZ),⟨rfl,rfl,rfl,rfl,zn _⟩,⟨rfl,rfl,rfl,rfl,zn _⟩,trivial⟩ ⟨⟨1000000,rfl⟩,trivial⟩ ⟨_,rfl,cr⟩
theorem Vsem.fieldN{P:Program}{T:TT}{S:St}{o:Oper}(hT:TOk P T){t:TypeId}{x:Operand}{i off:Nat}{ft:TypeId}{ti tf:TI}{fs:List (Nat×TypeId)}{cells cs:List RV}{K:TF->Option Ow->Prop}(hop:o.op= .field t x i)(hti:tget T t=some ti)(hk:ti.k= .struct fs)(hfs:lget fs i=some (off,ft))(htf:tget T ft=some tf)(hag:tf.agg=true)
  (hx:opr S x=some (.r (.ag cells))) (hb:off+tf.sz<=cells.length) (hc:(cells.drop off).take tf.sz=cs) (hK:K (.r (.ag cs)) none):Vsem P S o K:=by
 subst hc
 refine⟨_,_,λB N a w k Q ⟨g,hs⟩ hd=>?_,hK⟩
 have hv:=(zaf hs hx).2
 simp only[TF.at_,RV.at_]at hv
 obtain⟨us,e,hl⟩:=hv
 rw[zas]at hfs
 have hul:=(RV.listAt_iff _ _).1 hl
 have hus:off+tf.sz<=us.size:=by rw[<-Array.length_toList,hul.1];exact hb
 obtain⟨q,hq⟩:=hT.get hti
 obtain⟨d,hdd,hko,_⟩:=q.desc
 rw[hq]at hdd
 rw[hk]at hko
 obtain⟨fields,rfl,hfl⟩:=hko
 obtain⟨qf,hqf⟩:=hT.get htf
 have hsize:=za9 (w:=w) qf hqf
 obtain⟨df,hdf,_,hrow⟩:=qf.desc
 rw[hqf]at hdf
 rw[hag]at hrow
 have hagg:(isAgg ft).run P w= .ok true w:=by
  unfold isAgg
  rw[Sem.run_bind,run_underlying hdf w]
  cases df<;>simp_all [TypeDesc.isRow]
 rw[<-hfl,List.getElem?_map]at hfs
 cases hfi:fields.toList[i]? with
 |none=>simp[hfi]at hfs
 |some fd=>
  simp only[hfi,Option.map_some,Option.some.injEq,Prod.mk.injEq]at hfs
  obtain⟨h0,rfl⟩:=hfs
  have hfa:fields[i]?=some fd:=by simpa using hfi
  refine zat (v:= .agg (us.extract off (off+tf.sz))) (w':=w) ?_ ⟨k,g,hs.put hd trivial ?_⟩
  ·simp[execOp,hop,Instr.field,run_underlying hdd w,hfa,e,part,hagg,asAgg,hsize,h0,hus]
  ·simp only[TF.at_,RV.at_]
   refine⟨_,rfl,?_⟩
   rw[Array.toList_extract,List.extract_eq_take_drop,Nat.add_sub_cancel_left]
   exact zcj (zde hl off) _
structure BoxedP where
 enc:List UInt8
 box:List UInt8
 deriving DecidableEq
abbrev BoxedP.c(b:BoxedP):List RV:=[bs b.enc,bs b.box]
def zcxb(l:List BoxedP):RV:= .sl 2 l.length (l.flatMap BoxedP.c)
structure StepW where
 box:List UInt8
 to:List BoxedP
 deriving DecidableEq
abbrev StepW.c(s:StepW):List RV:=[bs s.box,zcxb s.to]
def zjtb(l:List StepW):RV:= .sl 2 l.length (l.flatMap StepW.c)
structure MadeP where
 sparse:Lean_
 leaf:Leaf
 steps:List StepW
 keys:List KeyP
 secrets:List (List UInt8)
 commit:List UInt8
abbrev MadeP.c(m:MadeP):List RV:=[I m.sparse.leaves,I m.sparse.own,zq6 m.sparse.opn,z4f m.sparse.shut,bs m.leaf.box,bs m.leaf.sign,bs m.leaf.ident,U8 m.leaf.src,bs m.leaf.parent,bs m.leaf.sig,zjtb m.steps,keyR m.keys,bss m.secrets,bs m.commit]
def zdl(old:Leaf)(q low:List UInt8):Leaf:=⟨q,old.sign,old.ident,3,low,old.sig⟩
theorem zvn(s:Lean_)(hn:s.leaves=1)(ho:s.own=0):aG 276 [.ag s.c] (.r (zkd [])):=by
 obtain⟨n,o,A,H⟩:=s
 simp only at hn ho
 subst hn;subst ho
 refine aT Tryz.func276 rfl ?_
 have e1:zny 0 1=[]:=by decide
 have e2:znk 0 1=[]:=by decide
 refine zd (m:=0) rfl (by show-9223372036854775808<=(2*0:Int)/\(2*0:Int)<=9223372036854775807;decide) ?_
 refine ze (zvi 0 1) ?_
 refine zd (m:=0) rfl (by show-9223372036854775808<=(2*0:Int)/\(2*0:Int)<=9223372036854775807;decide) ?_
 refine ze (zvl 0 1) ?_
 rw[e1,e2]
 refine zy (λ_:Unit=>{F:=[(3, .r nl),(23, .r (I 0)),(24, .r (I 0))],O:=[],nx:=0}) (λ_=>True) (λ_=>0) () trivial (zad [] rfl ⟨cr,cr,cr,trivial⟩ trivial) ?_
 intro _ _
 refine zu rfl (zq ?_)
 exact Cv.nil 3
def oneS(n:Node):Lean_:=⟨1,0,[⟨0,n⟩],[]⟩
theorem z3s{n:Node}(hr:n.right=true)(hk:n.kind.toNat=1):sR (oneS n)=true:=by
 have hpar:n.par.late=[]:=by
  unfold Node.right at hr
  rw[if_neg (by omega),if_pos hk]at hr
  simp only[Bool.and_eq_true,Par.none,decide_eq_true_eq]at hr
  exact List.eq_nil_of_length_eq_zero (by omega)
 have hf:zen 0 n=true:=by
  unfold zen
  rw[hr,hpar]
  have:zfz 0=2:=rfl
  rw[this]
  simp
  omega
 have hl:zia [⟨0,n⟩] 0=true:=by simp[zia,zbi,hk]
 have hv:visV [⟨0,n⟩] 0 false 0 0 0 []=([0],[],true):=by
  unfold visV
  have:zbi [⟨0,n⟩] ((nd 0 0:Nat):Int)=some n:=by simp[zbi,nd]
  rw[this]
  rfl
 unfold sR ascS atsO atsH zdm oneS
 simp only[List.map_cons,List.map_nil,List.all_cons,List.all_nil]
 have hlog:(1:Int).toNat.log2=0:=rfl
 have hz:(0:Int).toNat=0:=rfl
 rw[show(2*(0:Int))=0 from rfl,hl,hf,hlog]
 simp only[hv]
 have hs1:zbl [0]=[0]:=by simp[zbl]
 have hs2:zbl []=[]:=by simp[zbl]
 have hf1:zeo 1=true:=by decide
 simp[ascL,hf1,hs1,hs2]
theorem z0y{n:Node}(hf:n.fit):(oneS n).bd:=by
 refine⟨(by show i64 1;unfold i64;decide),(by show i64 0;unfold i64;decide),(by show 1<=1000000;omega),(by show 0<=1000000;omega),λx hx=>?_,λx hx=>(by cases hx),λx hx=>?_,λx hx=>(by cases hx)⟩
 ·rw[List.mem_singleton.1 hx];show i64 0;unfold i64;decide
 ·rw[List.mem_singleton.1 hx];exact hf
abbrev zcd(lf:Leaf):Lean_:=oneS (L1 lf)
theorem z5x(lf:Leaf):aG 195 [nods [L1 lf],I 0] (.r (.b true)):=by
 refine aT Tryz.func195 rfl ?_
 refine zt rfl ?_
 refine ze (ziu lf) ?_
 refine zt rfl ?_
 refine zd (m:=0) rfl (by decide) ?_
 refine zm i00 i01 (idx0 lf) ?_
 refine zg rfl ?_
 refine zt rfl ?_
 exact cr
theorem zwg(lf:Leaf)(hlf:lf.fit)(hlr:lf.right=true):aG 112 [nods [L1 lf],I 0] (.r (.tu [.ag lf.c, .b true])):=by
 refine aT Tryz.func112 rfl ?_
 refine ze (zh7 lf hlf hlr) ?_
 refine zu rfl ?_
 refine ze (z5x lf) ?_
 refine zu rfl (zq ?_)
 refine zd (m:=0) rfl (by decide) ?_
 refine zm i00 i01 (idx0 lf) ?_
 refine za rfl rfl ?_
 refine ze (zep (L1 lf) (zd0 hlf) (zbx _ hlf)) ?_
 refine Vsem.fieldN Tab_ok rfl rfl rfl rfl rfl rfl rfl (Nat.le_of_ble_eq_true rfl) rfl ?_
 refine za rfl rfl ?_
 exact⟨_,rfl,cr⟩
theorem zd5b(lf:Leaf)(hlf:lf.fit)(hlr:lf.right=true)(only:Bool):aG 273 [nods [L1 lf],I 0, .b only] (.r (.tu [(zcd lf).pr,Er 0])):=by
 refine za1 (T:=Tab) mixed Tab_ok Tryz.func273 rfl (by kernel_rfl) ?_
 refine ze (z5m lf hlf hlr) ?_
 refine zu rfl (zq ?_)
 refine ze (zwg lf hlf hlr) ?_
 refine zu rfl (zq ?_)
 refine Vcode.run Tab_ok ?_
 refine zd (m:=2) rfl i2b ?_
 refine⟨by decide,1,by decide,?_⟩
 refine Vstep.mapMk 2000001 rfl λb1=>?_
 refine Vstep.mapMk 2000002 rfl λb2=>?_
 refine Vstep.nm 0 1000000 rfl λp0=>Vstep.mkfunX [p0] rfl ⟨_,_,rfl,⟨0,1000000,rfl,rfl⟩,rfl⟩ ?_
 refine zj [(0,0)] [0] (λvs hv=>zgx (by simp only[List.map];rw[hv 0 0 1000000 _ rfl rfl]) (z9x lf hlf p0 0 only)) (zi rfl ⟨_,_,rfl,cr,_,_,rfl,cr,_,_,rfl,cr,_,_,rfl,cr,rfl⟩) rfl ⟨(aA aZ),trivial⟩ ⟨zac,trivial⟩ ?_
 refine Vloop.rounds 2 (Vrounds.step mixed Tab_ok ?_)
 refine zt rfl (zp ?_)
 refine zm i00 i01 rfl ?_
 refine zg rfl ?_
 refine aV ?_
 refine zm i00 i01 (idx0 lf) ?_
 refine za rfl rfl ?_
 refine Vstep.mapPut 3 2000001 rfl rfl rfl rfl rfl rfl rfl zki zho rfl ?_
 refine zd (m:=1) rfl (by decide) ?_
 refine Vrounds.step mixed Tab_ok ?_
 refine zu rfl (zq ?_)
 refine Vloop.rounds 1 (Vrounds.step mixed Tab_ok ?_)
 refine zu rfl (zq ?_)
 refine za rfl rfl ?_
 refine⟨_,Sub.trans (zgw (id:=1) (i:=2) (im:=3) (gh:=2000001) rfl rfl rfl rfl (by decide)) (zgw (id:=1) (i:=3) (im:=4) (gh:=2000002) rfl rfl rfl rfl (by decide)),?_⟩
 refine za rfl rfl ?_
 exact⟨_,rfl,cr⟩
theorem zd1b(lf:Leaf)(hlf:lf.fit)(hlr:lf.right=true):aG 182 [nods [L1 lf],I 0] (.r (.tu [.ag (zcd lf).c,Er 0])):=by
 refine aT Tryz.func182 rfl ?_
 have c2:=z9e 1 0 (zcd lf).opn [] (by show 1<=1000000;decide) (by decide) (λs hs=>by
  rw[List.mem_singleton.1 hs]
  exact zd0 hlf) (λs hs=>by
  rw[List.mem_singleton.1 hs]
  exact⟨by show(-9223372036854775808:Int)<=0;decide,by show(0:Int)<=9223372036854775807;decide⟩) (λs hs=>by cases hs) (λs hs=>by cases hs)
 have e:zn5 1 0 (zcd lf).opn []=zcd lf:=by simp[zn5,zbl,oneS,putN,zbi]
 rw[e]at c2
 refine ze (zd5b lf hlf hlr false) ?_
 refine zu rfl (zq ?_)
 refine za rfl rfl ?_
 refine ze c2 ?_
 refine za rfl rfl ?_
 exact⟨_,rfl,cr⟩
theorem z08{jn wl ep:List UInt8}(h1:jn.length=32)(h2:wl.length=32)(h3:ep.length=32):(secE jn wl ep).sm:=by
 have q: ∀l:List UInt8,(labB ep l [] 32).length<=1000000:=λl=>by rw[zbk ep l [] (n:=32) (by omega)];decide
 exact⟨by show jn.length<=_;omega,by show wl.length<=_;omega,by show ep.length<=_;omega,q _,q _,q _,q _,q _,q _,q _,q _,q _⟩
structure GrpV where
 v:ViewP
 o:Leaf
 sg:List UInt8
structure GrpV.ok (g:GrpV) (id:List UInt8):Prop where
 sm:g.v.sm
 own:g.v.own=0
 ctx:g.v.ctx=⟨id,0,hash1 g.o,[]⟩
 box:g.o.box.length=32
 sign:g.o.sign.length=32
 ident:g.o.ident.length<=64
 parent:g.o.parent.length=0
 lsig:g.o.sig.length=64
 right:g.o.right=true
 sg:g.sg.length<=1000000
 sgl:g.sg.length=32
 spub:g.o.sign=pubS g.sg
theorem zgub(id ident seed:List UInt8)(hid:id.length<=64)(hi:ident.length<=64)(h0:ident.length≠0)(hs:seed.length=32):
  ∃g:GrpV,g.ok id/\aG 7 [bs id,bs ident,bs seed] (.r (.tu [.ptr (grR g.v g.o g.sg),Er 0]))/\zlv aP 7 [bs id,bs ident,bs seed] (grR g.v g.o g.sg) [Er 0]:=by
 rcases z56 ident seed hs hi with⟨e0,_⟩ |⟨_,w,hw,cp⟩
 ·exact absurd e0 h0
 have hf:w.leaf.fit:=⟨by have:=hw.box;omega,by have:=hw.sign;omega,by have:=hw.ident;omega,by have:=hw.parent;omega,by have:=hw.lsig;omega⟩
 have ct:=zr2 w.leaf hf hw.right
 have hh:=zix w.leaf
 have cs:=zc1 seed grpS (by omega) (by decide)
 have hx:=zbk seed (sB grpS) [] (n:=32) (by omega)
 generalize labB seed (sB grpS) [] 32=x at cs hx
 have cn:=z0h x z32 ⟨id,0,hash1 w.leaf,[]⟩ ⟨by show id.length<=_;omega,by show 0<18446744073709551616;decide,by show(hash1 w.leaf).length<=_;omega,by show 0<=1000000;decide⟩ (by show id.length+(hash1 w.leaf).length+0<=_;omega) (by omega) (by decide)
 obtain⟨s,hs2,hsm,hcf⟩: ∃s:SecP,s=schS (ziz x z32 (ctxB ⟨id,0,hash1 w.leaf,[]⟩)) (ctxB ⟨id,0,hash1 w.leaf,[]⟩)/\s.sm/\s.cf.length=32:=by
  refine⟨_,rfl,z08 (zbk _ _ _ (n:=32) (by omega)) (zbk _ _ _ (n:=32) (by omega)) (zbk _ _ _ (n:=32) (by omega)),zbk _ _ _ (n:=32) (by omega)⟩
 rw[<-hs2]at cn
 have cg:=z6m s [] (by omega) (by decide)
 have hg:=zch s.cf []
 generalize macB s.cf []=tg at cg hg
 have ci:=zqk [] tg (by decide) (by omega)
 have hit:(intB [] tg).length=32:=zdz _
 generalize intB [] tg=it at ci hit
 refine⟨⟨⟨⟨id,0,hash1 w.leaf,[]⟩,0,it,tg,s,⟨0,w.b⟩⟩,w.leaf,w.c⟩,⟨⟨by show id.length<=_;omega,by show(hash1 w.leaf).length<=_;omega,by show 0<=1000000;decide,by show it.length<=_;omega,by show tg.length<=_;omega,hsm,by show w.b.length<=_;have:=hw.b;omega⟩,rfl,rfl,hw.box,hw.sign,hw.ident,hw.parent,hw.lsig,hw.right,by show w.c.length<=_;have:=hw.c;omega,hw.c,hw.spub⟩,?_⟩
 exact⟨z9v id ident seed w.init w.sig w.a w.b w.c (hash1 w.leaf) x z32 tg it w.leaf s hid cp ct cs ziw cn cg ci,z50 id ident seed w.init w.sig w.a w.b w.c (hash1 w.leaf) x z32 tg it w.leaf s hid cp ct cs ziw cn cg ci⟩
abbrev zkzb:List RV:=[nl,nl,nl,U8 0,nl,nl]
abbrev zk0b:List RV:=[nl,nl,nl,nl,U8 0,nl,nl,nl]
abbrev zk1b:List RV:=[U8 0,nl,nl,nl,nl,U8 0,nl,nl,nl,nl,nl,nl,U8 0,nl,nl,I 0]
abbrev wayR(l:Leaf):List RV:=[bs l.box,bs l.sign,bs l.ident,U8 l.src,bs l.parent,bs l.sig,nl]
abbrev comR(l:Leaf):List RV:=[nl, .b true,bs l.box,bs l.sign,bs l.ident,U8 l.src,bs l.parent,bs l.sig,nl]
structure MsgP where
 group:List UInt8
 epoch:Nat
 frm:Nat
 lf:Leaf
 sig:List UInt8
 tag:List UInt8
 mem:List UInt8
abbrev MsgP.c(m:MsgP):List RV:=[bs m.group, .i .u64 m.epoch,I m.frm,U8 3,U8 0,nl,nl,nl,nl,U8 0,nl,nl,nl,nl,nl,nl,U8 0,nl,nl,I 0,nl, .b true,bs m.lf.box,bs m.lf.sign,bs m.lf.ident,U8 m.lf.src,bs m.lf.parent,bs m.lf.sig,nl,bs m.sig,bs m.tag,bs m.mem]
structure MsgP.sm (m:MsgP):Prop where
 group:m.group.length<=64
 epoch:m.epoch<18446744073709551616
 frm:m.frm<65536
 sig:m.sig.length=64
 tag:m.tag.length=32
 mem:m.mem.length=32
 lf:m.lf.right=true
 src:m.lf.src=3
 par:m.lf.parent.length=0
theorem zg5{l:Leaf}(h:l.right=true):l.box.length=32/\l.sign.length=32/\l.ident.length<=64/\l.parent.length<=32/\l.sig.length=64:=by
 simp only[Leaf.right,decide_eq_true_eq]at h
 omega
theorem zcy{l:Leaf}(h:l.right=true):l.fit:=by
 obtain⟨h1,h2,h3,h4,h5⟩:=zg5 h
 exact⟨by omega,by omega,by omega,by omega,by omega⟩
theorem z9w:aG 114 [bs [],bs []] (.r (.b true)):=by
 have h:=zky [] []
 simpa using h
abbrev zclb:List RV:=[U8 0,nl,nl,nl,U8 0,nl,nl,nl,nl,nl]
theorem z9t(n:Nat)(h:n<65536):aG 245 [I n] (.r (.b true)):=by
 refine aT Tryz.func245 rfl ?_
 refine zt (by simp only[zb];omega) ?_
 refine zt (by simp only[zb];omega) ?_
 exact cr
theorem zzg:aG 433 [.ag zclb, .ag zclb] (.r (.b true)):=by
 have ce:aG 494 [is [],is []] (.r (.b true)):=by
  have h:=zo3 [] [] (by simp) (by simp)
  simpa using h
 have ci:Cvs [ns,ns] [is [],is []]:=zk (Cv.nil 1) (zk (Cv.nil 1) Cvs.nil)
 have cb:=z9w
 have cc:Cvs [ns,ns] [bs [],bs []]:=zk (Cv.nil 1) (zk (Cv.nil 1) Cvs.nil)
 refine aT Tryz.func433 rfl ?_
 refine aV ?_
 repeat' ((conv=>whnf);refine za rfl rfl ?_)
 refine zu rfl ?_
 refine zu rfl ?_
 refine Vcall.mk' ce ci ?_
 refine zu rfl ?_
 refine zq ?_
 refine Vcall.mk' cb cc ?_
 refine Vcall.mk' cb cc ?_
 refine Vcall.mk' cb cc ?_
 refine Vcall.mk' cb cc ?_
 refine Vcall.mk' cb cc ?_
 refine Vcall.mk' cb cc ?_
 refine Vcall.mk' cb cc ?_
 exact cr
theorem zs0:aG 345 [.ag zkzb] (.r (.b true)):=by
 refine aT Tryz.func345 rfl ?_
 refine za rfl rfl ?_
 refine ze zzg ?_
 exact cr
theorem z5y:aG 346 [.ag zk0b] (.r (.b true)):=by
 refine aT Tryz.func346 rfl ?_
 refine zd (m:=0) rfl (by decide) ?_
 refine zt rfl ?_
 refine za rfl rfl ?_
 refine ze zs0 ?_
 exact cr
theorem z5z:aG 248 [.ag zk1b] (.r (.b true)):=by
 refine aT Tryz.func248 rfl ?_
 refine zt rfl ?_
 refine za rfl rfl ?_
 refine ze z5y ?_
 refine za rfl rfl ?_
 refine ze zs0 ?_
 refine zt rfl ?_
 exact cr
theorem zwh(f:FuncId):aG 434 [ns, .x (.func (.func f) #[] #[])] (.r (I (-1))):=by
 refine aT Tryz.func434 rfl ?_
 refine Vloop.rounds 1 (Vrounds.step mixed Tab_ok ?_)
 refine zu rfl (zq ?_)
 exact cr
theorem z3b(f:FuncId):aG 347 [ns, .x (.func (.func f) #[] #[])] (.r (.b false)):=by
 refine aT Tryz.func347 rfl ?_
 refine ze (zwh f) ?_
 refine zu rfl ?_
 exact cr
theorem zwi(f:FuncId):aG 495 [ns, .x (.func (.func f) #[] #[])] (.r (I (-1))):=by
 refine aT Tryz.func495 rfl ?_
 refine Vloop.rounds 1 (Vrounds.step mixed Tab_ok ?_)
 refine zu rfl (zq ?_)
 exact cr
theorem z3c(f:FuncId):aG 435 [ns, .x (.func (.func f) #[] #[])] (.r (.b false)):=by
 refine aT Tryz.func435 rfl ?_
 refine ze (zwi f) ?_
 refine zu rfl ?_
 exact cr
theorem zdxb(l:Leaf)(hr:l.right=true)(hs:l.src=3):aG 350 [.ag (wayR l)] (.r (.b true)):=by
 refine aT Tryz.func350 rfl ?_
 have h:=zmh l 3 (zcy hr)
 rw[hr,hs]at h
 refine za rfl rfl ?_
 refine ze h ?_
 refine zu rfl ?_
 refine zu rfl ?_
 refine zq ?_
 refine ze (z3c _) ?_
 refine zt rfl ?_
 exact cr
theorem z2p(l:Leaf)(hr:l.right=true)(hs:l.src=3):aG 249 [.ag (comR l)] (.r (.b true)):=by
 refine aT Tryz.func249 rfl ?_
 refine zu rfl ?_
 refine ze (z3b _) ?_
 refine zq ?_
 refine zu rfl (zq ?_)
 refine za rfl rfl ?_
 refine ze (zdxb l hr hs) ?_
 exact cr
theorem zh6(m:MsgP)(hm:m.sm):aG 154 [.ag m.c] (.r (.b true)):=by
 refine aT Tryz.func154 rfl ?_
 obtain⟨h1,h2,h3,h4,h5,h6,h7,h8,h9⟩:=hm
 refine zu (by simp only[zb];omega) ?_
 refine ze (z9t m.frm h3) ?_
 refine zu (by(try simp only[zb])<;>omega) ?_
 refine zu (by(try simp only[zb])<;>omega) ?_
 refine zu (by(try simp only[zb])<;>omega) ?_
 refine zq ?_
 refine zu rfl (zq ?_)
 refine zt rfl (zp ?_)
 refine za rfl rfl ?_
 refine ze z5z ?_
 refine za rfl rfl ?_
 refine ze (z2p m.lf h7 h8) ?_
 refine zt (by(try simp only[zb])<;>omega) ?_
 exact cr
end Go.Proofs.YtkegaaonpekkgaaGreat.Sx
