import Derived.Test.YtoegdgbghdnnfaaGreatZKu
import Derived.Test.YtoegdgbghdnnfaaGreatZSxNm
import Derived.Test.YtoegdgbghdnnfaaGreatZLa
import Derived.Test.YtoegdgbghdnnfaaGreatZSxPt
import Derived.Test.YtoegdgbghdnnfaaGreatZHp
import Derived.Test.YtoegdgbghdnnfaaGreatZHi
import Derived.Test.YtoegdgbghdnnfaaGreatZTm
import Derived.Test.YtoegdgbghdnnfaaGreatZGf
import Derived.Test.YtoegdgbghdnnfaaGreatZQc
import Derived.Test.YtoegdgbghdnnfaaGreatZFx
import Derived.Test.YtoegdgbghdnnfaaGreatZKq
import Derived.Test.YtoegdgbghdnnfaaGreatZEq
namespace Go.Proofs.YtoegdgbghdnnfaaGreat.Sx
open Go.RowKit
section
set_option maxRecDepth 20000
section
variable {P:Program} {S:St} {o:Oper} {x y:Operand} {t t2 e:TypeId} {K:RV->Prop}
theorem z0l{w:World}{m:Nat}(hu:P.underlying t=some (.pointer e)):(Op.equalIn (m+1) t (.pointer none) (.pointer none)).run P w= .ok true w:=by simp[Op.equalIn,run_underlying hu w]
theorem z42{w:World}(hu:P.underlying t=some (.pointer e)):(Op.equal t (.pointer none) (.pointer none)).run P w= .ok true w:=z0l (m:=9999) hu
theorem Vfun.nn(e:TypeId)(hop:o.op= .binOp .eql t x y t2)(hx:opr S x=some (.r (.x (.pointer none))))(hy:opr S y=some (.r (.x (.pointer none))))(hu:P.underlying t=some (.pointer e))(hK:K (.b true)):Vfun P S o [x,y] K:=by
 refine⟨[.x (.pointer none), .x (.pointer none)],by simp only[oprs,hx,hy,St.rv], .b true,λa w k h=>?_,hK⟩
 obtain⟨u,v,e1,h1,h2⟩:=zn9 h
 simp only[RV.at_]at h1 h2
 subst h1;subst h2
 simp only[List.map_cons,List.map_nil,List.cons.injEq,and_true]at e1
 refine⟨.bool true,?_,by simp only[RV.at_]⟩
 simp[execOp,hop,e1.1,e1.2,eqGuard,binOp,z42 hu]
end
abbrev np:RV:= .x (.pointer none)
abbrev ns:RV:= .x (.slice none 0 0)
end
section
variable {P:Program} {S:St} {o:Oper} {x y:Operand} {t t2 e:TypeId} {K:RV->Prop}
theorem Vfun.pn(e:TypeId){cells:List RV}(hop:o.op= .binOp .eql t x y t2)(hx:opr S x=some (.r (.ptr cells)))(hy:opr S y=some (.r (.x (.pointer none))))(hu:P.underlying t=some (.pointer e))(hK:K (.b false)):Vfun P S o [x,y] K:=by
 refine⟨[.ptr cells, .x (.pointer none)],by simp only[oprs,hx,hy,St.rv], .b false,λa w k h=>?_,hK⟩
 obtain⟨u,v,e1,h1,h2⟩:=zn9 h
 simp only[RV.at_]at h1 h2
 obtain⟨b,q,rfl,_⟩:=h1
 subst h2
 simp only[List.map_cons,List.map_nil,List.cons.injEq,and_true]at e1
 refine⟨.bool false,?_,by simp only[RV.at_]⟩
 simp[execOp,hop,e1.1,e1.2,eqGuard,binOp,zkp _ hu]
end
abbrev aO(l:List (List UInt8)):List (Nat×Ow):=[(0, .ch 22 1 l.length (l.map bs) false)]
def hash1(lf:Leaf):List UInt8:=shaB (zgh 0 (L1 lf))
theorem z7r(lf:Leaf):(hash1 lf).length=32:=zf1 _
theorem zdyb(v:Value)(lf:Leaf)(hlf:lf.fit):Acts bP 95 1 (aO [[]]) [.r (nods [L1 lf]), .r (I 0), .own 0] [(0,v)] 1 (aO [hash1 lf]) (.r (bs (hash1 lf))):=by
 refine zaz (T:=Tab) mixed Tab_ok Tryz.func95 rfl (by kernel_rfl) rfl ⟨⟨_,_,rfl,rfl,zlc (Nat.succ_pos _),zlc (Nat.succ_pos _)⟩,trivial⟩ ?_
 have ht:=zp5 0 (L1 lf) (zg3 hlf)
 have hl:=zvk 0 (L1 lf) (zg3 hlf)
 unfold hash1
 generalize zgh 0 (L1 lf)=q at ht hl
 generalize zsl 0 (L1 lf)=e at ht
 have hs:=zjw (zlw [q] (by simp;omega))
 have e1:([q]:List (List UInt8)).flatMap id=q:=by simp
 rw[e1]at hs
 generalize shaB q=h at hs
 refine⟨by decide,0,by decide,?_⟩
 refine zu rfl (zq ?_)
 refine⟨by decide,0,by decide,?_⟩
 refine zm i00 i01 (idx0 lf) ?_
 refine za rfl rfl ?_
 refine ze ht ?_
 refine zy ?_
 refine ze hs ?_
 refine Vadr.mk' 0 rfl (by decide) ?_
 refine⟨by decide,[bs h],rfl,?_⟩
 refine Vadr.mk' 0 rfl (by decide) ?_
 refine zg rfl ?_
 exact zaw (.inl rfl) [(0,0)] [(6, .r (bs h))] [] rfl (by repeat' (first|exact rfl|exact trivial|exact cr|exact Cv.nil _|exact⟨rfl,rfl⟩|refine⟨_,_,rfl,?_,?_⟩|refine⟨?_,?_⟩)) (by repeat' (first|exact rfl|exact trivial|exact cr|exact Cv.nil _|exact⟨rfl,rfl⟩|refine⟨_,_,rfl,?_,?_⟩|refine⟨?_,?_⟩)) ⟨⟨1000000,rfl⟩,trivial⟩ (cr)
theorem z6s(lf:Leaf)(hlf:lf.fit)(hlr:lf.right=true):bG 56 [nods [L1 lf]] (.r (.tu [bss [hash1 lf],Er 0])):=by
 refine zar (T:=Tab) mixed Tab_ok Tryz.func56 rfl (by kernel_rfl) ?_
 refine ze (zxx lf hlf hlr) ?_
 refine zw rfl (zt ?_)
 refine⟨rfl,(by show(0:Int)<=((1:Nat):Int);decide),(by show((1:Nat):Int).toNat*24<=140737488355328;decide),(by show((1:Nat):Int).toNat<=maxLen;decide),1,[nl],rfl,rfl,Vpub.own ?_⟩
 refine⟨by decide,0,(by show(0:Int)=IntKind.i64.wrap (((1:Nat):Int).tdiv 2);decide),?_⟩
 have hf:=λv=>zdyb v lf hlf
 generalize hash1 lf=h at hf
 refine zj [(0,0)] [0] (λvs _=>hf (vs 0)) (zi rfl ⟨_,_,rfl,cr,_,_,rfl,cr,_,_,rfl,rfl,rfl⟩) rfl (by repeat' (first|exact rfl|exact trivial|exact cr|exact Cv.nil _|exact⟨rfl,rfl⟩|refine⟨_,_,rfl,?_,?_⟩|refine⟨?_,?_⟩)) ⟨zaq,trivial⟩ ?_
 refine⟨_,zbr (id:=0) rfl,?_⟩
 exact⟨_,rfl,cr⟩
theorem z1s(lf:Leaf)(hlf:lf.fit)(hlr:lf.right=true):bG 26 [nods [L1 lf]] (.r (.tu [bs (hash1 lf),Er 0])):=by
 refine bT Tryz.func26 rfl ?_
 refine ze (z6s lf hlf hlr) ?_
 refine zw rfl (zt ?_)
 refine⟨by decide,0,(by show(0:Int)=IntKind.i64.wrap (((1:Nat):Int).tdiv 2);decide),?_⟩
 refine zm i00 i01 rfl ?_
 refine zg rfl ?_
 exact⟨_,rfl,cr⟩
abbrev stR(v:ViewP)(o:Leaf)(sg:List UInt8):List RV:=[bs v.ctx.group, .i .u64 v.ctx.epoch,bs v.ctx.tree,bs v.ctx.trans,I v.own,bs v.interim,bs v.tag,bs v.sec.jn,bs v.sec.wl,bs v.sec.ep,bs v.sec.sd,bs v.sec.en,bs v.sec.ex,bs v.sec.au,bs v.sec.xt,bs v.sec.cf,bs v.sec.mb,bs v.sec.rs,bs v.sec.it,keyR [v.key],nods [L1 o],bs sg,ns,ns]
theorem zaib(v:ViewP)(o:Leaf)(sg:List UInt8)(hv:v.sm)(ho:o.fit)(hs:sg.length<=1000000):bG 86 [.ag (stR v o sg)] (.r (.ag (stR v o sg))):=by
 refine bT Tryz.func86 rfl ?_
 have c1:=z3t v hv
 have c2:=z1f o ho
 refine bV ?_
 refine za rfl rfl ?_
 refine ze c1 ?_
 refine ze c2 ?_
 refine ze (zcj sg (by omega)) ?_
 refine Vloop.rounds 1 (Vrounds.step mixed Tab_ok ?_)
 refine zw rfl (zt ?_)
 refine Vloop.rounds 1 (Vrounds.step mixed Tab_ok ?_)
 refine zw rfl (zt ?_)
 refine za rfl rfl ?_
 refine za rfl rfl ?_
 exact cr
abbrev grR(v:ViewP)(o:Leaf)(sg:List UInt8):List RV:=[bs v.ctx.group, .i .u64 v.ctx.epoch,bs v.ctx.tree,bs v.ctx.trans,I v.own,bs v.interim,bs v.tag,bs v.sec.jn,bs v.sec.wl,bs v.sec.ep,bs v.sec.sd,bs v.sec.en,bs v.sec.ex,bs v.sec.au,bs v.sec.xt,bs v.sec.cf,bs v.sec.mb,bs v.sec.rs,bs v.sec.it,keyR [v.key],nods [L1 o],bs sg,ns,ns,ns,ns, .i .u64 0,ns,ns,I 0,ns,ns,ns,ns,ns,ns,ns,ns,ns,ns,ns,ns,ns,ns,ns,ns,ns,ns,ns]
theorem zeeb(v:ViewP)(o:Leaf)(sg:List UInt8)(hv:v.sm)(ho:o.fit)(hs:sg.length<=1000000):bG 48 [.ptr (grR v o sg)] (.r (.ag (stR v o sg))):=by
 refine bT Tryz.func48 rfl ?_
 have c1:=zaib v o sg hv ho hs
 refine Vfun.pn _ rfl rfl rfl Tryz.underlying99 (zt ?_)
 refine za rfl rfl ?_
 refine ze c1 ?_
 refine za rfl rfl ?_
 exact cr
theorem zu9:bG 82 [] (.r (bs z32)):=by
 refine bT Tryz.func82 rfl ?_
 refine⟨rfl,by decide,by decide,by decide,_,_,rfl,zs32,zy ?_⟩
 exact cr
theorem zlr(o:Leaf):Cv (.sl 10 1 [.i .u8 1,bs o.box,bs o.sign,bs o.ident,U8 o.src,bs o.parent,bs o.sig,nl,nl,nl]) (nods [L1 o]):=
 Cv.sl (zk (cr) (zk (cr) (zk (cr) (zk (cr) (zk (cr) (zk (cr) (zk (cr) (zk (Cv.nil 1) (zk (Cv.nil 1) (zk (Cv.nil 1) Cvs.nil))))))))))
set_option maxHeartbeats 2000000 in
theorem zamb(id ident seed q1 s2 p1 p2 sg th x z tg it:List UInt8)(o:Leaf)(s:SecP)(hid:id.length<=64)
  (cp:bG 79 [bs ident,bs seed] (.r (.tu [.ag (PackP.c ⟨q1,o,s2⟩),zsq p1 p2 sg,Er 0])))
  (ct:bG 26 [nods [L1 o]] (.r (.tu [bs th,Er 0])))
  (cs:bG 81 [bs seed,Str grpS] (.r (bs x)))
  (cz:bG 82 [] (.r (bs z)))
  (cn:bG 80 [bs x,bs z, .ag (CtxP.c ⟨id,0,th,[]⟩)] (.r (.ag s.c)))
  (cg:bG 83 [.ag s.c,bs []] (.r (bs tg)))
  (ci:bG 84 [bs [],bs tg] (.r (bs it))):
  bG 45 [bs id,bs ident,bs seed] (.r (.tu [.ptr (grR ⟨⟨id,0,th,[]⟩,0,it,tg,s,⟨0,p2⟩⟩ o sg),Er 0])):=by
 refine zar (T:=Tab) mixed Tab_ok Tryz.func45 rfl (by kernel_rfl) ?_
 refine zw (by simp only[zb];omega) (zt ?_)
 refine ze cp ?_
 refine zw rfl (zt ?_)
 refine za rfl rfl ?_
 refine zy ?_
 refine ze (zcj id (by omega)) ?_
 refine Vcall.mk' ct (zk (zlr o) Cvs.nil) ?_
 refine bV ?_
 refine ze cs ?_
 refine ze cz ?_
 refine za rfl rfl ?_
 refine Vcall.mk' cn (zk (cr) (zk (cr) (zk (Cv.ag (zk (cr) (zk (cr) (zk (cr) (zk (Cv.nil 1) Cvs.nil))))) Cvs.nil))) ?_
 refine za rfl rfl ?_
 refine Vcall.mk' cg (zk (cr) (zk (Cv.nil 1) Cvs.nil)) ?_
 refine Vcall.mk' ci (zk (Cv.nil 1) (zk (cr) Cvs.nil)) ?_
 refine zy ?_
 refine za rfl rfl ?_
 refine⟨_,Sub.trans (zac [(0,6)] (S':=⟨[(6, .own 0),(7, .r (Er 0))],[(0,some (.box ((grR ⟨⟨id,0,th,[]⟩,0,it,tg,s,⟨0,p2⟩⟩ o sg).map TF.r)))],1⟩) rfl (by repeat' (first|exact rfl|exact trivial|exact cr|exact Cv.nil _|exact⟨rfl,rfl⟩|refine⟨_,_,rfl,?_,?_⟩|refine⟨?_,?_⟩)) (by repeat' (first|exact rfl|exact trivial|exact cr|exact Cv.nil _|exact zlr _|exact⟨rfl,rfl⟩|refine⟨_,_,rfl,?_,?_⟩|refine⟨?_,?_⟩))) (zd7 (t:=6) (grR ⟨⟨id,0,th,[]⟩,0,it,tg,s,⟨0,p2⟩⟩ o sg) rfl rfl),?_⟩
 exact⟨_,rfl,cr⟩
theorem z61(id ident seed q1 s2 p1 p2 sg th x z tg it:List UInt8)(o:Leaf)(s:SecP)(hid:id.length<=64)
  (cp:bG 79 [bs ident,bs seed] (.r (.tu [.ag (PackP.c ⟨q1,o,s2⟩),zsq p1 p2 sg,Er 0])))
  (ct:bG 26 [nods [L1 o]] (.r (.tu [bs th,Er 0])))
  (cs:bG 81 [bs seed,Str grpS] (.r (bs x)))
  (cz:bG 82 [] (.r (bs z)))
  (cn:bG 80 [bs x,bs z, .ag (CtxP.c ⟨id,0,th,[]⟩)] (.r (.ag s.c)))
  (cg:bG 83 [.ag s.c,bs []] (.r (bs tg)))
  (ci:bG 84 [bs [],bs tg] (.r (bs it))):
  zw2 bP 45 [bs id,bs ident,bs seed] (grR ⟨⟨id,0,th,[]⟩,0,it,tg,s,⟨0,p2⟩⟩ o sg) [Er 0]:=by
 refine zwe (T:=Tab) mixed Tab_ok Tryz.func45 rfl (by kernel_rfl) ?_
 refine zw (by simp only[zb];omega) (zt ?_)
 refine ze cp ?_
 refine zw rfl (zt ?_)
 refine za rfl rfl ?_
 refine zy ?_
 refine ze (zcj id (by omega)) ?_
 refine Vcall.mk' ct (zk (zlr o) Cvs.nil) ?_
 refine bV ?_
 refine ze cs ?_
 refine ze cz ?_
 refine za rfl rfl ?_
 refine Vcall.mk' cn (zk (cr) (zk (cr) (zk (Cv.ag (zk (cr) (zk (cr) (zk (cr) (zk (Cv.nil 1) Cvs.nil))))) Cvs.nil))) ?_
 refine za rfl rfl ?_
 refine Vcall.mk' cg (zk (cr) (zk (Cv.nil 1) Cvs.nil)) ?_
 refine Vcall.mk' ci (zk (Cv.nil 1) (zk (cr) Cvs.nil)) ?_
 refine zy ?_
 refine za rfl rfl ?_
 refine⟨by first|exact .inl rfl|exact .inr rfl,_,(zac [(0,6)] (S':=⟨[(6, .own 0),(7, .r (Er 0))],[(0,some (.box ((grR ⟨⟨id,0,th,[]⟩,0,it,tg,s,⟨0,p2⟩⟩ o sg).map TF.r)))],1⟩) rfl (by repeat' (first|exact rfl|exact trivial|exact cr|exact Cv.nil _|exact⟨rfl,rfl⟩|refine⟨_,_,rfl,?_,?_⟩|refine⟨?_,?_⟩)) (by repeat' (first|exact rfl|exact trivial|exact cr|exact Cv.nil _|exact zlr _|exact⟨rfl,rfl⟩|refine⟨_,_,rfl,?_,?_⟩|refine⟨?_,?_⟩))),rfl,zn _⟩
theorem zgzb(pv:Value)(lf:Leaf):Acts bP 112 1 [(0, .box [.r (nods [L1 lf])])] [.r (I 0), .own 0] [(0,pv)] 2 [(0, .box [.r (nods [L1 lf])])] (.r (.tu [.ag (L1 lf).c, .b true])):=by
 refine zaz (T:=Tab) mixed Tab_ok Tryz.func112 rfl (by kernel_rfl) rfl ⟨⟨_,_,rfl,rfl,zai,zai⟩,trivial⟩ ?_
 refine zm i00 i01 (idx0 lf) ?_
 refine za rfl rfl ?_
 exact zaw (.inl rfl) [(0,0),(1,1)] [(3, .own 1),(4, .r (.b true))] [(1,some (.box ((L1 lf).c.map .r)))] rfl ⟨rfl,cr,⟨rfl,rfl⟩,trivial⟩ ⟨(bA bZ),(bD (bB bZ)),trivial⟩ ⟨⟨1000000,rfl⟩,trivial⟩ (za rfl rfl ⟨_,rfl,cr⟩)
structure VD where
 lf:Leaf
 i:Int
 only:Bool
 p0:Value
 p1:Value
 p2:Value
 p3:Value
 p4:Value
 p5:Value
 p6:Value
 p7:Value
 p8:Value
def VD.fat(c:VD):Value:= .func (.func 112) #[] #[c.p0]
def VD.vis(c:VD):Value:= .func (.func 161) #[] #[c.p3,c.p6,c.p8,c.p4]
def VD.chi(c:VD):Value:= .func (.func 158) #[] #[c.p1,c.p7,c.p2,c.p5]
def VD.mem(c:VD)(A B:List Int)(ok:Bool):List (Nat×Ow):=
 [(0, .box [.r (nods [L1 c.lf])]),(1, .box [.r (I c.i)]),(2, .box [.r (.b c.only)]),(3, .box [.r (.x c.fat)]),(4, .box [.own 9]),(5, .box [.own 10]),(6, .box [.r (.b ok)]),(7, .box [.r (.x c.vis)]),(8, .box [.r (.x c.chi)]),
 (9, .ch 3 1 A.length (A.map I) false),(10, .ch 3 1 B.length (B.map I) false)]
def VD.nms(c:VD):List (Nat×Value):=[(0,c.p0),(1,c.p1),(2,c.p2),(3,c.p3),(4,c.p4),(5,c.p5),(6,c.p6),(7,c.p7),(8,c.p8)]
theorem VD.same(c:VD)(A B A' B':List Int)(ok ok':Bool):zpb (c.mem A B ok) (c.mem A' B' ok') c.nms:=
 ⟨⟨_,_,rfl,rfl,zai,zai⟩,⟨_,_,rfl,rfl,zai,zai⟩,⟨_,_,rfl,rfl,zai,zai⟩,⟨_,_,rfl,rfl,zai,zai⟩,⟨_,_,rfl,rfl,zai,zai⟩,⟨_,_,rfl,rfl,zai,zai⟩,⟨_,_,rfl,rfl,zai,zai⟩,⟨_,_,rfl,rfl,zai,zai⟩,⟨_,_,rfl,rfl,zai,zai⟩,trivial⟩
set_option maxHeartbeats 2000000 in
theorem VD.visit(c:VD)(A B:List Int)(ok:Bool)(hlf:c.lf.fit)(hA:A.length<=1000000):
  Acts bP 161 11 (c.mem A B ok) [.r (I 0), .r (I 0), .r (is []), .own 3, .own 6, .own 8, .own 4] c.nms 11 (c.mem (A++[(0:Int)]) B ok) (.r (.tu [])):=by
 refine zaz (T:=Tab) mixed Tab_ok Tryz.func161 rfl (by kernel_rfl) rfl (c.same _ _ _ _ _ _) ?_
 refine zj [(0,0)] [0] (λvs _=>zgzb (vs 0) c.lf) (Handed.clo (fs:=[.r (I _)]) (cs:=[.own 0]) rfl rfl ⟨_,_,rfl,cr,rfl⟩ ⟨_,_,rfl,⟨0,1000000,rfl,rfl⟩,rfl⟩) rfl ⟨(bA bZ),trivial⟩ ⟨zad,trivial⟩ ?_
 refine zw rfl (zt ?_)
 refine zw rfl (zt ?_)
 refine⟨by decide,_,rfl,?_⟩
 refine zw rfl (zt ?_)
 refine zy ?_
 refine Vapp.mk' (j:=(A++[(0:Int)]).length) (zs:=(A++[(0:Int)]).map I) (by simp only[maxLen,bL];omega) (by simp;omega) (by rw[bL (bs:=[_])];rfl) (List.map_append (f:=I) (l₁:=A) (l₂:=[(0:Int)])).symm ?_
 refine⟨by decide,_,rfl,?_⟩
 refine zw rfl (zt ?_)
 exact zaw (.inr rfl) [(0,0),(1,1),(2,2),(3,3),(4,4),(5,5),(6,6),(7,7),(8,8),(9,15),(10,10)] [] [] rfl ⟨⟨rfl,rfl⟩,⟨rfl,rfl⟩,⟨rfl,rfl⟩,⟨rfl,rfl⟩,⟨rfl,rfl⟩,⟨rfl,rfl⟩,⟨rfl,rfl⟩,⟨rfl,rfl⟩,⟨rfl,rfl⟩,trivial⟩ ⟨(bA bZ),(bA bZ),(bA bZ),(bA bZ),⟨_,_,rfl,rfl,rfl⟩,⟨_,_,rfl,rfl,rfl⟩,(bA bZ),(bA bZ),(bA bZ),⟨rfl,rfl,rfl,rfl,zn _⟩,⟨rfl,rfl,rfl,rfl,zn _⟩,trivial⟩ ⟨⟨1000000,rfl⟩,⟨1000001,rfl⟩,⟨1000002,rfl⟩,⟨1000003,rfl⟩,⟨1000004,rfl⟩,⟨1000005,rfl⟩,⟨1000006,rfl⟩,⟨1000007,rfl⟩,⟨1000008,rfl⟩,trivial⟩ ⟨_,rfl,cr⟩
set_option maxHeartbeats 2000000 in
theorem zanb(lf:Leaf)(hlf:lf.fit)(p0:Value)(i:Int)(only:Bool):
  Acts bP 111 1 [(0, .box [.r (nods [L1 lf])])] [.r (I 1), .r (I i), .r (.b only), .r (.x (.func (.func 112) #[] #[p0]))] [(0,p0)] 11 [(0, .box [.r (nods [L1 lf])])] (.r (.tu [is [0],is [], .b true])):=by
 refine zaz (T:=Tab) mixed Tab_ok Tryz.func111 rfl (by kernel_rfl) rfl ⟨⟨_,_,rfl,rfl,zai,zai⟩,trivial⟩ ?_
 refine Vstep.nm 1 1000001 rfl λp1=>Vstep.nm 7 1000007 rfl λp7=>Vstep.nm 2 1000002 rfl λp2=>Vstep.nm 5 1000005 rfl λp5=>Vstep.mkfunX [p1,p7,p2,p5] rfl ⟨_,_,rfl,⟨1,1000001,rfl,rfl⟩,_,_,rfl,⟨7,1000007,rfl,rfl⟩,_,_,rfl,⟨2,1000002,rfl,rfl⟩,_,_,rfl,⟨5,1000005,rfl,rfl⟩,rfl⟩ ?_
 refine Vstep.nm 3 1000003 rfl λp3=>Vstep.nm 6 1000006 rfl λp6=>Vstep.nm 8 1000008 rfl λp8=>Vstep.nm 4 1000004 rfl λp4=>Vstep.mkfunX [p3,p6,p8,p4] rfl ⟨_,_,rfl,⟨3,1000003,rfl,rfl⟩,_,_,rfl,⟨6,1000006,rfl,rfl⟩,_,_,rfl,⟨8,1000008,rfl,rfl⟩,_,_,rfl,⟨4,1000004,rfl,rfl⟩,rfl⟩ ?_
 refine Vdraw.cut 3 (by kernel_rfl) ?_
 refine ze (znl 1) ?_
 have hvis:=VD.visit ⟨lf,i,only,p0,p1,p2,p3,p4,p5,p6,p7,p8⟩ [] [] true hlf (by decide)
 simp only[List.nil_append]at hvis
 refine Vstep.sub (Sub.trans (zb1 false 4 0 3 1 rfl rfl) (zb1 false 5 0 3 1 rfl rfl)) ?_
 refine zj [(0,0),(1,1),(2,2),(3,3),(4,4),(5,5),(6,6),(7,7),(8,8),(9,9),(10,10)] [0,1,2,3,4,5,6,7,8] (λvs hv=>za9 (by simp only[List.map];rw[hv 0 0 1000000 _ rfl rfl,hv 1 1 1000001 _ rfl rfl,hv 2 2 1000002 _ rfl rfl,hv 3 3 1000003 _ rfl rfl,hv 4 4 1000004 _ rfl rfl,hv 5 5 1000005 _ rfl rfl,hv 6 6 1000006 _ rfl rfl,hv 7 7 1000007 _ rfl rfl,hv 8 8 1000008 _ rfl rfl];rfl) hvis) (Handed.clo (fs:=[.r (I _), .r (I _), .r (is [])]) (cs:=[.own 3, .own 6, .own 8, .own 4]) rfl rfl ⟨_,_,rfl,cr,_,_,rfl,cr,_,_,rfl,Cv.nil 1,rfl⟩ ⟨_,_,rfl,⟨3,1000003,rfl,rfl⟩,_,_,rfl,⟨6,1000006,rfl,rfl⟩,_,_,rfl,⟨8,1000008,rfl,rfl⟩,_,_,rfl,⟨4,1000004,rfl,rfl⟩,rfl⟩) rfl ⟨(bA bZ),(bA bZ),(bA bZ),(bA bZ),⟨_,_,rfl,rfl,rfl⟩,⟨_,_,rfl,rfl,rfl⟩,(bA bZ),(bA bZ),(bA bZ),⟨rfl,rfl,rfl,rfl,zn _⟩,⟨rfl,rfl,rfl,rfl,zn _⟩,trivial⟩ ⟨zad,zad,zad,zad,zad,zad,zad,zad,zad,zaq,zaq,trivial⟩ ?_
 refine Vdraw.code (Vcode.float mixed Tab_ok 5 [⟨0,19, .own 9,[]⟩,⟨1,20, .own 10,[]⟩,⟨2,21, .r (.b true),[]⟩] [(3,[0]),(4,[1])] (by kernel_rfl) (F:=[(8, .own 4),(9, .own 5),(10, .own 6),(1000000, .nm 0 p0)]) (O:=[(0,some (.box [.r (nods [L1 lf])])),(4,some (.box [.own 9])),(5,some (.box [.own 10])),(6,some (.box [.r (.b true)])),(9,some (.ch 3 1 1 [I 0] false)),(10,some (.ch 3 1 0 [] false))]) (nx:=11) (zac [(0,0),(4,4),(5,5),(6,6),(9,20),(10,21)] rfl ⟨rfl,rfl,rfl,⟨rfl,rfl⟩,trivial⟩ ⟨(bA bZ),⟨_,_,rfl,rfl,rfl⟩,⟨_,_,rfl,rfl,rfl⟩,(bA bZ),⟨rfl,rfl,rfl,rfl,zn _⟩,⟨rfl,rfl,rfl,rfl,zn _⟩,trivial⟩) ?_)
 refine⟨rfl,⟨λY=>zo _,λY=>zo _,λY=>zo _,trivial⟩,[(8, .own 4),(9, .own 5),(10, .own 6),(1000000, .nm 0 p0)],(4,some (.box [.own 9]))::[(0,some (.box [.r (nods [L1 lf])])),(4,some (.box [.own 9])),(5,some (.box [.own 10])),(6,some (.box [.r (.b true)])),(9,some (.ch 3 1 1 [I 0] false)),(10,some (.ch 3 1 0 [] false))],11,λY=>zo _,?_⟩
 refine⟨rfl,⟨λY=>zo _,λY=>zo _,λY=>zo _,trivial⟩,[(8, .own 4),(9, .own 5),(10, .own 6),(1000000, .nm 0 p0)],(5,some (.box [.own 10]))::(4,some (.box [.own 9]))::[(0,some (.box [.r (nods [L1 lf])])),(4,some (.box [.own 9])),(5,some (.box [.own 10])),(6,some (.box [.r (.b true)])),(9,some (.ch 3 1 1 [I 0] false)),(10,some (.ch 3 1 0 [] false))],11,λY=>zo _,?_⟩
 refine⟨rfl,⟨λY=>zo _,λY=>zo _,λY=>zo _,trivial⟩,?_⟩
 refine zto (Sub.trans (zbr (id:=9) rfl) (zbr (id:=10) rfl)) ?_
 exact zaw (.inl rfl) [(0,0),(4,4),(5,5),(6,6),(9,9),(10,10)] [(8, .own 4),(9, .own 5),(10, .own 6)] [(4,some (.box [.own 9])),(5,some (.box [.own 10])),(6,some (.box [.r (.b true)])),(9,some (.ch 3 1 1 [I 0] true)),(10,some (.ch 3 1 0 [] true))] rfl ⟨rfl,rfl,rfl,⟨rfl,rfl⟩,trivial⟩ ⟨(bA bZ),⟨_,_,rfl,rfl,rfl⟩,⟨_,_,rfl,rfl,rfl⟩,(bA bZ),⟨rfl,rfl,rfl,rfl,zn _⟩,⟨rfl,rfl,rfl,rfl,zn _⟩,trivial⟩ ⟨⟨1000000,rfl⟩,trivial⟩ ⟨_,rfl,cr⟩
theorem Vsem.fieldN{P:Program}{T:TT}{S:St}{o:Oper}(hT:TOk P T){t:TypeId}{x:Operand}{i off:Nat}{ft:TypeId}{ti tf:TI}{fs:List (Nat×TypeId)}{cells cs:List RV}{K:TF->Option Ow->Prop}(hop:o.op= .field t x i)(hti:tget T t=some ti)(hk:ti.k= .struct fs)(hfs:lget fs i=some (off,ft))(htf:tget T ft=some tf)(hag:tf.agg=true)
  (hx:opr S x=some (.r (.ag cells))) (hb:off+tf.sz<=cells.length) (hc:(cells.drop off).take tf.sz=cs) (hK:K (.r (.ag cs)) none):Vsem P S o K:=by
 subst hc
 refine⟨_,_,λB N a w k Q ⟨g,hs⟩ hd=>?_,hK⟩
 have hv:=(zah hs hx).2
 simp only[TF.at_,RV.at_]at hv
 obtain⟨us,e,hl⟩:=hv
 rw[zba]at hfs
 have hul:=(RV.listAt_iff _ _).1 hl
 have hus:off+tf.sz<=us.size:=by rw[<-Array.length_toList,hul.1];exact hb
 obtain⟨q,hq⟩:=hT.get hti
 obtain⟨d,hdd,hko,_⟩:=q.desc
 rw[hq]at hdd
 rw[hk]at hko
 obtain⟨fields,rfl,hfl⟩:=hko
 obtain⟨qf,hqf⟩:=hT.get htf
 have hsize:=zbm (w:=w) qf hqf
 obtain⟨df,hdf,_,hrow⟩:=qf.desc
 rw[hqf]at hdf
 rw[hag]at hrow
 have hagg:(isAgg ft).run P w= .ok true w:=by
  unfold isAgg
  rw[Sem.run_bind,run_underlying hdf w]
  cases df<;>simp_all [TypeDesc.isRow]
 rw[<-hfl,List.getElem?_map]at hfs
 cases hfi:fields.toList[i]? with
 |none=>simp[hfi]at hfs
 |some fd=>
  simp only[hfi,Option.map_some,Option.some.injEq,Prod.mk.injEq]at hfs
  obtain⟨h0,rfl⟩:=hfs
  have hfa:fields[i]?=some fd:=by simpa using hfi
  refine za0 (v:= .agg (us.extract off (off+tf.sz))) (w':=w) ?_ ⟨k,g,hs.put hd trivial ?_⟩
  ·simp[execOp,hop,Instr.field,run_underlying hdd w,hfa,e,part,hagg,asAgg,hsize,h0,hus]
  ·simp only[TF.at_,RV.at_]
   refine⟨_,rfl,?_⟩
   rw[Array.toList_extract,List.extract_eq_take_drop,Nat.add_sub_cancel_left]
   exact zdg (zew hl off) _
def oneS(n:Node):Lean_:=⟨1,0,[⟨0,n⟩],[]⟩
theorem z4t{n:Node}(hr:n.right=true)(hk:n.kind.toNat=1):sR (oneS n)=true:=by
 have hpar:n.par.late=[]:=by
  unfold Node.right at hr
  rw[if_neg (by omega),if_pos hk]at hr
  simp only[Bool.and_eq_true,Par.none,decide_eq_true_eq]at hr
  exact List.eq_nil_of_length_eq_zero (by omega)
 have hf:zcy 0 n=true:=by
  unfold zcy
  rw[hr,hpar]
  have:zf0 0=2:=rfl
  rw[this]
  simp
  omega
 have hl:zil [⟨0,n⟩] 0=true:=by simp[zil,zaf,hk]
 have hv:visV [⟨0,n⟩] 0 false 0 0 0 []=([0],[],true):=by
  unfold visV
  have:zaf [⟨0,n⟩] ((nd 0 0:Nat):Int)=some n:=by simp[zaf,nd]
  rw[this]
  rfl
 unfold sR ascS atsO atsH zep oneS
 simp only[List.map_cons,List.map_nil,List.all_cons,List.all_nil]
 have hlog:(1:Int).toNat.log2=0:=rfl
 have hz:(0:Int).toNat=0:=rfl
 rw[show(2*(0:Int))=0 from rfl,hl,hf,hlog]
 simp only[hv]
 have hs1:zbu [0]=[0]:=by simp[zbu]
 have hs2:zbu []=[]:=by simp[zbu]
 have hf1:zck 1=true:=by decide
 simp[ascL,hf1,hs1,hs2]
theorem ze0b{n:Node}(hf:n.fit):(oneS n).bd:=by
 refine⟨(by show i64 1;unfold i64;decide),(by show i64 0;unfold i64;decide),(by show 1<=1000000;omega),(by show 0<=1000000;omega),λx hx=>?_,λx hx=>(by cases hx),λx hx=>?_,λx hx=>(by cases hx)⟩
 ·rw[List.mem_singleton.1 hx];show i64 0;unfold i64;decide
 ·rw[List.mem_singleton.1 hx];exact hf
abbrev zhc(lf:Leaf):Lean_:=oneS (L1 lf)
theorem z60(lf:Leaf):bG 157 [nods [L1 lf],I 0] (.r (.b true)):=by
 refine bT Tryz.func157 rfl ?_
 refine zu rfl ?_
 refine ze (znp lf) ?_
 refine zu rfl ?_
 refine zd (m:=0) rfl (by decide) ?_
 refine zm i00 i01 (idx0 lf) ?_
 refine zg rfl ?_
 refine zu rfl ?_
 exact cr
theorem zazb(lf:Leaf)(hlf:lf.fit)(hlr:lf.right=true):bG 110 [nods [L1 lf],I 0] (.r (.tu [.ag lf.c, .b true])):=by
 refine bT Tryz.func110 rfl ?_
 refine ze (zxx lf hlf hlr) ?_
 refine zw rfl ?_
 refine ze (z60 lf) ?_
 refine zw rfl (zt ?_)
 refine zd (m:=0) rfl (by decide) ?_
 refine zm i00 i01 (idx0 lf) ?_
 refine za rfl rfl ?_
 refine ze (zk1 (L1 lf) (zg3 hlf) (zdu _ hlf)) ?_
 refine Vsem.fieldN Tab_ok rfl rfl rfl rfl rfl rfl rfl (Nat.le_of_ble_eq_true rfl) rfl ?_
 refine za rfl rfl ?_
 exact⟨_,rfl,cr⟩
theorem zebb(lf:Leaf)(hlf:lf.fit)(hlr:lf.right=true)(only:Bool):bG 68 [nods [L1 lf],I 0, .b only] (.r (.tu [(zhc lf).pr,Er 0])):=by
 refine zar (T:=Tab) mixed Tab_ok Tryz.func68 rfl (by kernel_rfl) ?_
 refine ze (z6s lf hlf hlr) ?_
 refine zw rfl (zt ?_)
 refine ze (zazb lf hlf hlr) ?_
 refine zw rfl (zt ?_)
 refine Vcode.run Tab_ok ?_
 refine zd (m:=2) rfl i2b ?_
 refine⟨by decide,1,by decide,?_⟩
 refine Vstep.mapMk 2000001 rfl λb1=>?_
 refine Vstep.mapMk 2000002 rfl λb2=>?_
 refine Vstep.nm 0 1000000 rfl λp0=>Vstep.mkfunX [p0] rfl ⟨_,_,rfl,⟨0,1000000,rfl,rfl⟩,rfl⟩ ?_
 refine zj [(0,0)] [0] (λvs hv=>za9 (by simp only[List.map];rw[hv 0 0 1000000 _ rfl rfl]) (zanb lf hlf p0 0 only)) (zi rfl ⟨_,_,rfl,cr,_,_,rfl,cr,_,_,rfl,cr,_,_,rfl,cr,rfl⟩) rfl ⟨(bA bZ),trivial⟩ ⟨zad,trivial⟩ ?_
 refine Vloop.rounds 2 (Vrounds.step mixed Tab_ok ?_)
 refine zu rfl (zq ?_)
 refine zm i00 i01 rfl ?_
 refine zg rfl ?_
 refine bV ?_
 refine zm i00 i01 (idx0 lf) ?_
 refine za rfl rfl ?_
 refine Vstep.mapPut 3 2000001 rfl rfl rfl rfl rfl rfl rfl zjp zje rfl ?_
 refine zd (m:=1) rfl (by decide) ?_
 refine Vrounds.step mixed Tab_ok ?_
 refine zw rfl (zt ?_)
 refine Vloop.rounds 1 (Vrounds.step mixed Tab_ok ?_)
 refine zw rfl (zt ?_)
 refine za rfl rfl ?_
 refine⟨_,Sub.trans (zfs (id:=1) (i:=2) (im:=3) (gh:=2000001) rfl rfl rfl rfl (by decide)) (zfs (id:=1) (i:=3) (im:=4) (gh:=2000002) rfl rfl rfl rfl (by decide)),?_⟩
 refine za rfl rfl ?_
 exact⟨_,rfl,cr⟩
theorem zd6b(lf:Leaf)(hlf:lf.fit)(hlr:lf.right=true):bG 39 [nods [L1 lf],I 0] (.r (.tu [.ag (zhc lf).c,Er 0])):=by
 refine bT Tryz.func39 rfl ?_
 have c2:=zxp 1 0 (zhc lf).opn [] (by show 1<=1000000;decide) (by decide) (λs hs=>by
  rw[List.mem_singleton.1 hs]
  exact zg3 hlf) (λs hs=>by
  rw[List.mem_singleton.1 hs]
  exact⟨by show(-9223372036854775808:Int)<=0;decide,by show(0:Int)<=9223372036854775807;decide⟩) (λs hs=>by cases hs) (λs hs=>by cases hs)
 have e:zh0 1 0 (zhc lf).opn []=zhc lf:=by simp[zh0,zbu,oneS,putN,zaf]
 rw[e]at c2
 refine ze (zebb lf hlf hlr false) ?_
 refine zw rfl (zt ?_)
 refine za rfl rfl ?_
 refine ze c2 ?_
 refine za rfl rfl ?_
 exact⟨_,rfl,cr⟩
theorem zfcb{jn wl ep:List UInt8}(h1:jn.length=32)(h2:wl.length=32)(h3:ep.length=32):(secE jn wl ep).sm:=by
 have q: ∀l:List UInt8,(labB ep l [] 32).length<=1000000:=λl=>by rw[zea ep l [] (n:=32) (by omega)];decide
 exact⟨by show jn.length<=_;omega,by show wl.length<=_;omega,by show ep.length<=_;omega,q _,q _,q _,q _,q _,q _,q _,q _,q _⟩
structure GrpV where
 v:ViewP
 o:Leaf
 sg:List UInt8
structure GrpV.ok (g:GrpV) (id:List UInt8):Prop where
 sm:g.v.sm
 own:g.v.own=0
 ctx:g.v.ctx=⟨id,0,hash1 g.o,[]⟩
 box:g.o.box.length=32
 sign:g.o.sign.length=32
 ident:g.o.ident.length<=64
 parent:g.o.parent.length=0
 lsig:g.o.sig.length=64
 right:g.o.right=true
 sg:g.sg.length<=1000000
 sgl:g.sg.length=32
 spub:g.o.sign=pubS g.sg
theorem GrpV.ok.fit{g:GrpV}{id:List UInt8}(h:g.ok id):g.o.fit:=⟨by have:=h.box;omega,by have:=h.sign;omega,by have:=h.ident;omega,by have:=h.parent;omega,by have:=h.lsig;omega⟩
theorem zg2b(id ident seed:List UInt8)(hid:id.length<=64)(hi:ident.length<=64)(h0:ident.length≠0)(hs:seed.length=32):
  ∃g:GrpV,g.ok id/\bG 45 [bs id,bs ident,bs seed] (.r (.tu [.ptr (grR g.v g.o g.sg),Er 0]))/\zw2 bP 45 [bs id,bs ident,bs seed] (grR g.v g.o g.sg) [Er 0]:=by
 rcases z66 ident seed hs hi with⟨e0,_⟩ |⟨_,w,hw,cp⟩
 ·exact absurd e0 h0
 have hf:w.leaf.fit:=⟨by have:=hw.box;omega,by have:=hw.sign;omega,by have:=hw.ident;omega,by have:=hw.parent;omega,by have:=hw.lsig;omega⟩
 have ct:=z1s w.leaf hf hw.right
 have hh:=z7r w.leaf
 have cs:=zho seed grpS (by omega) (by decide)
 have hx:=zea seed (sB grpS) [] (n:=32) (by omega)
 generalize labB seed (sB grpS) [] 32=x at cs hx
 have cn:=zedb x z32 ⟨id,0,hash1 w.leaf,[]⟩ ⟨by show id.length<=_;omega,by show 0<18446744073709551616;decide,by show(hash1 w.leaf).length<=_;omega,by show 0<=1000000;decide⟩ (by show id.length+(hash1 w.leaf).length+0<=_;omega) (by omega) (by decide)
 obtain⟨s,hs2,hsm,hcf⟩: ∃s:SecP,s=schS (zo7 x z32 (ctxB ⟨id,0,hash1 w.leaf,[]⟩)) (ctxB ⟨id,0,hash1 w.leaf,[]⟩)/\s.sm/\s.cf.length=32:=by
  refine⟨_,rfl,zfcb (zea _ _ _ (n:=32) (by omega)) (zea _ _ _ (n:=32) (by omega)) (zea _ _ _ (n:=32) (by omega)),zea _ _ _ (n:=32) (by omega)⟩
 rw[<-hs2]at cn
 have cg:=zheb s [] (by omega) (by decide)
 have hg:=zfg s.cf []
 generalize macB s.cf []=tg at cg hg
 have ci:=z37 [] tg (by decide) (by omega)
 have hit:(intB [] tg).length=32:=zf1 _
 generalize intB [] tg=it at ci hit
 refine⟨⟨⟨⟨id,0,hash1 w.leaf,[]⟩,0,it,tg,s,⟨0,w.b⟩⟩,w.leaf,w.c⟩,⟨⟨by show id.length<=_;omega,by show(hash1 w.leaf).length<=_;omega,by show 0<=1000000;decide,by show it.length<=_;omega,by show tg.length<=_;omega,hsm,by show w.b.length<=_;have:=hw.b;omega⟩,rfl,rfl,hw.box,hw.sign,hw.ident,hw.parent,hw.lsig,hw.right,by show w.c.length<=_;have:=hw.c;omega,hw.c,hw.spub⟩,?_⟩
 exact⟨zamb id ident seed w.init w.sig w.a w.b w.c (hash1 w.leaf) x z32 tg it w.leaf s hid cp ct cs zu9 cn cg ci,z61 id ident seed w.init w.sig w.a w.b w.c (hash1 w.leaf) x z32 tg it w.leaf s hid cp ct cs zu9 cn cg ci⟩
abbrev zln(g:RV)(n:Int):List RV:=[g,nl,nl,nl,nl,nl,I n]
theorem zdvb(v:Value)(n:Nat)(hn:n<=1000000):Acts bP 47 1 [(0, .box ((zln nl n).map .r))] [.own 0] [(0,v)] 1 [(0, .box ((zln nl ((n+1:Nat):Int)).map .r))] (.r (bs (zja (5000+(n+1))))):=by
 refine zaz (T:=Tab) mixed Tab_ok Tryz.func47 rfl (by kernel_rfl) rfl ⟨⟨_,_,rfl,rfl,zai,zai⟩,trivial⟩ ?_
 refine zd (m:=((n+1:Nat):Int)) (by omega) (by omega) ?_
 refine zd (m:=((5000+(n+1):Nat):Int)) (by omega) (by omega) ?_
 refine ze (zjw (zhbb (5000+(n+1)) (by omega))) ?_
 exact zaw (.inl rfl) [(0,0)] [(2, .r (bs (zja (5000+(n+1)))))] [] rfl (by repeat' (first|exact rfl|exact trivial|exact cr|exact Cv.nil _|exact⟨rfl,rfl⟩|refine⟨_,_,rfl,?_,?_⟩|refine⟨?_,?_⟩)) (by repeat' (first|exact rfl|exact trivial|exact cr|exact Cv.nil _|exact⟨rfl,rfl⟩|refine⟨_,_,rfl,?_,?_⟩|refine⟨?_,?_⟩)) ⟨⟨1000000,rfl⟩,trivial⟩ (cr)
theorem zg3b:bG 46 [] (.r (bs [99,108,117,98])):=by
 refine bT Tryz.func46 rfl ?_
 refine zy ?_
 exact cr
abbrev zm9:List UInt8:=[99,108,117,98]
theorem z3q(g:List RV)(c:bG 45 [bs zm9,bs [9],bs (zja (5000+(0+1)))] (.r (.tu [.ptr g,Er 0]))):bG 17 [] (.r (.tu [.ptr (zln (.sl 1 1 [.ptr g]) 1), .b true])):=by
 refine zar (T:=Tab) mixed Tab_ok Tryz.func17 rfl (by kernel_rfl) ?_
 refine ze zg3b ?_
 refine zy ?_
 refine zj [(0,0)] [0] (λvs _=>zdvb (vs 0) 0 (by decide)) (zi rfl ⟨_,_,rfl,rfl,rfl⟩) rfl ⟨(bC (bB (bA bZ))),trivial⟩ ⟨zad,trivial⟩ ?_
 refine ze c ?_
 refine zy ?_
 refine zd (m:=0) rfl (by decide) ?_
 refine zu rfl ?_
 refine⟨_,Sub.trans (zac [(0,0)] (S':=⟨[(0, .own 0),(1, .r (.b true))],[(0,some (.box ((zln (.sl 1 1 [.ptr g]) 1).map .r)))],1⟩) rfl (by repeat' (first|exact rfl|exact trivial|exact cr|exact Cv.nil _|exact⟨rfl,rfl⟩|refine⟨_,_,rfl,?_,?_⟩|refine⟨?_,?_⟩)) (by repeat' (first|exact rfl|exact trivial|exact cr|exact Cv.nil _|exact⟨rfl,rfl⟩|refine⟨_,_,rfl,?_,?_⟩|refine⟨?_,?_⟩))) (zd7 (t:=0) (zln (.sl 1 1 [.ptr g]) 1) rfl rfl),?_⟩
 exact⟨_,rfl,cr⟩
theorem z6t: ∃g:GrpV,g.ok zm9/\bG 17 [] (.r (.tu [.ptr (zln (.sl 1 1 [.ptr (grR g.v g.o g.sg)]) 1), .b true])):=by
 obtain⟨g,hg,c,_⟩:=zg2b zm9 [9] (zja (5000+(0+1))) (by decide) (by decide) (by decide) (zvz _)
 exact⟨g,hg,z3q _ c⟩
abbrev chU(l:List UInt8):Ow:= .ch 5 1 l.length (l.map U8) false
theorem zg8b(lf:Leaf)(l:List UInt8)(hlf:lf.fit)(hlr:lf.right=true)(hl:l.length<=1000000):
  Acts bP 118 1 [(0,chU l)] [.r (zhc lf).pr, .own 0, .r (I 0)] [] 1 [(0,chU (l++[1]++zak (L1 lf)))] (.own 0):=by
 refine zaz (T:=Tab) mixed Tab_ok Tryz.func118 rfl (by kernel_rfl) rfl trivial ?_
 have hb:=zfc (L1 lf) (zg3 hlf)
 have hle:=zfh (L1 lf) (zg3 hlf)
 rw[if_pos (zqg hlr)]at hb
 generalize zak (L1 lf)=q at hb hle⊢
 refine Vstep.node2 rfl rfl rfl (λm hm=>?_) (λhm=>absurd hm (by simp[zaf,oneS]))
 obtain rfl:L1 lf=m:=by simpa[zaf,oneS]using hm
 refine zw rfl (zt ?_)
 refine za rfl rfl ?_
 refine ze hb ?_
 refine zy ?_
 refine Vapp.mk' (j:=(l++[1]).length) (zs:=(l++[1]).map U8) (by simp only[maxLen];omega) (by show(l.length+1)*1<=_;omega) (by rw[bL];rfl) (by rw[List.map_append];rfl) ?_
 refine Vapp.mk' (j:=(l++[1]++q).length) (zs:=(l++[1]++q).map U8) (by simp only[maxLen,bL,List.length_cons,List.length_nil];omega) (by show((l++[1]).length+q.length)*1<=_;simp only[bL,List.length_cons,List.length_nil];omega) (by simp only[bL]) (by simp only[List.map_append]) ?_
 refine⟨by decide,0,by decide,?_⟩
 refine zw rfl (zt ?_)
 exact zaw (.inl rfl) [(0,5)] [(6, .own 0)] [] rfl ⟨rfl,trivial⟩ ⟨⟨rfl,rfl,rfl,rfl,zn _⟩,trivial⟩ trivial rfl
def oneB(mark:UInt8)(lf:Leaf):List UInt8:=[mark]++beB 4 1++beB 4 0++[1]++zak (L1 lf)
theorem z68(mark:UInt8)(lf:Leaf)(hlf:lf.fit)(hlr:lf.right=true):bG 71 [(zhc lf).pr,U8 mark] (.r (bs (oneB mark lf))):=by
 refine zar (T:=Tab) mixed Tab_ok Tryz.func71 rfl (by kernel_rfl) ?_
 have hp:=zg8b lf ([mark]++beB 4 1++beB 4 0) hlf hlr (by simp only[bL,zao,List.length_cons,List.length_nil];omega)
 refine zy ?_
 refine Vint.n 1 (by show(1:Int)=IntKind.u64.wrap 1;decide) ?_
 refine ze (zeu [mark] 4 1 (by simp) (.inr (.inr (.inl rfl)))) ?_
 refine Vdraw.cut 9 (by kernel_rfl) ?_
 refine za rfl rfl ?_
 refine Vint.n 0 (by show(0:Int)=IntKind.u64.wrap 0;decide) ?_
 refine ze (znk ([mark]++beB 4 1) 4 0 (by simp only[bL,zao,List.length_cons,List.length_nil];omega) (.inr (.inr (.inl rfl)))) ?_
 refine ze (znl 1) ?_
 refine zj [(0,3)] [] (λ_ _=>hp) (zi rfl ⟨_,_,rfl,cr,_,_,rfl,rfl,_,_,rfl,cr,rfl⟩) rfl ⟨⟨rfl,rfl,rfl,rfl,zn _⟩,trivial⟩ ⟨zaq,trivial⟩ ?_
 refine⟨_,zbr (id:=4) rfl,?_⟩
 exact cr
theorem z7f(lf:Leaf)(hlf:lf.fit)(hlr:lf.right=true):bG 41 [.ag (zhc lf).c] (.r (.tu [bs (oneB 1 lf),Er 0])):=by
 refine bT Tryz.func41 rfl ?_
 have hb:=ze0b (zg3 hlf)
 have hR:=z4t (zqg hlr) rfl
 have c1:=zuz (zhc lf) hb
 have hp:pieS (zhc lf)=zhc lf:=if_pos (by have:=hR;unfold sR at this;simp only[Bool.and_eq_true]at this;exact this.1)
 rw[hR,hp]at c1
 have c2:=z68 1 lf hlf hlr
 refine za rfl rfl ?_
 refine ze c1 ?_
 refine zw rfl (zt ?_)
 refine za rfl rfl ?_
 refine ze c2 ?_
 exact⟨_,rfl,cr⟩
abbrev epR(x:CtxP)(o:Leaf):List RV:=[bs x.group, .i .u64 x.epoch,bs x.tree,bs x.trans,nods [L1 o]]
abbrev mirR(x:CtxP)(o:Leaf)(it:List UInt8):List RV:=[.sl 5 1 (epR x o),bs it,ns]
theorem znq(x:CtxP)(hx:x.fit):bG 28 [.ag x.c] (.r (.ag x.c)):=by
 refine bT Tryz.func28 rfl ?_
 obtain⟨h1,h2,h3,h4⟩:=hx
 refine bV ?_
 refine ze (zcj x.group (by omega)) ?_
 refine ze (zcj x.tree (by omega)) ?_
 refine ze (zcj x.trans (by omega)) ?_
 refine za rfl rfl ?_
 exact cr
theorem zg6b(x:CtxP)(o:Leaf)(it:List UInt8)(hx:x.fit)(ht:x.tree=hash1 o)(ho:o.fit)(hr:o.right=true)(hi:it.length<=1000000):bG 9 [.ag x.c,bs it,nods [L1 o]] (.r (.tu [.ptr (mirR x o it),Er 0])):=by
 refine zar (T:=Tab) mixed Tab_ok Tryz.func9 rfl (by kernel_rfl) ?_
 have c3:bG 27 [bs (hash1 o),bs x.tree] (.r (.b true)):=by
  have:=zqr (hash1 o) x.tree
  rw[decide_eq_true ht.symm]at this
  exact this
 refine ze (z1s o ho hr) ?_
 refine zw rfl (zt ?_)
 refine ze c3 ?_
 refine zw rfl (zt ?_)
 refine za rfl rfl ?_
 refine ze (znq x hx) ?_
 refine ze (z1f o ho) ?_
 refine zy ?_
 refine ze (zcj it (by omega)) ?_
 refine⟨_,Sub.trans (zac [(0,3)] (S':=⟨[(6, .own 0),(7, .r (Er 0))],[(0,some (.box ((mirR x o it).map TF.r)))],1⟩) rfl (by repeat' (first|exact rfl|exact trivial|exact cr|exact Cv.nil _|exact⟨rfl,rfl⟩|refine⟨_,_,rfl,?_,?_⟩|refine⟨?_,?_⟩)) (by repeat' (first|exact rfl|exact trivial|exact cr|exact Cv.nil _|exact⟨rfl,rfl⟩|refine⟨_,_,rfl,?_,?_⟩|refine⟨?_,?_⟩))) (zd7 (t:=6) (mirR x o it) rfl rfl),?_⟩
 exact⟨_,rfl,cr⟩
theorem zg7b(x:CtxP)(o:Leaf)(it:List UInt8):bG 49 [.ptr (mirR x o it)] (.r (.ag (epR x o))):=by
 refine bT Tryz.func49 rfl ?_
 refine bV ?_
 refine zg rfl ?_
 refine zg rfl ?_
 refine zd (m:=0) rfl (by decide) ?_
 refine zm i00 i01 rfl ?_
 refine za rfl rfl ?_
 refine za rfl rfl ?_
 exact cr
theorem zu3(x:CtxP)(o:Leaf)(it:List UInt8):bG 19 [.ptr (mirR x o it)] (.r (.tu [.i .u64 x.epoch, .i .u64 x.epoch])):=by
 refine bT Tryz.func19 rfl ?_
 refine Vfun.pn _ rfl rfl rfl Tryz.underlying31 (zt ?_)
 refine Vdraw.code (Vcode.float mixed Tab_ok 13 [⟨0,6, .r (.ptr (mirR x o it)),[]⟩,⟨1,7, .r (.ptr (mirR x o it)),[0]⟩,⟨2,8, .r (.ptr (mirR x o it)),[1]⟩,⟨3,9, .r (.sl 5 1 (epR x o)),[2]⟩,⟨4,10, .r (.ptr (epR x o)),[3]⟩,⟨5,11, .r (.ptr (epR x o)),[4]⟩,⟨6,12, .r (.ptr ((epR x o).drop 1)),[5]⟩,⟨7,13, .r (.i .u64 x.epoch),[6]⟩,⟨8,14, .r (.ptr (mirR x o it)),[]⟩,⟨9,15, .r (.ag (epR x o)),[8]⟩,⟨10,16, .r (.ag x.c),[9]⟩,⟨11,17, .r (.i .u64 x.epoch),[10]⟩,⟨12,2, .r (.i .u64 x.epoch),[7]⟩] [] (by kernel_rfl) (F:=[(0, .r (.ptr (mirR x o it)))]) (O:=[]) (nx:=0) (zac [] rfl ⟨cr,trivial⟩ trivial) ?_)
 refine⟨rfl,⟨λY=>zo _,λY=>zo _,λY=>zo _,λY=>zg rfl (zo _),λY=>zm i00 i01 rfl (zo _),λY=>zo _,λY=>zo _,λY=>zg rfl (zo _),λY=>zo _,λY=>ze (zg7b x o it) (zo _),λY=>Vsem.fieldN Tab_ok rfl rfl rfl rfl rfl rfl rfl (Nat.le_of_ble_eq_true rfl) rfl (zo _),λY=>Vsem.field Tab_ok rfl rfl rfl rfl rfl rfl rfl rfl (zo _),λY=>zo _,trivial⟩,?_⟩
 exact⟨_,rfl,cr⟩
theorem zcgb(x:CtxP)(o:Leaf)(it:List UInt8)(hx:x.epoch=0):bG 38 [.ptr (mirR x o it), .i .u64 0] (.r (.tu [I 0,Er 0])):=by
 have c:=zu3 x o it
 rw[hx]at c
 refine bT Tryz.func38 rfl ?_
 refine ze c ?_
 refine Vfun.pn _ rfl rfl rfl Tryz.underlying31 (zt ?_)
 refine zw rfl (zt ?_)
 refine zw rfl (zt ?_)
 refine Vint.u64 (n:=0) rfl (by decide) ?_
 refine zd (m:=0) rfl (by decide) ?_
 exact⟨_,rfl,cr⟩
theorem zlz(l:List UInt8)(hl:l.length<=1048576):bG 40 [bs l,Er 0] (.r (.tu [bs l,Er 0])):=by
 refine bT Tryz.func40 rfl ?_
 refine zw rfl (zt ?_)
 refine zw (by simp only[zb];omega) (zt ?_)
 exact⟨_,rfl,cr⟩
theorem zalb(x:CtxP)(o:Leaf)(it:List UInt8)(hx:x.epoch=0)(ho:o.fit)(hr:o.right=true)(hl:(oneB 1 o).length<=1048576):bG 13 [.ptr (mirR x o it), .i .u64 0,I 0] (.r (.tu [bs (oneB 1 o),Er 0])):=by
 have c1:=zcgb x o it hx
 have c2:=zd6b o ho hr
 have c3:=z7f o ho hr
 have c4:=zlz _ hl
 refine bT Tryz.func13 rfl ?_
 refine ze c1 ?_
 refine zw rfl (zt ?_)
 refine zg rfl ?_
 refine zm i00 i01 rfl ?_
 refine zg rfl ?_
 refine ze c2 ?_
 refine zw rfl (zt ?_)
 refine za rfl rfl ?_
 refine ze c3 ?_
 refine ze c4 ?_
 exact⟨_,rfl,cr⟩
theorem zakb(x:CtxP)(o:Leaf)(it:List UInt8)(hx:x.epoch=0):bG 16 [.ptr (mirR x o it), .i .u64 0,I 0] (.r (.tu [bs [],Er 18])):=by
 have c1:=zcgb x o it hx
 refine bT Tryz.func16 rfl ?_
 refine ze c1 ?_
 refine zw rfl (zt ?_)
 refine zu rfl (zq ?_)
 exact⟨_,rfl,Cv.tu (zk (Cv.nil 1) (zn _))⟩
theorem zdrb(g:GrpV)(hg:g.ok zm9):bG 18 [.ptr (zln (.sl 1 1 [.ptr (grR g.v g.o g.sg)]) 1)] (.r (.tu [.ptr (mirR g.v.ctx g.o g.v.interim), .b true])):=by
 have hf:=hg.fit
 have ht:g.v.ctx.tree=hash1 g.o:=by rw[hg.ctx]
 have c1:=zeeb g.v g.o g.sg hg.sm hf hg.sg
 have c2:=zg6b g.v.ctx g.o g.v.interim ⟨by have:=hg.sm.group;omega,by rw[hg.ctx];show 0<18446744073709551616;decide,by have:=hg.sm.tree;omega,by have:=hg.sm.trans;omega⟩ ht hf hg.right hg.sm.interim
 refine bT Tryz.func18 rfl ?_
 refine zg rfl ?_
 refine zm i00 i01 rfl ?_
 refine zg rfl ?_
 refine ze c1 ?_
 refine za rfl rfl ?_
 refine ze c2 ?_
 refine zd (m:=0) rfl (by decide) ?_
 refine zu rfl ?_
 exact⟨_,rfl,cr⟩
theorem zezb{g:GrpV}(hg:g.ok zm9):(oneB 1 g.o).length<=1048576:=by
 have h1:=zl5 g.o
 have h2:zak (L1 g.o)=1::zl4 g.o:=rfl
 have a1:=hg.box
 have a2:=hg.sign
 have a3:=hg.ident
 have a4:=hg.parent
 have a5:=hg.lsig
 simp only[oneB,h2,bL,List.length_cons,List.length_nil,zao]
 omega
theorem z6r:bG 4 [] (.r (.b true)):=by
 obtain⟨g,hg,cb⟩:=z6t
 have c1:=zdrb g hg
 have he:g.v.ctx.epoch=0:=by rw[hg.ctx]
 have c2:=zu3 g.v.ctx g.o g.v.interim
 rw[he]at c2
 have c3:=zakb g.v.ctx g.o g.v.interim he
 have c4:=zalb g.v.ctx g.o g.v.interim he hg.fit hg.right (zezb hg)
 refine bT Tryz.func4 rfl ?_
 refine ze cb ?_
 refine zw rfl (zt ?_)
 refine ze c1 ?_
 refine zw rfl (zt ?_)
 refine ze c2 ?_
 refine ze c3 ?_
 refine ze c4 ?_
 refine zu rfl ?_
 refine zu rfl ?_
 refine zd (m:=18) rfl (by decide) ?_
 refine zu rfl ?_
 refine zd (m:=0) rfl (by decide) ?_
 refine zu rfl ?_
 exact cr
end Go.Proofs.YtoegdgbghdnnfaaGreat.Sx
