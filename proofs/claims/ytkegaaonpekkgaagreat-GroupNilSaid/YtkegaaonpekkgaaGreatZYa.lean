import Derived.Test.YtkegaaonpekkgaaGreatZJa
import Derived.Test.YtkegaaonpekkgaaGreatZSxA
namespace Go.Proofs.YtkegaaonpekkgaaGreat.Sx
open Go.RowKit
def comB(l:Leaf):List UInt8:=vecB []++[1]++zc8 l++vecB []
def frmB(m:MsgP):List UInt8:=vecB m.group++beB 8 m.epoch++[1]++beB 4 m.frm++[3]++comB m.lf
def zbz(m:MsgP):List UInt8:=beB 2 1++beB 2 1++frmB m
def zll(b:List UInt8)(m:MsgP):List UInt8:=b++vecB m.sig++vecB m.tag
def msgB(m:MsgP):List UInt8:=zll (zbz m) m++vecB m.mem
def sgnB(m:MsgP)(x:CtxP):List UInt8:=zbz m++ctxB x
def tagB(m:MsgP)(x:CtxP):List UInt8:=zll (zbz m++ctxB x) m
def cfmB(m:MsgP):List UInt8:=beB 2 1++frmB m++vecB m.sig
theorem zz4(l:Leaf)(hr:l.right=true):(comB l).length<=260:=by
 have h1:=zib l
 have h2:=zai []
 obtain⟨k1,k2,k3,k4,k5⟩:=zg5 hr
 simp only[comB,aL,List.length_cons,List.length_nil]at*
 omega
theorem znm(m:MsgP)(hm:m.sm):(frmB m).length<=450:=by
 have h1:=zai m.group
 have h2:=hm.group
 have h3:=zz4 m.lf hm.lf
 simp only[frmB,aL,zao,List.length_cons,List.length_nil]
 omega
theorem zh8(m:MsgP)(hm:m.sm):(zbz m).length<=550:=by
 have h1:=znm m hm
 simp only[zbz,aL,zao]
 omega
theorem zpk(b:List UInt8)(m:MsgP)(hm:m.sm):(zll b m).length<=b.length+200:=by
 have h1:=zai m.sig
 have h2:=zai m.tag
 have h3:=hm.sig
 have h4:=hm.tag
 simp only[zll,aL]
 omega
def cb1:List UInt8:=vecB []++[1]
def cb2(l:Leaf):List UInt8:=cb1++zc8 l
set_option maxRecDepth 20000 in
theorem z6q(l:Leaf)(hr:l.right=true):aG 257 [.ag (comR l)] (.r (bs (comB l))):=by
 refine aT Tryz.func257 rfl ?_
 have hf:=zcy hr
 have c1:=zmg l hf hr
 refine Vloop.rounds 1 (Vrounds.step mixed Tab_ok ?_)
 refine zu rfl (zq ?_)
 refine Vcall.mk' (zeh [] [] (by simp) (by simp)) (zk (Cv.nil 1) (zk (Cv.nil 1) Cvs.nil)) ?_
 rw[List.nil_append]
 refine zu rfl (zq ?_)
 refine Vloop.rounds 1 (Vrounds.step mixed Tab_ok ?_)
 refine zu rfl (zq ?_)
 have hl:=zib l
 obtain⟨k1,k2,k3,k4,k5⟩:=zg5 hr
 have hv:=zai []
 simp only[List.length_nil]at hv
 have l1:cb1.length<=10:=by simp only[cb1,aL,List.length_cons,List.length_nil];omega
 have l2:(cb2 l).length<=300:=by rw[cb2,aL];omega
 have l3:(cb2 l).length=cb1.length+(zc8 l).length:=by rw[cb2,aL]
 refine Vdraw.code (Vcode.float mixed Tab_ok 9 [⟨1,77, .r (.sl 1 1 [U8 1]),[]⟩,⟨3,79, .adr 0 2,[]⟩,⟨4,80, .adr 0 2,[3]⟩,⟨5,81, .r (.ag l.c),[4]⟩,⟨8,84, .r nl,[]⟩] [(0,[]),(2,[1]),(6,[5]),(7,[])] (by kernel_rfl) (F:=[(4, .r nl),(7, .own 1),(1, .own 0)]) (O:=[(1,some (.ch 5 1 (vecB []).length ((vecB []).map U8) true)),(0,some (.box ((comR l).map .r)))]) (nx:=2) (zad [(0,0),(1,1)] rfl (by repeat' (first|exact rfl|exact trivial|exact cr|exact Cv.nil _|exact⟨rfl,rfl⟩|refine⟨_,_,rfl,?_,?_⟩|refine⟨?_,?_⟩)) (by repeat' (first|exact rfl|exact trivial|exact cr|exact Cv.nil _|exact⟨rfl,rfl⟩|refine⟨_,_,rfl,?_,?_⟩|refine⟨?_,?_⟩))) ?_)
 refine⟨rfl,⟨λY=>Or.inr (Yld.read (d:=77) (e:=5) (sz:=1) (n:=1) (cells:=[U8 1]) Tab_ok (zw rfl)),λY=>zo _,λY=>zo _,λY=>za rfl rfl (zo _),λY=>zo _,trivial⟩,(76, .own 1)::[(4, .r nl),(7, .own 1),(1, .own 0)],[(1,some (.ch 5 1 (vecB []).length ((vecB []).map U8) true)),(0,some (.box ((comR l).map .r)))],2,λY=>zo _,?_⟩
 refine⟨rfl,⟨λY=>Or.inr (Yld.read (d:=77) (e:=5) (sz:=1) (n:=1) (cells:=[U8 1]) Tab_ok (zw rfl)),λY=>zo _,λY=>zo _,λY=>za rfl rfl (zo _),λY=>zo _,trivial⟩,(78, .own 2)::(76, .own 1)::[(4, .r nl),(7, .own 1),(1, .own 0)],(2,some (.ch 5 1 cb1.length (cb1.map U8) true))::(1,none)::[(1,some (.ch 5 1 (vecB []).length ((vecB []).map U8) true)),(0,some (.box ((comR l).map .r)))],3,λY=>by
  refine Vapp.mk' (j:=cb1.length) (zs:=cb1.map U8) (by simp only[maxLen];omega) (by decide+kernel) (by simp only[cb1,aL];rfl) (by simp only[cb1,List.map_append];rfl) ?_
  exact zo _,?_⟩
 refine⟨rfl,⟨λY=>Or.inr (Yld.read (d:=77) (e:=5) (sz:=1) (n:=1) (cells:=[U8 1]) Tab_ok (zw rfl)),λY=>zo _,λY=>zo _,λY=>za rfl rfl (zo _),λY=>zo _,trivial⟩,(82, .r (bs (zc8 l)))::(78, .own 2)::(76, .own 1)::[(4, .r nl),(7, .own 1),(1, .own 0)],(2,some (.ch 5 1 cb1.length (cb1.map U8) true))::(1,none)::[(1,some (.ch 5 1 (vecB []).length ((vecB []).map U8) true)),(0,some (.box ((comR l).map .r)))],3,λY=>ze c1 (zo _),?_⟩
 refine⟨rfl,⟨λY=>Or.inr (Yld.read (d:=77) (e:=5) (sz:=1) (n:=1) (cells:=[U8 1]) Tab_ok (zw rfl)),λY=>zo _,λY=>zo _,λY=>za rfl rfl (zo _),λY=>zo _,trivial⟩,(83, .own 3)::(82, .r (bs (zc8 l)))::(78, .own 2)::(76, .own 1)::[(4, .r nl),(7, .own 1),(1, .own 0)],(3,some (.ch 5 1 (cb2 l).length ((cb2 l).map U8) true))::(2,none)::(2,some (.ch 5 1 cb1.length (cb1.map U8) true))::(1,none)::[(1,some (.ch 5 1 (vecB []).length ((vecB []).map U8) true)),(0,some (.box ((comR l).map .r)))],4,λY=>by
  refine Vapp.mk' (j:=(cb2 l).length) (zs:=(cb2 l).map U8) (by simp only[maxLen];omega) (by show(cb1.length+(zc8 l).length)*1<=_;omega) (by simp only[cb2,aL]) (by simp only[cb2,List.map_append]) ?_
  exact zo _,?_⟩
 refine⟨rfl,⟨λY=>Or.inr (Yld.read (d:=77) (e:=5) (sz:=1) (n:=1) (cells:=[U8 1]) Tab_ok (zw rfl)),λY=>zo _,λY=>zo _,λY=>za rfl rfl (zo _),λY=>zo _,trivial⟩,?_⟩
 refine Vcall.mk' (zeh (cb2 l) [] (by omega) (by simp)) (zk (cr) (zk (Cv.nil 1) Cvs.nil)) ?_
 exact cr
def fb1(m:MsgP):List UInt8:=vecB m.group++beB 8 m.epoch++[1]
def fb2(m:MsgP):List UInt8:=fb1 m++beB 4 m.frm
def fb3(m:MsgP):List UInt8:=fb2 m++[3]
set_option maxRecDepth 20000 in
theorem zsy(m:MsgP)(hm:m.sm):aG 173 [.ag m.c] (.r (bs (frmB m))):=by
 refine aT Tryz.func173 rfl ?_
 obtain⟨h1,h2,h3,h4,h5,h6,h7,h8,h9⟩:=hm
 have v1:=zai m.group
 have v2:=zz4 m.lf h7
 have l1:(fb1 m).length<=100:=by simp only[fb1,aL,zao,List.length_cons,List.length_nil];omega
 have l2:(fb2 m).length<=110:=by simp only[fb2,aL,zao];omega
 have l3:(fb3 m).length=(fb2 m).length+1:=by rw[fb3,aL];rfl
 have hf:frmB m=fb3 m++comB m.lf:=rfl
 have l4:(frmB m).length=(fb3 m).length+(comB m.lf).length:=by rw[hf,aL]
 have l0:(vecB m.group++beB 8 m.epoch).length<=90:=by simp only[aL,zao];omega
 have c1:=zeh [] m.group (by simp) (by omega)
 rw[List.nil_append]at c1
 have c2:=ze2 (vecB m.group) 8 m.epoch (by omega) (.inr (.inr (.inr rfl)))
 have c3:=ze2 (fb1 m) 4 m.frm (by omega) (.inr (.inr (.inl rfl)))
 refine Vdraw.code (Vcode.float mixed Tab_ok 12 [⟨0,4, .adr 0 0,[]⟩,⟨1,5, .r (bs m.group),[0]⟩,⟨3,7, .adr 0 1,[]⟩,⟨4,8, .r (.i .u64 m.epoch),[3]⟩,⟨6,10, .r (.sl 1 1 [U8 1]),[]⟩,⟨8,12, .adr 0 2,[]⟩,⟨9,13, .r (I m.frm),[8]⟩,⟨10,14, .r (.i .u64 m.frm),[9]⟩] [(2,[1]),(5,[4]),(7,[6]),(11,[10])] (by kernel_rfl) (F:=[(1, .own 0)]) (O:=[(0,some (.box (m.c.map .r)))]) (nx:=1) (zad [(0,0)] rfl (by repeat' (first|exact rfl|exact trivial|exact cr|exact Cv.nil _|exact⟨rfl,rfl⟩|refine⟨_,_,rfl,?_,?_⟩|refine⟨?_,?_⟩)) (by repeat' (first|exact rfl|exact trivial|exact cr|exact Cv.nil _|exact⟨rfl,rfl⟩|refine⟨_,_,rfl,?_,?_⟩|refine⟨?_,?_⟩))) ?_)
 refine⟨rfl,⟨λY=>zo _,λY=>zo _,λY=>zo _,λY=>zo _,λY=>Or.inr (Yld.read (d:=10) (e:=5) (sz:=1) (n:=1) (cells:=[U8 1]) Tab_ok (zw rfl)),λY=>zo _,λY=>zo _,λY=>Vint.u64 m.frm rfl (by omega) (zo _),trivial⟩,(6, .own 1)::[(1, .own 0)],(1,some (.ch 5 1 (vecB m.group).length ((vecB m.group).map U8) true))::[(0,some (.box (m.c.map .r)))],2,λY=>Vcall.mk' c1 (zk (Cv.nil 1) (zn _)) (zo _),?_⟩
 refine⟨rfl,⟨λY=>zo _,λY=>zo _,λY=>zo _,λY=>zo _,λY=>Or.inr (Yld.read (d:=10) (e:=5) (sz:=1) (n:=1) (cells:=[U8 1]) Tab_ok (zw rfl)),λY=>zo _,λY=>zo _,λY=>Vint.u64 m.frm rfl (by omega) (zo _),trivial⟩,(9, .own 2)::(6, .own 1)::[(1, .own 0)],(2,some (.ch 5 1 (vecB m.group++beB 8 m.epoch).length ((vecB m.group++beB 8 m.epoch).map U8) true))::(1,some (.ch 5 1 (vecB m.group).length ((vecB m.group).map U8) true))::[(0,some (.box (m.c.map .r)))],3,λY=>ze c2 (zo _),?_⟩
 refine⟨rfl,⟨λY=>zo _,λY=>zo _,λY=>zo _,λY=>zo _,λY=>Or.inr (Yld.read (d:=10) (e:=5) (sz:=1) (n:=1) (cells:=[U8 1]) Tab_ok (zw rfl)),λY=>zo _,λY=>zo _,λY=>Vint.u64 m.frm rfl (by omega) (zo _),trivial⟩,(11, .own 3)::(9, .own 2)::(6, .own 1)::[(1, .own 0)],(3,some (.ch 5 1 (fb1 m).length ((fb1 m).map U8) true))::(2,none)::(2,some (.ch 5 1 (vecB m.group++beB 8 m.epoch).length ((vecB m.group++beB 8 m.epoch).map U8) true))::(1,some (.ch 5 1 (vecB m.group).length ((vecB m.group).map U8) true))::[(0,some (.box (m.c.map .r)))],4,λY=>by
  refine Vapp.mk' (j:=(fb1 m).length) (zs:=(fb1 m).map U8) (by simp only[maxLen];omega) (by show((vecB m.group++beB 8 m.epoch).length+1)*1<=_;omega) (by simp only[fb1,aL];rfl) (by simp only[fb1,List.map_append];rfl) ?_
  exact zo _,?_⟩
 refine⟨rfl,⟨λY=>zo _,λY=>zo _,λY=>zo _,λY=>zo _,λY=>Or.inr (Yld.read (d:=10) (e:=5) (sz:=1) (n:=1) (cells:=[U8 1]) Tab_ok (zw rfl)),λY=>zo _,λY=>zo _,λY=>Vint.u64 m.frm rfl (by omega) (zo _),trivial⟩,(15, .own 4)::(11, .own 3)::(9, .own 2)::(6, .own 1)::[(1, .own 0)],(4,some (.ch 5 1 (fb2 m).length ((fb2 m).map U8) true))::(3,some (.ch 5 1 (fb1 m).length ((fb1 m).map U8) true))::(2,none)::(2,some (.ch 5 1 (vecB m.group++beB 8 m.epoch).length ((vecB m.group++beB 8 m.epoch).map U8) true))::(1,some (.ch 5 1 (vecB m.group).length ((vecB m.group).map U8) true))::[(0,some (.box (m.c.map .r)))],5,λY=>ze c3 (zo _),?_⟩
 refine⟨rfl,⟨λY=>zo _,λY=>zo _,λY=>zo _,λY=>zo _,λY=>Or.inr (Yld.read (d:=10) (e:=5) (sz:=1) (n:=1) (cells:=[U8 1]) Tab_ok (zw rfl)),λY=>zo _,λY=>zo _,λY=>Vint.u64 m.frm rfl (by omega) (zo _),trivial⟩,?_⟩
 refine zw ?_
 refine Vapp.mk' (j:=(fb3 m).length) (zs:=(fb3 m).map U8) (by simp only[maxLen];omega) (by show((fb2 m).length+1)*1<=_;omega) (by simp only[fb3,aL];rfl) (by simp only[fb3,List.map_append];rfl) ?_
 refine zu rfl (zq ?_)
 refine za rfl rfl ?_
 refine ze (z6q m.lf h7) ?_
 refine Vapp.mk' (j:=(frmB m).length) (zs:=(frmB m).map U8) (by simp only[maxLen];omega) (by show((fb3 m).length+(comB m.lf).length)*1<=_;omega) (by rw[hf,aL]) (by rw[hf,List.map_append]) ?_
 exact cr
theorem zry(m:MsgP)(hm:m.sm):aG 156 [.ag m.c] (bch (zbz m)):=by
 refine aT Tryz.func156 rfl ?_
 have hf:=zsy m hm
 have hl:=znm m hm
 have h0:(beB 2 1++beB 2 1).length=4:=by rw[aL,zao]
 refine aV ?_
 refine Vcall.mk' (ze2 [] 2 1 (by simp) (.inr (.inl rfl))) (zk (Cv.nil _) (zn _)) ?_
 rw[List.nil_append]
 refine ze (ze2 (beB 2 1) 2 1 (by rw[zao];omega) (.inr (.inl rfl))) ?_
 refine za rfl rfl ?_
 refine ze hf ?_
 refine Vapp.mk' (j:=(zbz m).length) (zs:=(zbz m).map U8) (by simp only[maxLen];omega) (by show(_+(frmB m).length)*1<=_;omega) (by simp only[zbz,aL]) (by simp only[zbz,List.map_append]) ?_
 exact rfl
theorem zs1(b:List UInt8)(m:MsgP)(hm:m.sm)(hb:b.length<=100000000):aG 159 [bs b, .ag m.c] (bch (zll b m)):=by
 refine aT Tryz.func159 rfl ?_
 have v1:=zai m.sig
 have h3:=hm.sig
 have h4:=hm.tag
 refine ze (zeh b m.sig (by omega) (by omega)) ?_
 refine zt rfl (zp ?_)
 refine ze (zeh (b++vecB m.sig) m.tag (by rw[aL];omega) (by omega)) ?_
 exact rfl
theorem z5w(m:MsgP)(hm:m.sm):aG 174 [.ptr m.c] (.r (bs (msgB m))):=by
 refine aT Tryz.func174 rfl ?_
 have hh:=zry m hm
 have hl:=zh8 m hm
 have hs:=zs1 (zbz m) m hm (by omega)
 have hl2:=zpk (zbz m) m hm
 have h6:=hm.mem
 refine aV ?_
 refine za rfl rfl ?_
 refine ze hh ?_
 refine za rfl rfl ?_
 refine ze hs ?_
 refine zg rfl ?_
 refine ze (zeh (zll (zbz m) m) m.mem (by omega) (by omega)) ?_
 exact cr
theorem z2q(m:MsgP)(hm:m.sm)(x:CtxP)(hx:x.fit):aG 155 [.ptr m.c, .ptr x.c] (.r (bs (sgnB m x))):=by
 refine aT Tryz.func155 rfl ?_
 have hh:=zry m hm
 have hl:=zh8 m hm
 have hc:=zmf x hx
 have hl2:=zjo x
 obtain⟨k1,k2,k3,k4⟩:=id hx
 refine aV ?_
 refine za rfl rfl ?_
 refine ze hh ?_
 refine za rfl rfl ?_
 refine ze hc ?_
 refine Vapp.mk' (j:=(sgnB m x).length) (zs:=(sgnB m x).map U8) (by simp only[maxLen];omega) (by show((zbz m).length+(ctxB x).length)*1<=_;omega) (by simp only[sgnB,aL]) (by simp only[sgnB,List.map_append]) ?_
 exact cr
theorem z2r(m:MsgP)(hm:m.sm)(x:CtxP)(hx:x.fit):aG 158 [.ptr m.c, .ptr x.c] (.r (bs (tagB m x))):=by
 refine aT Tryz.func158 rfl ?_
 have hh:=zry m hm
 have hl:=zh8 m hm
 have hc:=zmf x hx
 have hl2:=zjo x
 obtain⟨k1,k2,k3,k4⟩:=id hx
 have l3:(sgnB m x).length=(zbz m).length+(ctxB x).length:=aL
 have hs:=zs1 (sgnB m x) m hm (by omega)
 refine Vdraw.code (Vcode.float mixed Tab_ok 7 [⟨0,3, .r (.ag m.c),[]⟩,⟨2,5, .r (.ag x.c),[]⟩,⟨5,8, .r (.ag m.c),[]⟩] [(1,[0]),(3,[2]),(4,[]),(6,[5])] (by kernel_rfl) (F:=[(0, .r (.ptr m.c)),(1, .r (.ptr x.c))]) (O:=[]) (nx:=0) (zad [] rfl (by repeat' (first|exact rfl|exact trivial|exact cr|exact Cv.nil _|exact⟨rfl,rfl⟩|refine⟨_,_,rfl,?_,?_⟩|refine⟨?_,?_⟩)) trivial) ?_)
 refine⟨rfl,⟨λY=>za rfl rfl (zo _),λY=>za rfl rfl (zo _),λY=>za rfl rfl (zo _),trivial⟩,(4, .own 0)::[(0, .r (.ptr m.c)),(1, .r (.ptr x.c))],(0,some (.ch 5 1 (zbz m).length ((zbz m).map U8) true))::[],1,λY=>ze hh (zo _),?_⟩
 refine⟨rfl,⟨λY=>za rfl rfl (zo _),λY=>za rfl rfl (zo _),λY=>za rfl rfl (zo _),trivial⟩,(6, .r (bs (ctxB x)))::(4, .own 0)::[(0, .r (.ptr m.c)),(1, .r (.ptr x.c))],(0,some (.ch 5 1 (zbz m).length ((zbz m).map U8) true))::[],1,λY=>ze hc (zo _),?_⟩
 refine⟨rfl,⟨λY=>za rfl rfl (zo _),λY=>za rfl rfl (zo _),λY=>za rfl rfl (zo _),trivial⟩,(7, .own 1)::(6, .r (bs (ctxB x)))::(4, .own 0)::[(0, .r (.ptr m.c)),(1, .r (.ptr x.c))],(1,some (.ch 5 1 (sgnB m x).length ((sgnB m x).map U8) true))::(0,none)::(0,some (.ch 5 1 (zbz m).length ((zbz m).map U8) true))::[],2,λY=>by
  refine Vapp.mk' (j:=(sgnB m x).length) (zs:=(sgnB m x).map U8) (by simp only[maxLen];omega) (by show((zbz m).length+(ctxB x).length)*1<=_;omega) (by simp only[sgnB,aL]) (by simp only[sgnB,List.map_append]) ?_
  exact zo _,?_⟩
 refine⟨rfl,⟨λY=>za rfl rfl (zo _),λY=>za rfl rfl (zo _),λY=>za rfl rfl (zo _),trivial⟩,(9, .own 2)::(7, .own 1)::(6, .r (bs (ctxB x)))::(4, .own 0)::[(0, .r (.ptr m.c)),(1, .r (.ptr x.c))],(2,some (.ch 5 1 (tagB m x).length ((tagB m x).map U8) true))::(1,some (.ch 5 1 (sgnB m x).length ((sgnB m x).map U8) true))::(0,none)::(0,some (.ch 5 1 (zbz m).length ((zbz m).map U8) true))::[],3,λY=>ze hs (zo _),?_⟩
 refine⟨rfl,⟨λY=>za rfl rfl (zo _),λY=>za rfl rfl (zo _),λY=>za rfl rfl (zo _),trivial⟩,?_⟩
 exact cr
theorem zue(m:MsgP)(hm:m.sm):aG 170 [.ptr m.c] (.r (bs (cfmB m))):=by
 refine aT Tryz.func170 rfl ?_
 have hf:=zsy m hm
 have hl:=znm m hm
 have h3:=hm.sig
 have h0:(beB 2 1).length=2:=zao _ _
 have l1:(beB 2 1++frmB m).length=2+(frmB m).length:=by rw[aL,h0]
 have c1:=ze2 [] 2 1 (by simp) (.inr (.inl rfl))
 rw[List.nil_append]at c1
 refine Vdraw.code (Vcode.float mixed Tab_ok 7 [⟨1,3, .r (.ag m.c),[]⟩,⟨4,6, .r (.ptr (m.c.drop 29)),[]⟩,⟨5,7, .r (bs m.sig),[4]⟩] [(0,[]),(2,[1]),(3,[]),(6,[5])] (by kernel_rfl) (F:=[(0, .r (.ptr m.c))]) (O:=[]) (nx:=0) (zad [] rfl (by repeat' (first|exact rfl|exact trivial|exact cr|exact Cv.nil _|exact⟨rfl,rfl⟩|refine⟨_,_,rfl,?_,?_⟩|refine⟨?_,?_⟩)) trivial) ?_)
 refine⟨rfl,⟨λY=>za rfl rfl (zo _),λY=>zo _,λY=>zg rfl (zo _),trivial⟩,(2, .own 0)::[(0, .r (.ptr m.c))],(0,some (.ch 5 1 (beB 2 1).length ((beB 2 1).map U8) true))::[],1,λY=>Vcall.mk' c1 (zk (Cv.nil _) (zn _)) (zo _),?_⟩
 refine⟨rfl,⟨λY=>za rfl rfl (zo _),λY=>zo _,λY=>zg rfl (zo _),trivial⟩,(4, .r (bs (frmB m)))::(2, .own 0)::[(0, .r (.ptr m.c))],(0,some (.ch 5 1 (beB 2 1).length ((beB 2 1).map U8) true))::[],1,λY=>ze hf (zo _),?_⟩
 refine⟨rfl,⟨λY=>za rfl rfl (zo _),λY=>zo _,λY=>zg rfl (zo _),trivial⟩,(5, .own 1)::(4, .r (bs (frmB m)))::(2, .own 0)::[(0, .r (.ptr m.c))],(1,some (.ch 5 1 (beB 2 1++frmB m).length ((beB 2 1++frmB m).map U8) true))::(0,none)::(0,some (.ch 5 1 (beB 2 1).length ((beB 2 1).map U8) true))::[],2,λY=>by
  refine Vapp.mk' (j:=(beB 2 1++frmB m).length) (zs:=(beB 2 1++frmB m).map U8) (by simp only[maxLen];omega) (by show((beB 2 1).length+(frmB m).length)*1<=_;omega) (by simp only[aL]) (by simp only[List.map_append]) ?_
  exact zo _,?_⟩
 refine⟨rfl,⟨λY=>za rfl rfl (zo _),λY=>zo _,λY=>zg rfl (zo _),trivial⟩,(8, .own 2)::(5, .own 1)::(4, .r (bs (frmB m)))::(2, .own 0)::[(0, .r (.ptr m.c))],(2,some (.ch 5 1 (cfmB m).length ((cfmB m).map U8) true))::(1,some (.ch 5 1 (beB 2 1++frmB m).length ((beB 2 1++frmB m).map U8) true))::(0,none)::(0,some (.ch 5 1 (beB 2 1).length ((beB 2 1).map U8) true))::[],3,λY=>ze (zeh (beB 2 1++frmB m) m.sig (by omega) (by omega)) (zo _),?_⟩
 refine⟨rfl,⟨λY=>za rfl rfl (zo _),λY=>zo _,λY=>zg rfl (zo _),trivial⟩,?_⟩
 exact cr
theorem z9s(m:MsgP)(hm:m.sm):aG 104 [.ag m.c] (.r (.tu [bs (msgB m),Er 0])):=by
 refine aT Tryz.func104 rfl ?_
 refine za rfl rfl ?_
 refine ze (zh6 m hm) ?_
 refine Vstep.sub (zci (id:=0) (t:=1) m.c rfl rfl) (Vstep.mkfunS rfl rfl ?_)
 refine ze (zml true _ _ (msgB m) λ_=>z5w m hm) ?_
 exact⟨_,rfl,cr⟩
theorem zs2(m:MsgP)(hm:m.sm)(x:CtxP)(hx:x.fit):aG 76 [.ag m.c, .ag x.c] (.r (.tu [bs (sgnB m x),Er 0])):=by
 refine aT Tryz.func76 rfl ?_
 refine za rfl rfl ?_
 refine ze (zh6 m hm) ?_
 refine Vstep.sub ((zci (id:=0) (t:=2) m.c rfl rfl).trans (zci (id:=1) (t:=3) x.c rfl rfl)) (Vstep.mkfunS rfl rfl ?_)
 refine ze (zml true _ _ (sgnB m x) λ_=>z2q m hm x hx) ?_
 exact⟨_,rfl,cr⟩
theorem zmi(m:MsgP)(hm:m.sm)(x:CtxP)(hx:x.fit):aG 77 [.ag m.c, .ag x.c] (.r (.tu [bs (tagB m x),Er 0])):=by
 refine aT Tryz.func77 rfl ?_
 refine za rfl rfl ?_
 refine ze (zh6 m hm) ?_
 refine Vstep.sub ((zci (id:=0) (t:=2) m.c rfl rfl).trans (zci (id:=1) (t:=3) x.c rfl rfl)) (Vstep.mkfunS rfl rfl ?_)
 refine ze (zml true _ _ (tagB m x) λ_=>z2r m hm x hx) ?_
 exact⟨_,rfl,cr⟩
theorem zv9(m:MsgP)(hm:m.sm):aG 99 [.ag m.c] (.r (.tu [bs (cfmB m),Er 0])):=by
 refine aT Tryz.func99 rfl ?_
 refine za rfl rfl ?_
 refine ze (zh6 m hm) ?_
 refine Vstep.sub (zci (id:=0) (t:=1) m.c rfl rfl) (Vstep.mkfunS rfl rfl ?_)
 refine ze (zml true _ _ (cfmB m) λ_=>zue m hm) ?_
 exact⟨_,rfl,cr⟩
def Prm(n:Nat):Prop:=1<n/\∀a b:Nat,n∣a*b->n∣a\/n∣b
def pmod(g n:Nat):Nat->Nat->Nat
 |0,_=>1%n
 |f+1,e=>if e=0 then 1%n else
   let h:=pmod g n f (e/2)
   let s:=h*h%n
   if e%2=1 then s*g%n else s
theorem zhu(g n:Nat): ∀f e,e<2^f->pmod g n f e=g^e%n
 |0,e,h=>by
  have:e=0:=by omega
  subst this;simp[pmod]
 |f+1,e,h=>by
  rw[pmod]
  split
  ·next h0=>subst h0;simp
  ·have h2:e/2<2^f:=by rw[Nat.pow_succ]at h;omega
   have hh:=zhu g n f (e/2) h2
   dsimp only
   rw[hh]
   have e1:g^(e/2)%n*(g^(e/2)%n)%n=g^(e/2+e/2)%n:=by rw[<-Nat.mul_mod,Nat.pow_add]
   rw[e1]
   split
   ·next h1=>
    rw[Nat.mod_mul_mod,<-Nat.pow_succ]
    congr 2;omega
   ·next h1=>congr 2;omega
theorem ze4{g n m:Nat}(h:g^m%n=1%n)(k:Nat):g^(m*k)%n=1%n:=by
 rw[Nat.pow_mul,Nat.pow_mod,h]
 rw[<-Nat.pow_mod,Nat.one_pow]
theorem zdbb{g n:Nat}(a b:Nat):g^a%n=1%n->g^b%n=1%n->g^(Nat.gcd a b)%n=1%n:=by
 induction a,b using Nat.gcd.induction with
 |H0 b=>intro _ h;simpa using h
 |H1 a b ha ih=>
  intro h1 h2
  rw[Nat.gcd_rec]
  refine ih ?_ h1
  have e:b=a*(b/a)+b%a:=(Nat.div_add_mod b a).symm
  rw[e,Nat.pow_add,Nat.mul_mod,ze4 h1]at h2
  rw[<-Nat.mul_mod,Nat.one_mul]at h2
  exact h2
def prod:List Nat->Nat
 |[]=>1
 |q::l=>q*prod l
theorem zxo: ∀{l:List Nat},(∀q∈l,Prm q)->0<prod l
 |[],_=>by simp[prod]
 |q::l,h=>by
  have h1:=(h q (by simp)).1
  have h2:=zxo (l:=l) λx hx=>h x (by simp[hx])
  rw[prod]
  exact Nat.mul_pos (by omega) h2
theorem zvc: ∀(l:List Nat),(∀q∈l,Prm q)->∀G,G∣prod l->G≠prod l->∃q∈l,G∣prod l/q
 |[],_,G,h,hn=>by
  simp only[prod]at h hn
  exact absurd (Nat.dvd_one.1 h) hn
 |q::l,h,G,⟨c,hc⟩,hn=>by
  have hq:=h q (by simp)
  have hl: ∀x∈l,Prm x:=λx hx=>h x (by simp[hx])
  have hp:=zxo hl
  have q0:0<q:=by have:=hq.1;omega
  rw[prod]at hc
  rcases hq.2 G c ⟨prod l,hc.symm⟩with⟨G',hG⟩ |⟨c',hc'⟩
  ·subst hG
   have e:prod l=G'*c:=by
    rw[Nat.mul_assoc]at hc
    exact Nat.eq_of_mul_eq_mul_left q0 hc
   have hne:G'≠prod l:=λhx=>hn (by rw[prod,hx])
   obtain⟨r,hr,hd⟩:=zvc l hl G' ⟨c,e⟩ hne
   refine⟨r,by simp[hr],?_⟩
   have hrd:r∣prod l:=mem_dvd l r hr
   rw[prod,Nat.mul_div_assoc _ hrd]
   exact Nat.mul_dvd_mul_left q hd
  ·subst hc'
   refine⟨q,by simp,?_⟩
   rw[prod,Nat.mul_div_cancel_left _ q0]
   refine⟨c',?_⟩
   refine Nat.eq_of_mul_eq_mul_left q0 ?_
   rw[hc,<-Nat.mul_assoc,Nat.mul_comm G q,Nat.mul_assoc]
where
 mem_dvd: ∀(l:List Nat) (r:Nat),r∈l->r∣prod l
  |q::l,r,h=>by
   rw[prod]
   rcases List.mem_cons.1 h with rfl |h
   ·exact Nat.dvd_mul_right _ _
   ·exact Nat.dvd_trans (mem_dvd l r h) (Nat.dvd_mul_left _ _)
theorem zxj: ∀(N:Nat) (f:Nat->Nat),(∀k,k<N->f k<N)->(∀i j,i<N->j<N->f i=f j->i=j)->∀v,v<N->∃k,k<N/\f k=v
 |0,_,_,_,v,hv=>absurd hv (by omega)
 |N+1,f,hf,hi,v,hv=>by
  by_cases hN:f N=v
  ·exact⟨N,by omega,hN⟩
  ·let g:Nat->Nat:=λk=>if f k=N then f N else f k
   have hg: ∀k,k<N->g k<N:=by
    intro k hk
    show(if f k=N then f N else f k)<N
    have a:=hf k (by omega)
    have b:=hf N (by omega)
    split
    ·next e=>
     have:f N≠N:=λx=>by have:=hi k N (by omega) (by omega) (by omega);omega
     omega
    ·omega
   have hgi: ∀i j,i<N->j<N->g i=g j->i=j:=by
    intro i j h1 h2 h
    have h:(if f i=N then f N else f i)=(if f j=N then f N else f j):=h
    split at h<;>split at h
    ·next a b=>exact hi i j (by omega) (by omega) (by omega)
    ·have:=hi N j (by omega) (by omega) h;omega
    ·have:=hi i N (by omega) (by omega) h;omega
    ·exact hi i j (by omega) (by omega) h
   by_cases hv2:v=N
   ·have hfN:f N<N:=by have:=hf N (by omega);omega
    obtain⟨k,hk,e⟩:=zxj N g hg hgi (f N) hfN
    have e:(if f k=N then f N else f k)=f N:=e
    split at e
    ·next x=>exact⟨k,by omega,by omega⟩
    ·have:=hi k N (by omega) (by omega) e;omega
   ·obtain⟨k,hk,e⟩:=zxj N g hg hgi v (by omega)
    have e:(if f k=N then f N else f k)=v:=e
    split at e
    ·exact absurd e hN
    ·exact⟨k,by omega,e⟩
theorem zvp(n g:Nat)(l:List Nat)(hn:1<n)(hl: ∀q∈l,Prm q)(hp:prod l=n-1)(h1:g^(n-1)%n=1)(h2: ∀q∈l,g^((n-1)/q)%n≠1): ∀x,x%n≠0->∃k,g^k%n=x%n:=by
 have one:1%n=1:=Nat.mod_eq_of_lt hn
 have ord: ∀m,0<m->m<n-1->g^m%n≠1:=by
  intro m m0 m1 hm
  have hg:=zdbb (g:=g) (n:=n) m (n-1) (by rw[hm,one]) (by rw[h1,one])
  have hd:Nat.gcd m (n-1)∣prod l:=hp▸Nat.gcd_dvd_right _ _
  have hne:Nat.gcd m (n-1)≠prod l:=by
   have:=Nat.le_of_dvd m0 (Nat.gcd_dvd_left m (n-1))
   omega
  obtain⟨q,hq,c,hc⟩:=zvc l hl _ hd hne
  refine h2 q hq ?_
  rw[<-hp,hc,ze4 hg,one]
 have nz: ∀k,g^k%n≠0:=by
  intro k hk
  have:g^(k*(n-1))%n=0:=by
   rw[Nat.pow_mul,Nat.pow_mod,hk,Nat.zero_pow (by omega)]
   exact Nat.zero_mod n
  rw[Nat.mul_comm,ze4 (by rw[h1,one]),one]at this
  omega
 have inj: ∀i j,i<j->j<n-1->g^i%n≠g^j%n:=by
  intro i j hij hj e
  have e1:(g^i%n*(g^(n-1-i)%n))%n=1:=by
   rw[<-Nat.mul_mod,<-Nat.pow_add,show i+(n-1-i)=n-1 by omega,h1]
  rw[e,<-Nat.mul_mod,<-Nat.pow_add,show j+(n-1-i)=(n-1)+(j-i)by omega,Nat.pow_add,Nat.mul_mod,h1,Nat.one_mul,Nat.mod_mod]at e1
  exact ord (j-i) (by omega) (by omega) e1
 intro x hx
 obtain⟨k, -,hk⟩:=zxj (n-1) (λk=>g^k%n-1)
  (λk _=>by have:=Nat.mod_lt (g^k) (show 0<n by omega);have:=nz k;show g^k%n-1<n-1;omega)
  (λi j hi hj h=>by
   have a:=nz i;have b:=nz j
   have h:g^i%n-1=g^j%n-1:=h
   rcases Nat.lt_trichotomy i j with c |c |c
   ·exact absurd (show g^i%n=g^j%n by omega) (inj i j c hj)
   ·exact c
   ·exact absurd (show g^j%n=g^i%n by omega) (inj j i c hi))
  (x%n-1) (by have:=Nat.mod_lt x (show 0<n by omega);omega)
 have:=nz k
 exact⟨k,by have hk:g^k%n-1=x%n-1:=hk;omega⟩
theorem zijb(n g:Nat)(l:List Nat)(hn:1<n)(hl: ∀q∈l,Prm q)(hp:prod l=n-1)(h1:g^(n-1)%n=1)(h2: ∀q∈l,g^((n-1)/q)%n≠1):Prm n:=by
 refine⟨hn,λa b h=>?_⟩
 by_cases ha:a%n=0
 ·exact .inl (Nat.dvd_of_mod_eq_zero ha)
 by_cases hb:b%n=0
 ·exact .inr (Nat.dvd_of_mod_eq_zero hb)
 exfalso
 obtain⟨i,hi⟩:=zvp n g l hn hl hp h1 h2 a ha
 obtain⟨j,hj⟩:=zvp n g l hn hl hp h1 h2 b hb
 have e:=Nat.mod_eq_zero_of_dvd h
 rw[Nat.mul_mod,<-hi,<-hj,<-Nat.mul_mod,<-Nat.pow_add]at e
 have e2:g^((i+j)*(n-1))%n=0:=by
  rw[Nat.pow_mul,Nat.pow_mod,e,Nat.zero_pow (by omega)]
  exact Nat.zero_mod n
 rw[Nat.mul_comm,ze4 (by rw[h1,Nat.mod_eq_of_lt hn]),Nat.mod_eq_of_lt hn]at e2
 omega
def chk(n g f:Nat)(l:List Nat):Bool:=Nat.ble 2 n&&Nat.beq (prod l) (n-1)&&Nat.beq (pmod g n f (n-1)) 1&&l.all λq=> !(Nat.beq (pmod g n f ((n-1)/q)) 1)
theorem zap{n:Nat}(g f:Nat)(l:List Nat)(hf:n<2^f)(hl: ∀q∈l,Prm q)(h:chk n g f l=true):Prm n:=by
 simp only[chk,Bool.and_eq_true,Nat.ble_eq,List.all_eq_true,Bool.not_eq_true']at h
 obtain⟨⟨⟨a,b⟩,c⟩,d⟩:=h
 have b:=Nat.eq_of_beq_eq_true b
 have c:=Nat.eq_of_beq_eq_true c
 rw[zhu g n f _ (by omega)]at c
 refine zijb n g l (by omega) hl b c λq hq e=>?_
 have d:=d q hq
 rw[zhu g n f _ (by have:=Nat.div_le_self (n-1) q;omega),e]at d
 exact absurd d (by decide)
theorem all_nil: ∀q∈([]:List Nat),Prm q:=λq h=>absurd h (by simp)
theorem all_cons{a:Nat}{l:List Nat}(h:Prm a)(hl: ∀q∈l,Prm q): ∀q∈a::l,Prm q:=λq hq=>by
 rcases List.mem_cons.1 hq with rfl |hq
 ·exact h
 ·exact hl q hq
theorem prm2:Prm 2:=⟨by decide,λa b h=>by
 rcases Nat.mod_two_eq_zero_or_one a with ha |ha
 ·exact .inl (Nat.dvd_of_mod_eq_zero ha)
 rcases Nat.mod_two_eq_zero_or_one b with hb |hb
 ·exact .inr (Nat.dvd_of_mod_eq_zero hb)
 have:=Nat.mod_eq_zero_of_dvd h
 rw[Nat.mul_mod,ha,hb]at this
 omega⟩
theorem za8:Prm 3:=zap 2 2 [2] (by decide+kernel) (all_cons prm2 (all_nil)) (by decide+kernel)
theorem z31:Prm 17:=zap 3 5 [2,2,2,2] (by decide+kernel) (all_cons prm2 (all_cons prm2 (all_cons prm2 (all_cons prm2 (all_nil))))) (by decide+kernel)
theorem zgq:Prm 7:=zap 3 3 [2,3] (by decide+kernel) (all_cons prm2 (all_cons za8 (all_nil))) (by decide+kernel)
theorem zkqb:Prm 239:=zap 7 8 [2,7,17] (by decide+kernel) (all_cons prm2 (all_cons zgq (all_cons z31 (all_nil)))) (by decide+kernel)
theorem zkrb:Prm 479:=zap 13 9 [2,239] (by decide+kernel) (all_cons prm2 (all_cons zkqb (all_nil))) (by decide+kernel)
theorem zksb:Prm 32573:=zap 2 15 [2,2,17,479] (by decide+kernel) (all_cons prm2 (all_cons prm2 (all_cons z31 (all_cons zkrb (all_nil))))) (by decide+kernel)
theorem zktb:Prm 65147:=zap 2 16 [2,32573] (by decide+kernel) (all_cons prm2 (all_cons zksb (all_nil))) (by decide+kernel)
theorem ze5:Prm 5:=zap 2 3 [2,2] (by decide+kernel) (all_cons prm2 (all_cons prm2 (all_nil))) (by decide+kernel)
theorem zqz:Prm 11:=zap 2 4 [2,5] (by decide+kernel) (all_cons prm2 (all_cons ze5 (all_nil))) (by decide+kernel)
theorem zikb:Prm 353:=zap 3 9 [2,2,2,2,2,11] (by decide+kernel) (all_cons prm2 (all_cons prm2 (all_cons prm2 (all_cons prm2 (all_cons prm2 (all_cons zqz (all_nil))))))) (by decide+kernel)
theorem z7t:Prm 29:=zap 2 5 [2,2,7] (by decide+kernel) (all_cons prm2 (all_cons prm2 (all_cons zgq (all_nil)))) (by decide+kernel)
theorem zilb:Prm 59:=zap 2 6 [2,29] (by decide+kernel) (all_cons prm2 (all_cons z7t (all_nil))) (by decide+kernel)
theorem zimb:Prm 487:=zap 3 9 [2,3,3,3,3,3] (by decide+kernel) (all_cons prm2 (all_cons za8 (all_cons za8 (all_cons za8 (all_cons za8 (all_cons za8 (all_nil))))))) (by decide+kernel)
theorem zinb:Prm 57467:=zap 2 16 [2,59,487] (by decide+kernel) (all_cons prm2 (all_cons zilb (all_cons zimb (all_nil)))) (by decide+kernel)
theorem zxl:Prm 13:=zap 2 4 [2,2,3] (by decide+kernel) (all_cons prm2 (all_cons prm2 (all_cons za8 (all_nil)))) (by decide+kernel)
theorem ziob:Prm 131:=zap 2 8 [2,5,13] (by decide+kernel) (all_cons prm2 (all_cons ze5 (all_cons zxl (all_nil)))) (by decide+kernel)
theorem zipb:Prm 132049:=zap 26 18 [2,2,2,2,3,3,7,131] (by decide+kernel) (all_cons prm2 (all_cons prm2 (all_cons prm2 (all_cons prm2 (all_cons za8 (all_cons za8 (all_cons zgq (all_cons ziob (all_nil))))))))) (by decide+kernel)
theorem z7u:Prm 43:=zap 3 6 [2,3,7] (by decide+kernel) (all_cons prm2 (all_cons za8 (all_cons zgq (all_nil)))) (by decide+kernel)
theorem z7v:Prm 23:=zap 5 5 [2,11] (by decide+kernel) (all_cons prm2 (all_cons zqz (all_nil))) (by decide+kernel)
theorem ziqb:Prm 3727:=zap 3 12 [2,3,3,3,3,23] (by decide+kernel) (all_cons prm2 (all_cons za8 (all_cons za8 (all_cons za8 (all_cons za8 (all_cons z7v (all_nil))))))) (by decide+kernel)
theorem zirb:Prm 1923133:=zap 2 21 [2,2,3,43,3727] (by decide+kernel) (all_cons prm2 (all_cons prm2 (all_cons za8 (all_cons z7u (all_cons ziqb (all_nil)))))) (by decide+kernel)
theorem zisb:Prm 31:=zap 3 5 [2,3,5] (by decide+kernel) (all_cons prm2 (all_cons za8 (all_cons ze5 (all_nil)))) (by decide+kernel)
theorem zitb:Prm 53:=zap 2 6 [2,2,13] (by decide+kernel) (all_cons prm2 (all_cons prm2 (all_cons zxl (all_nil)))) (by decide+kernel)
theorem ziub:Prm 107:=zap 2 7 [2,53] (by decide+kernel) (all_cons prm2 (all_cons zitb (all_nil))) (by decide+kernel)
theorem zivb:Prm 37:=zap 2 6 [2,2,3,3] (by decide+kernel) (all_cons prm2 (all_cons prm2 (all_cons za8 (all_cons za8 (all_nil))))) (by decide+kernel)
theorem ziwb:Prm 223:=zap 3 8 [2,3,37] (by decide+kernel) (all_cons prm2 (all_cons za8 (all_cons zivb (all_nil)))) (by decide+kernel)
theorem zixb:Prm 173:=zap 2 8 [2,2,43] (by decide+kernel) (all_cons prm2 (all_cons prm2 (all_cons z7u (all_nil)))) (by decide+kernel)
theorem ziyb:Prm 4153:=zap 5 13 [2,2,2,3,173] (by decide+kernel) (all_cons prm2 (all_cons prm2 (all_cons prm2 (all_cons za8 (all_cons zixb (all_nil)))))) (by decide+kernel)
theorem z7w:Prm 41:=zap 6 6 [2,2,2,5] (by decide+kernel) (all_cons prm2 (all_cons prm2 (all_cons prm2 (all_cons ze5 (all_nil))))) (by decide+kernel)
theorem zizb:Prm 1723:=zap 3 11 [2,3,7,41] (by decide+kernel) (all_cons prm2 (all_cons za8 (all_cons zgq (all_cons z7w (all_nil))))) (by decide+kernel)
theorem zi0b:Prm 430751:=zap 17 19 [2,5,5,5,1723] (by decide+kernel) (all_cons prm2 (all_cons ze5 (all_cons ze5 (all_cons ze5 (all_cons zizb (all_nil)))))) (by decide+kernel)
theorem zi1b:Prm 31757755568855353:=zap 10 55 [2,2,2,3,31,107,223,4153,430751] (by decide+kernel) (all_cons prm2 (all_cons prm2 (all_cons prm2 (all_cons za8 (all_cons zisb (all_cons ziub (all_cons ziwb (all_cons ziyb (all_cons zi0b (all_nil)))))))))) (by decide+kernel)
theorem zxm:Prm 19:=zap 2 5 [2,3,3] (by decide+kernel) (all_cons prm2 (all_cons za8 (all_cons za8 (all_nil)))) (by decide+kernel)
theorem zi2b:Prm 83:=zap 2 7 [2,41] (by decide+kernel) (all_cons prm2 (all_cons z7w (all_nil))) (by decide+kernel)
theorem zi3b:Prm 9463:=zap 3 14 [2,3,19,83] (by decide+kernel) (all_cons prm2 (all_cons za8 (all_cons zxm (all_cons zi2b (all_nil))))) (by decide+kernel)
theorem zi4b:Prm 37853:=zap 2 16 [2,2,9463] (by decide+kernel) (all_cons prm2 (all_cons prm2 (all_cons zi3b (all_nil)))) (by decide+kernel)
theorem zi5b:Prm 75707:=zap 2 17 [2,37853] (by decide+kernel) (all_cons prm2 (all_cons zi4b (all_nil))) (by decide+kernel)
theorem zi6b:Prm 2437:=zap 2 12 [2,2,3,7,29] (by decide+kernel) (all_cons prm2 (all_cons prm2 (all_cons za8 (all_cons zgq (all_cons z7t (all_nil)))))) (by decide+kernel)
theorem zi7b:Prm 97:=zap 5 7 [2,2,2,2,2,3] (by decide+kernel) (all_cons prm2 (all_cons prm2 (all_cons prm2 (all_cons prm2 (all_cons prm2 (all_cons za8 (all_nil))))))) (by decide+kernel)
theorem zi8b:Prm 419:=zap 2 9 [2,11,19] (by decide+kernel) (all_cons prm2 (all_cons zqz (all_cons zxm (all_nil)))) (by decide+kernel)
theorem zi9b:Prm 569003:=zap 2 20 [2,7,97,419] (by decide+kernel) (all_cons prm2 (all_cons zgq (all_cons zi7b (all_cons zi8b (all_nil))))) (by decide+kernel)
theorem zjab:Prm 2773320623:=zap 5 32 [2,2437,569003] (by decide+kernel) (all_cons prm2 (all_cons zi6b (all_cons zi9b (all_nil)))) (by decide+kernel)
theorem zjbb:Prm 72106336199:=zap 7 37 [2,13,2773320623] (by decide+kernel) (all_cons prm2 (all_cons zxl (all_cons zjab (all_nil)))) (by decide+kernel)
theorem z7x:Prm 47:=zap 5 6 [2,23] (by decide+kernel) (all_cons prm2 (all_cons z7v (all_nil))) (by decide+kernel)
theorem zjcb:Prm 127:=zap 3 7 [2,3,3,7] (by decide+kernel) (all_cons prm2 (all_cons za8 (all_cons za8 (all_cons zgq (all_nil))))) (by decide+kernel)
theorem zjdb:Prm 103:=zap 5 7 [2,3,17] (by decide+kernel) (all_cons prm2 (all_cons za8 (all_cons z31 (all_nil)))) (by decide+kernel)
theorem zjeb:Prm 991:=zap 6 10 [2,3,3,5,11] (by decide+kernel) (all_cons prm2 (all_cons za8 (all_cons za8 (all_cons ze5 (all_cons zqz (all_nil)))))) (by decide+kernel)
theorem zjfb:Prm 8574133:=zap 2 24 [2,2,3,7,103,991] (by decide+kernel) (all_cons prm2 (all_cons prm2 (all_cons za8 (all_cons zgq (all_cons zjdb (all_cons zjeb (all_nil))))))) (by decide+kernel)
theorem zjgb:Prm 1919519569386763:=zap 2 51 [2,3,7,19,47,47,127,8574133] (by decide+kernel) (all_cons prm2 (all_cons za8 (all_cons zgq (all_cons zxm (all_cons z7x (all_cons z7x (all_cons zjcb (all_cons zjfb (all_nil))))))))) (by decide+kernel)
theorem zjhb:Prm 75445702479781427272750846543864801:=zap 7 116 [2,2,2,2,2,3,3,5,5,75707,72106336199,1919519569386763] (by decide+kernel) (all_cons prm2 (all_cons prm2 (all_cons prm2 (all_cons prm2 (all_cons prm2 (all_cons za8 (all_cons za8 (all_cons ze5 (all_cons ze5 (all_cons zi5b (all_cons zjbb (all_cons zjgb (all_nil))))))))))))) (by decide+kernel)
theorem zjib:Prm 74058212732561358302231226437062788676166966415465897661863160754340907:=zap 2 236 [2,3,353,57467,132049,1923133,31757755568855353,75445702479781427272750846543864801] (by decide+kernel) (all_cons prm2 (all_cons za8 (all_cons zikb (all_cons zinb (all_cons zipb (all_cons zirb (all_cons zi1b (all_cons zjhb (all_nil))))))))) (by decide+kernel)
end Go.Proofs.YtkegaaonpekkgaaGreat.Sx
