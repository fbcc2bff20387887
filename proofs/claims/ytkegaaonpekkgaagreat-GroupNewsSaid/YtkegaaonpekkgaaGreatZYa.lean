import Derived.Test.YtkegaaonpekkgaaGreatZIy
import Derived.Test.YtkegaaonpekkgaaGreatZGq
import Derived.Test.YtkegaaonpekkgaaGreatZTl
import Derived.Test.YtkegaaonpekkgaaGreatZJo
import Derived.Test.YtkegaaonpekkgaaGreatZSxA
namespace Go.Proofs.YtkegaaonpekkgaaGreat.Sx
open Go.RowKit
theorem zgnb(lf:Leaf)(seed sig group:List UInt8)(hlr:lf.right=true)(hseed:seed.length=32)(hsig:sig.length=32)(hg:group.length<=1000):
  ∃(ol:Leaf) (com pl:List UInt8),ol.right=true/\ol.src=3/\ol.parent.length=0/\ol.sign=lf.sign/\com.length=32/\pl.length=32/\
   aG 183 [.ag (zcl lf).c,bs seed,bs sig,bs group] (.r (.tu [.ag (MadeP.c ⟨zcl ol,ol,[],[⟨0,pl⟩],[],com⟩),Er 0])):=by
 have hlf:=zcn hlr
 obtain⟨h1,h2,h3,h5,h6⟩:=zhv hlr
 have h30:0<lf.ident.length:=by
  have h:=hlr
  simp only[Leaf.right,decide_eq_true_eq]at h
  omega
 have hf:(L1 lf).fit:=zdx hlf
 have hr:(L1 lf).right=true:=zis hlr
 have c1:=z8o seed 0 (by rw[hseed];decide) ⟨by omega,by omega⟩
 have c5:=zc2 seed ⟨#[108,101,97,102]⟩ (by rw[hseed];decide) (by decide)
 have el:(labB seed (sB ⟨#[108,101,97,102]⟩) [] 32).length=32:=zbb _ _ _ (by omega)
 generalize labB seed (sB ⟨#[108,101,97,102]⟩) [] 32=ls at c5 el
 have c6:=zs6 ls (by omega)
 have eq:(zhp (zh9 ls)).length=32:=zlk _
 generalize zhp (zh9 ls)=ql at c6 eq
 have ep:=zj1 ls
 generalize zh9 ls=pl at c6 ep
 have e1: ∀sd:List UInt8,zcv sd ((0:Int).toNat+1)=[secN sd 0]:=λ_=>rfl
 rw[e1]at c1
 have ec:(secN seed 0).length=32:=by exact zzr _ 0
 generalize secN seed 0=com at c1 ec
 have hml:(zd2 lf ql []).fit:=⟨by show ql.length<=_;omega,by show lf.sign.length<=_;omega,by show lf.ident.length<=_;omega,by show 0<=_;omega,by show lf.sig.length<=_;omega⟩
 have hz:zS64.length=64:=by decide
 have c7:=zrs (zd2 lf ql []) sig group 0 hml (by omega) (by show ql.length+lf.sign.length+lf.ident.length+0<=_;omega) (by unfold i64;omega)
 have hwr:((zd2 lf ql []).with zS64).right=true:=by
  unfold Leaf.right
  refine decide_eq_true ⟨eq,h2,?_,?_,by show 0< (3:UInt8).toNat;decide,by show(3:UInt8).toNat<4;decide, .inl rfl,hz⟩
  ·show 0<lf.ident.length;omega
  ·show lf.ident.length<=64;omega
 have he:zep (zd2 lf ql []) sig 0=0:=by
  unfold zep
  rw[if_pos hwr,if_pos (by unfold zfn;simp),if_pos hsig]
 have hsr:zid (zd2 lf ql []) sig group 0= .tu [.ag (slOk (zd2 lf ql []) sig group 0).c,Er 0]:=by unfold zid;rw[if_pos he]
 rw[hsr]at c7
 have hol:(slOk (zd2 lf ql []) sig group 0).fit:=⟨by show ql.length<=_;omega,by show lf.sign.length<=_;omega,by show lf.ident.length<=_;omega,by show 0<=_;omega,by show(zh8 _ _ _).length<=_;rw[zex];omega⟩
 have hor:(slOk (zd2 lf ql []) sig group 0).right=true:=by
  unfold Leaf.right
  refine decide_eq_true ⟨eq,h2,?_,?_,by show 0< (3:UInt8).toNat;decide,by show(3:UInt8).toNat<4;decide, .inl rfl,zex _ _ _⟩
  ·show 0<lf.ident.length;omega
  ·show lf.ident.length<=64;omega
 have hos:(slOk (zd2 lf ql []) sig group 0).src=3/\(slOk (zd2 lf ql []) sig group 0).parent.length=0/\(slOk (zd2 lf ql []) sig group 0).sign=lf.sign:=⟨rfl,rfl,rfl⟩
 generalize slOk (zd2 lf ql []) sig group 0=ol at c7 hol hor hos
 refine⟨ol,com,pl,hor,hos.1,hos.2.1,hos.2.2,ec,ep,?_⟩
 exact zndb lf ol seed sig group com ls pl ql hlf hlr hol hseed hsig c1 c5 c6 c7
theorem zgyb(ol:Leaf)(ky:List KeyP)(com seed ctx:List UInt8)(hor:ol.right=true):
  aG 185 [.ag (MadeP.c ⟨zcl ol,ol,[],ky,[],com⟩),nl,bs seed,bs ctx] (.r (.tu [.ag (wayR ol),Er 0])):=by
 have hof:=zcn hor
 have c1:=zui ol hof hor
 have c2:=zxc (zcl ol) rfl rfl
 have c3:=ze3 ⟨0,ol,zpr⟩ ⟨hof,zpd⟩ (zb1 _ hof)
 refine aT Tryz.func185 rfl ?_
 refine za rfl rfl ?_
 refine ze c1 ?_
 refine zu rfl (zq ?_)
 refine za rfl rfl ?_
 refine ze c2 ?_
 refine zu rfl ?_
 refine zu rfl ?_
 refine zq ?_
 refine za rfl rfl ?_
 refine Vcall.mk' c3 (zk (Cv.ag (by repeat' (first|exact Cvs.nil|exact zn _|refine zk ?_ ?_|exact cr|exact Cv.nil _|exact zd8 _|refine Cv.ag ?_))) Cvs.nil) ?_
 refine Vsem.fieldN Tab_ok rfl rfl rfl rfl rfl rfl rfl (Nat.le_of_ble_eq_true rfl) rfl ?_
 refine Vloop.rounds 1 (Vrounds.step mixed Tab_ok ?_)
 refine zu rfl (zq ?_)
 refine za rfl rfl ?_
 refine za rfl rfl ?_
 exact⟨_,rfl,cr⟩
def comB(l:Leaf):List UInt8:=vecB []++[1]++zdl l++vecB []
def frmB(m:MsgP):List UInt8:=vecB m.group++beB 8 m.epoch++[1]++beB 4 m.frm++[3]++comB m.lf
def zb3(m:MsgP):List UInt8:=beB 2 1++beB 2 1++frmB m
def zmj(b:List UInt8)(m:MsgP):List UInt8:=b++vecB m.sig++vecB m.tag
def msgB(m:MsgP):List UInt8:=zmj (zb3 m) m++vecB m.mem
def sgnB(m:MsgP)(x:CtxP):List UInt8:=zb3 m++ctxB x
def tagB(m:MsgP)(x:CtxP):List UInt8:=zmj (zb3 m++ctxB x) m
def cfmB(m:MsgP):List UInt8:=beB 2 1++frmB m++vecB m.sig
theorem z1l(l:Leaf)(hr:l.right=true):(comB l).length<=260:=by
 have h1:=zi9 l
 have h2:=zag []
 obtain⟨k1,k2,k3,k4,k5⟩:=zhv hr
 simp only[comB,aL,List.length_cons,List.length_nil]at*
 omega
theorem zop(m:MsgP)(hm:m.sm):(frmB m).length<=450:=by
 have h1:=zag m.group
 have h2:=hm.group
 have h3:=z1l m.lf hm.lf
 simp only[frmB,aL,zak,List.length_cons,List.length_nil]
 omega
theorem zi3(m:MsgP)(hm:m.sm):(zb3 m).length<=550:=by
 have h1:=zop m hm
 simp only[zb3,aL,zak]
 omega
theorem zqu(b:List UInt8)(m:MsgP)(hm:m.sm):(zmj b m).length<=b.length+200:=by
 have h1:=zag m.sig
 have h2:=zag m.tag
 have h3:=hm.sig
 have h4:=hm.tag
 simp only[zmj,aL]
 omega
def cb1:List UInt8:=vecB []++[1]
def cb2(l:Leaf):List UInt8:=cb1++zdl l
set_option maxRecDepth 20000 in
theorem z8w(l:Leaf)(hr:l.right=true):aG 257 [.ag (comR l)] (.r (bs (comB l))):=by
 refine aT Tryz.func257 rfl ?_
 have hf:=zcn hr
 have c1:=znh l hf hr
 refine Vloop.rounds 1 (Vrounds.step mixed Tab_ok ?_)
 refine zu rfl (zq ?_)
 refine Vcall.mk' (zev [] [] (by simp) (by simp)) (zk (Cv.nil 1) (zk (Cv.nil 1) Cvs.nil)) ?_
 rw[List.nil_append]
 refine zu rfl (zq ?_)
 refine Vloop.rounds 1 (Vrounds.step mixed Tab_ok ?_)
 refine zu rfl (zq ?_)
 have hl:=zi9 l
 obtain⟨k1,k2,k3,k4,k5⟩:=zhv hr
 have hv:=zag []
 simp only[List.length_nil]at hv
 have l1:cb1.length<=10:=by simp only[cb1,aL,List.length_cons,List.length_nil];omega
 have l2:(cb2 l).length<=300:=by rw[cb2,aL];omega
 have l3:(cb2 l).length=cb1.length+(zdl l).length:=by rw[cb2,aL]
 refine Vdraw.code (Vcode.float mixed Tab_ok 9 [⟨1,77, .r (.sl 1 1 [U8 1]),[]⟩,⟨3,79, .adr 0 2,[]⟩,⟨4,80, .adr 0 2,[3]⟩,⟨5,81, .r (.ag l.c),[4]⟩,⟨8,84, .r nl,[]⟩] [(0,[]),(2,[1]),(6,[5]),(7,[])] (by kernel_rfl) (F:=[(4, .r nl),(7, .own 1),(1, .own 0)]) (O:=[(1,some (.ch 5 1 (vecB []).length ((vecB []).map U8) true)),(0,some (.box ((comR l).map .r)))]) (nx:=2) (zac [(0,0),(1,1)] rfl (by repeat' (first|exact rfl|exact trivial|exact cr|exact Cv.nil _|exact⟨rfl,rfl⟩|refine⟨_,_,rfl,?_,?_⟩|refine⟨?_,?_⟩)) (by repeat' (first|exact rfl|exact trivial|exact cr|exact Cv.nil _|exact⟨rfl,rfl⟩|refine⟨_,_,rfl,?_,?_⟩|refine⟨?_,?_⟩))) ?_)
 refine⟨rfl,⟨λY=>Or.inr (Yld.read (d:=77) (e:=5) (sz:=1) (n:=1) (cells:=[U8 1]) Tab_ok (zw rfl)),λY=>zo _,λY=>zo _,λY=>za rfl rfl (zo _),λY=>zo _,trivial⟩,(76, .own 1)::[(4, .r nl),(7, .own 1),(1, .own 0)],[(1,some (.ch 5 1 (vecB []).length ((vecB []).map U8) true)),(0,some (.box ((comR l).map .r)))],2,λY=>zo _,?_⟩
 refine⟨rfl,⟨λY=>Or.inr (Yld.read (d:=77) (e:=5) (sz:=1) (n:=1) (cells:=[U8 1]) Tab_ok (zw rfl)),λY=>zo _,λY=>zo _,λY=>za rfl rfl (zo _),λY=>zo _,trivial⟩,(78, .own 2)::(76, .own 1)::[(4, .r nl),(7, .own 1),(1, .own 0)],(2,some (.ch 5 1 cb1.length (cb1.map U8) true))::(1,none)::[(1,some (.ch 5 1 (vecB []).length ((vecB []).map U8) true)),(0,some (.box ((comR l).map .r)))],3,λY=>by
  refine Vapp.mk' (j:=cb1.length) (zs:=cb1.map U8) (by simp only[maxLen];omega) (by decide+kernel) (by simp only[cb1,aL];rfl) (by simp only[cb1,List.map_append];rfl) ?_
  exact zo _,?_⟩
 refine⟨rfl,⟨λY=>Or.inr (Yld.read (d:=77) (e:=5) (sz:=1) (n:=1) (cells:=[U8 1]) Tab_ok (zw rfl)),λY=>zo _,λY=>zo _,λY=>za rfl rfl (zo _),λY=>zo _,trivial⟩,(82, .r (bs (zdl l)))::(78, .own 2)::(76, .own 1)::[(4, .r nl),(7, .own 1),(1, .own 0)],(2,some (.ch 5 1 cb1.length (cb1.map U8) true))::(1,none)::[(1,some (.ch 5 1 (vecB []).length ((vecB []).map U8) true)),(0,some (.box ((comR l).map .r)))],3,λY=>ze c1 (zo _),?_⟩
 refine⟨rfl,⟨λY=>Or.inr (Yld.read (d:=77) (e:=5) (sz:=1) (n:=1) (cells:=[U8 1]) Tab_ok (zw rfl)),λY=>zo _,λY=>zo _,λY=>za rfl rfl (zo _),λY=>zo _,trivial⟩,(83, .own 3)::(82, .r (bs (zdl l)))::(78, .own 2)::(76, .own 1)::[(4, .r nl),(7, .own 1),(1, .own 0)],(3,some (.ch 5 1 (cb2 l).length ((cb2 l).map U8) true))::(2,none)::(2,some (.ch 5 1 cb1.length (cb1.map U8) true))::(1,none)::[(1,some (.ch 5 1 (vecB []).length ((vecB []).map U8) true)),(0,some (.box ((comR l).map .r)))],4,λY=>by
  refine Vapp.mk' (j:=(cb2 l).length) (zs:=(cb2 l).map U8) (by simp only[maxLen];omega) (by show(cb1.length+(zdl l).length)*1<=_;omega) (by simp only[cb2,aL]) (by simp only[cb2,List.map_append]) ?_
  exact zo _,?_⟩
 refine⟨rfl,⟨λY=>Or.inr (Yld.read (d:=77) (e:=5) (sz:=1) (n:=1) (cells:=[U8 1]) Tab_ok (zw rfl)),λY=>zo _,λY=>zo _,λY=>za rfl rfl (zo _),λY=>zo _,trivial⟩,?_⟩
 refine Vcall.mk' (zev (cb2 l) [] (by omega) (by simp)) (zk (cr) (zk (Cv.nil 1) Cvs.nil)) ?_
 exact cr
def fb1(m:MsgP):List UInt8:=vecB m.group++beB 8 m.epoch++[1]
def fb2(m:MsgP):List UInt8:=fb1 m++beB 4 m.frm
def fb3(m:MsgP):List UInt8:=fb2 m++[3]
set_option maxRecDepth 20000 in
theorem zuc(m:MsgP)(hm:m.sm):aG 173 [.ag m.c] (.r (bs (frmB m))):=by
 refine aT Tryz.func173 rfl ?_
 obtain⟨h1,h2,h3,h4,h5,h6,h7,h8,h9⟩:=hm
 have v1:=zag m.group
 have v2:=z1l m.lf h7
 have l1:(fb1 m).length<=100:=by simp only[fb1,aL,zak,List.length_cons,List.length_nil];omega
 have l2:(fb2 m).length<=110:=by simp only[fb2,aL,zak];omega
 have l3:(fb3 m).length=(fb2 m).length+1:=by rw[fb3,aL];rfl
 have hf:frmB m=fb3 m++comB m.lf:=rfl
 have l4:(frmB m).length=(fb3 m).length+(comB m.lf).length:=by rw[hf,aL]
 have l0:(vecB m.group++beB 8 m.epoch).length<=90:=by simp only[aL,zak];omega
 have c1:=zev [] m.group (by simp) (by omega)
 rw[List.nil_append]at c1
 have c2:=zfi (vecB m.group) 8 m.epoch (by omega) (.inr (.inr (.inr rfl)))
 have c3:=zfi (fb1 m) 4 m.frm (by omega) (.inr (.inr (.inl rfl)))
 refine Vdraw.code (Vcode.float mixed Tab_ok 12 [⟨0,4, .adr 0 0,[]⟩,⟨1,5, .r (bs m.group),[0]⟩,⟨3,7, .adr 0 1,[]⟩,⟨4,8, .r (.i .u64 m.epoch),[3]⟩,⟨6,10, .r (.sl 1 1 [U8 1]),[]⟩,⟨8,12, .adr 0 2,[]⟩,⟨9,13, .r (I m.frm),[8]⟩,⟨10,14, .r (.i .u64 m.frm),[9]⟩] [(2,[1]),(5,[4]),(7,[6]),(11,[10])] (by kernel_rfl) (F:=[(1, .own 0)]) (O:=[(0,some (.box (m.c.map .r)))]) (nx:=1) (zac [(0,0)] rfl (by repeat' (first|exact rfl|exact trivial|exact cr|exact Cv.nil _|exact⟨rfl,rfl⟩|refine⟨_,_,rfl,?_,?_⟩|refine⟨?_,?_⟩)) (by repeat' (first|exact rfl|exact trivial|exact cr|exact Cv.nil _|exact⟨rfl,rfl⟩|refine⟨_,_,rfl,?_,?_⟩|refine⟨?_,?_⟩))) ?_)
 refine⟨rfl,⟨λY=>zo _,λY=>zo _,λY=>zo _,λY=>zo _,λY=>Or.inr (Yld.read (d:=10) (e:=5) (sz:=1) (n:=1) (cells:=[U8 1]) Tab_ok (zw rfl)),λY=>zo _,λY=>zo _,λY=>Vint.u64 m.frm rfl (by omega) (zo _),trivial⟩,(6, .own 1)::[(1, .own 0)],(1,some (.ch 5 1 (vecB m.group).length ((vecB m.group).map U8) true))::[(0,some (.box (m.c.map .r)))],2,λY=>Vcall.mk' c1 (zk (Cv.nil 1) (zn _)) (zo _),?_⟩
 refine⟨rfl,⟨λY=>zo _,λY=>zo _,λY=>zo _,λY=>zo _,λY=>Or.inr (Yld.read (d:=10) (e:=5) (sz:=1) (n:=1) (cells:=[U8 1]) Tab_ok (zw rfl)),λY=>zo _,λY=>zo _,λY=>Vint.u64 m.frm rfl (by omega) (zo _),trivial⟩,(9, .own 2)::(6, .own 1)::[(1, .own 0)],(2,some (.ch 5 1 (vecB m.group++beB 8 m.epoch).length ((vecB m.group++beB 8 m.epoch).map U8) true))::(1,some (.ch 5 1 (vecB m.group).length ((vecB m.group).map U8) true))::[(0,some (.box (m.c.map .r)))],3,λY=>ze c2 (zo _),?_⟩
 refine⟨rfl,⟨λY=>zo _,λY=>zo _,λY=>zo _,λY=>zo _,λY=>Or.inr (Yld.read (d:=10) (e:=5) (sz:=1) (n:=1) (cells:=[U8 1]) Tab_ok (zw rfl)),λY=>zo _,λY=>zo _,λY=>Vint.u64 m.frm rfl (by omega) (zo _),trivial⟩,(11, .own 3)::(9, .own 2)::(6, .own 1)::[(1, .own 0)],(3,some (.ch 5 1 (fb1 m).length ((fb1 m).map U8) true))::(2,none)::(2,some (.ch 5 1 (vecB m.group++beB 8 m.epoch).length ((vecB m.group++beB 8 m.epoch).map U8) true))::(1,some (.ch 5 1 (vecB m.group).length ((vecB m.group).map U8) true))::[(0,some (.box (m.c.map .r)))],4,λY=>by
  refine Vapp.mk' (j:=(fb1 m).length) (zs:=(fb1 m).map U8) (by simp only[maxLen];omega) (by show((vecB m.group++beB 8 m.epoch).length+1)*1<=_;omega) (by simp only[fb1,aL];rfl) (by simp only[fb1,List.map_append];rfl) ?_
  exact zo _,?_⟩
 refine⟨rfl,⟨λY=>zo _,λY=>zo _,λY=>zo _,λY=>zo _,λY=>Or.inr (Yld.read (d:=10) (e:=5) (sz:=1) (n:=1) (cells:=[U8 1]) Tab_ok (zw rfl)),λY=>zo _,λY=>zo _,λY=>Vint.u64 m.frm rfl (by omega) (zo _),trivial⟩,(15, .own 4)::(11, .own 3)::(9, .own 2)::(6, .own 1)::[(1, .own 0)],(4,some (.ch 5 1 (fb2 m).length ((fb2 m).map U8) true))::(3,some (.ch 5 1 (fb1 m).length ((fb1 m).map U8) true))::(2,none)::(2,some (.ch 5 1 (vecB m.group++beB 8 m.epoch).length ((vecB m.group++beB 8 m.epoch).map U8) true))::(1,some (.ch 5 1 (vecB m.group).length ((vecB m.group).map U8) true))::[(0,some (.box (m.c.map .r)))],5,λY=>ze c3 (zo _),?_⟩
 refine⟨rfl,⟨λY=>zo _,λY=>zo _,λY=>zo _,λY=>zo _,λY=>Or.inr (Yld.read (d:=10) (e:=5) (sz:=1) (n:=1) (cells:=[U8 1]) Tab_ok (zw rfl)),λY=>zo _,λY=>zo _,λY=>Vint.u64 m.frm rfl (by omega) (zo _),trivial⟩,?_⟩
 refine zw ?_
 refine Vapp.mk' (j:=(fb3 m).length) (zs:=(fb3 m).map U8) (by simp only[maxLen];omega) (by show((fb2 m).length+1)*1<=_;omega) (by simp only[fb3,aL];rfl) (by simp only[fb3,List.map_append];rfl) ?_
 refine zu rfl (zq ?_)
 refine za rfl rfl ?_
 refine ze (z8w m.lf h7) ?_
 refine Vapp.mk' (j:=(frmB m).length) (zs:=(frmB m).map U8) (by simp only[maxLen];omega) (by show((fb3 m).length+(comB m.lf).length)*1<=_;omega) (by rw[hf,aL]) (by rw[hf,List.map_append]) ?_
 exact cr
theorem zta(m:MsgP)(hm:m.sm):aG 156 [.ag m.c] (bch (zb3 m)):=by
 refine aT Tryz.func156 rfl ?_
 have hf:=zuc m hm
 have hl:=zop m hm
 have h0:(beB 2 1++beB 2 1).length=4:=by rw[aL,zak]
 refine aV ?_
 refine Vcall.mk' (zfi [] 2 1 (by simp) (.inr (.inl rfl))) (zk (Cv.nil _) (zn _)) ?_
 rw[List.nil_append]
 refine ze (zfi (beB 2 1) 2 1 (by rw[zak];omega) (.inr (.inl rfl))) ?_
 refine za rfl rfl ?_
 refine ze hf ?_
 refine Vapp.mk' (j:=(zb3 m).length) (zs:=(zb3 m).map U8) (by simp only[maxLen];omega) (by show(_+(frmB m).length)*1<=_;omega) (by simp only[zb3,aL]) (by simp only[zb3,List.map_append]) ?_
 exact rfl
theorem zue(b:List UInt8)(m:MsgP)(hm:m.sm)(hb:b.length<=100000000):aG 159 [bs b, .ag m.c] (bch (zmj b m)):=by
 refine aT Tryz.func159 rfl ?_
 have v1:=zag m.sig
 have h3:=hm.sig
 have h4:=hm.tag
 refine ze (zev b m.sig (by omega) (by omega)) ?_
 refine zt rfl (zp ?_)
 refine ze (zev (b++vecB m.sig) m.tag (by rw[aL];omega) (by omega)) ?_
 exact rfl
theorem z73(m:MsgP)(hm:m.sm):aG 174 [.ptr m.c] (.r (bs (msgB m))):=by
 refine aT Tryz.func174 rfl ?_
 have hh:=zta m hm
 have hl:=zi3 m hm
 have hs:=zue (zb3 m) m hm (by omega)
 have hl2:=zqu (zb3 m) m hm
 have h6:=hm.mem
 refine aV ?_
 refine za rfl rfl ?_
 refine ze hh ?_
 refine za rfl rfl ?_
 refine ze hs ?_
 refine zg rfl ?_
 refine ze (zev (zmj (zb3 m) m) m.mem (by omega) (by omega)) ?_
 exact cr
theorem z4y(m:MsgP)(hm:m.sm)(x:CtxP)(hx:x.fit):aG 155 [.ptr m.c, .ptr x.c] (.r (bs (sgnB m x))):=by
 refine aT Tryz.func155 rfl ?_
 have hh:=zta m hm
 have hl:=zi3 m hm
 have hc:=zng x hx
 have hl2:=zgq x
 obtain⟨k1,k2,k3,k4⟩:=id hx
 refine aV ?_
 refine za rfl rfl ?_
 refine ze hh ?_
 refine za rfl rfl ?_
 refine ze hc ?_
 refine Vapp.mk' (j:=(sgnB m x).length) (zs:=(sgnB m x).map U8) (by simp only[maxLen];omega) (by show((zb3 m).length+(ctxB x).length)*1<=_;omega) (by simp only[sgnB,aL]) (by simp only[sgnB,List.map_append]) ?_
 exact cr
theorem z4z(m:MsgP)(hm:m.sm)(x:CtxP)(hx:x.fit):aG 158 [.ptr m.c, .ptr x.c] (.r (bs (tagB m x))):=by
 refine aT Tryz.func158 rfl ?_
 have hh:=zta m hm
 have hl:=zi3 m hm
 have hc:=zng x hx
 have hl2:=zgq x
 obtain⟨k1,k2,k3,k4⟩:=id hx
 have l3:(sgnB m x).length=(zb3 m).length+(ctxB x).length:=aL
 have hs:=zue (sgnB m x) m hm (by omega)
 refine Vdraw.code (Vcode.float mixed Tab_ok 7 [⟨0,3, .r (.ag m.c),[]⟩,⟨2,5, .r (.ag x.c),[]⟩,⟨5,8, .r (.ag m.c),[]⟩] [(1,[0]),(3,[2]),(4,[]),(6,[5])] (by kernel_rfl) (F:=[(0, .r (.ptr m.c)),(1, .r (.ptr x.c))]) (O:=[]) (nx:=0) (zac [] rfl (by repeat' (first|exact rfl|exact trivial|exact cr|exact Cv.nil _|exact⟨rfl,rfl⟩|refine⟨_,_,rfl,?_,?_⟩|refine⟨?_,?_⟩)) trivial) ?_)
 refine⟨rfl,⟨λY=>za rfl rfl (zo _),λY=>za rfl rfl (zo _),λY=>za rfl rfl (zo _),trivial⟩,(4, .own 0)::[(0, .r (.ptr m.c)),(1, .r (.ptr x.c))],(0,some (.ch 5 1 (zb3 m).length ((zb3 m).map U8) true))::[],1,λY=>ze hh (zo _),?_⟩
 refine⟨rfl,⟨λY=>za rfl rfl (zo _),λY=>za rfl rfl (zo _),λY=>za rfl rfl (zo _),trivial⟩,(6, .r (bs (ctxB x)))::(4, .own 0)::[(0, .r (.ptr m.c)),(1, .r (.ptr x.c))],(0,some (.ch 5 1 (zb3 m).length ((zb3 m).map U8) true))::[],1,λY=>ze hc (zo _),?_⟩
 refine⟨rfl,⟨λY=>za rfl rfl (zo _),λY=>za rfl rfl (zo _),λY=>za rfl rfl (zo _),trivial⟩,(7, .own 1)::(6, .r (bs (ctxB x)))::(4, .own 0)::[(0, .r (.ptr m.c)),(1, .r (.ptr x.c))],(1,some (.ch 5 1 (sgnB m x).length ((sgnB m x).map U8) true))::(0,none)::(0,some (.ch 5 1 (zb3 m).length ((zb3 m).map U8) true))::[],2,λY=>by
  refine Vapp.mk' (j:=(sgnB m x).length) (zs:=(sgnB m x).map U8) (by simp only[maxLen];omega) (by show((zb3 m).length+(ctxB x).length)*1<=_;omega) (by simp only[sgnB,aL]) (by simp only[sgnB,List.map_append]) ?_
  exact zo _,?_⟩
 refine⟨rfl,⟨λY=>za rfl rfl (zo _),λY=>za rfl rfl (zo _),λY=>za rfl rfl (zo _),trivial⟩,(9, .own 2)::(7, .own 1)::(6, .r (bs (ctxB x)))::(4, .own 0)::[(0, .r (.ptr m.c)),(1, .r (.ptr x.c))],(2,some (.ch 5 1 (tagB m x).length ((tagB m x).map U8) true))::(1,some (.ch 5 1 (sgnB m x).length ((sgnB m x).map U8) true))::(0,none)::(0,some (.ch 5 1 (zb3 m).length ((zb3 m).map U8) true))::[],3,λY=>ze hs (zo _),?_⟩
 refine⟨rfl,⟨λY=>za rfl rfl (zo _),λY=>za rfl rfl (zo _),λY=>za rfl rfl (zo _),trivial⟩,?_⟩
 exact cr
theorem zv0(m:MsgP)(hm:m.sm):aG 170 [.ptr m.c] (.r (bs (cfmB m))):=by
 refine aT Tryz.func170 rfl ?_
 have hf:=zuc m hm
 have hl:=zop m hm
 have h3:=hm.sig
 have h0:(beB 2 1).length=2:=zak _ _
 have l1:(beB 2 1++frmB m).length=2+(frmB m).length:=by rw[aL,h0]
 have c1:=zfi [] 2 1 (by simp) (.inr (.inl rfl))
 rw[List.nil_append]at c1
 refine Vdraw.code (Vcode.float mixed Tab_ok 7 [⟨1,3, .r (.ag m.c),[]⟩,⟨4,6, .r (.ptr (m.c.drop 29)),[]⟩,⟨5,7, .r (bs m.sig),[4]⟩] [(0,[]),(2,[1]),(3,[]),(6,[5])] (by kernel_rfl) (F:=[(0, .r (.ptr m.c))]) (O:=[]) (nx:=0) (zac [] rfl (by repeat' (first|exact rfl|exact trivial|exact cr|exact Cv.nil _|exact⟨rfl,rfl⟩|refine⟨_,_,rfl,?_,?_⟩|refine⟨?_,?_⟩)) trivial) ?_)
 refine⟨rfl,⟨λY=>za rfl rfl (zo _),λY=>zo _,λY=>zg rfl (zo _),trivial⟩,(2, .own 0)::[(0, .r (.ptr m.c))],(0,some (.ch 5 1 (beB 2 1).length ((beB 2 1).map U8) true))::[],1,λY=>Vcall.mk' c1 (zk (Cv.nil _) (zn _)) (zo _),?_⟩
 refine⟨rfl,⟨λY=>za rfl rfl (zo _),λY=>zo _,λY=>zg rfl (zo _),trivial⟩,(4, .r (bs (frmB m)))::(2, .own 0)::[(0, .r (.ptr m.c))],(0,some (.ch 5 1 (beB 2 1).length ((beB 2 1).map U8) true))::[],1,λY=>ze hf (zo _),?_⟩
 refine⟨rfl,⟨λY=>za rfl rfl (zo _),λY=>zo _,λY=>zg rfl (zo _),trivial⟩,(5, .own 1)::(4, .r (bs (frmB m)))::(2, .own 0)::[(0, .r (.ptr m.c))],(1,some (.ch 5 1 (beB 2 1++frmB m).length ((beB 2 1++frmB m).map U8) true))::(0,none)::(0,some (.ch 5 1 (beB 2 1).length ((beB 2 1).map U8) true))::[],2,λY=>by
  refine Vapp.mk' (j:=(beB 2 1++frmB m).length) (zs:=(beB 2 1++frmB m).map U8) (by simp only[maxLen];omega) (by show((beB 2 1).length+(frmB m).length)*1<=_;omega) (by simp only[aL]) (by simp only[List.map_append]) ?_
  exact zo _,?_⟩
 refine⟨rfl,⟨λY=>za rfl rfl (zo _),λY=>zo _,λY=>zg rfl (zo _),trivial⟩,(8, .own 2)::(5, .own 1)::(4, .r (bs (frmB m)))::(2, .own 0)::[(0, .r (.ptr m.c))],(2,some (.ch 5 1 (cfmB m).length ((cfmB m).map U8) true))::(1,some (.ch 5 1 (beB 2 1++frmB m).length ((beB 2 1++frmB m).map U8) true))::(0,none)::(0,some (.ch 5 1 (beB 2 1).length ((beB 2 1).map U8) true))::[],3,λY=>ze (zev (beB 2 1++frmB m) m.sig (by omega) (by omega)) (zo _),?_⟩
 refine⟨rfl,⟨λY=>za rfl rfl (zo _),λY=>zo _,λY=>zg rfl (zo _),trivial⟩,?_⟩
 exact cr
theorem zcbb(m:MsgP)(hm:m.sm):aG 104 [.ag m.c] (.r (.tu [bs (msgB m),Er 0])):=by
 refine aT Tryz.func104 rfl ?_
 refine za rfl rfl ?_
 refine ze (zi1 m hm) ?_
 refine Vstep.sub (zcq (id:=0) (t:=1) m.c rfl rfl) (Vstep.mkfunS rfl rfl ?_)
 refine ze (znm true _ _ (msgB m) λ_=>z73 m hm) ?_
 exact⟨_,rfl,cr⟩
theorem zuf(m:MsgP)(hm:m.sm)(x:CtxP)(hx:x.fit):aG 76 [.ag m.c, .ag x.c] (.r (.tu [bs (sgnB m x),Er 0])):=by
 refine aT Tryz.func76 rfl ?_
 refine za rfl rfl ?_
 refine ze (zi1 m hm) ?_
 refine Vstep.sub ((zcq (id:=0) (t:=2) m.c rfl rfl).trans (zcq (id:=1) (t:=3) x.c rfl rfl)) (Vstep.mkfunS rfl rfl ?_)
 refine ze (znm true _ _ (sgnB m x) λ_=>z4y m hm x hx) ?_
 exact⟨_,rfl,cr⟩
theorem znj(m:MsgP)(hm:m.sm)(x:CtxP)(hx:x.fit):aG 77 [.ag m.c, .ag x.c] (.r (.tu [bs (tagB m x),Er 0])):=by
 refine aT Tryz.func77 rfl ?_
 refine za rfl rfl ?_
 refine ze (zi1 m hm) ?_
 refine Vstep.sub ((zcq (id:=0) (t:=2) m.c rfl rfl).trans (zcq (id:=1) (t:=3) x.c rfl rfl)) (Vstep.mkfunS rfl rfl ?_)
 refine ze (znm true _ _ (tagB m x) λ_=>z4z m hm x hx) ?_
 exact⟨_,rfl,cr⟩
theorem zxq(m:MsgP)(hm:m.sm):aG 99 [.ag m.c] (.r (.tu [bs (cfmB m),Er 0])):=by
 refine aT Tryz.func99 rfl ?_
 refine za rfl rfl ?_
 refine ze (zi1 m hm) ?_
 refine Vstep.sub (zcq (id:=0) (t:=1) m.c rfl rfl) (Vstep.mkfunS rfl rfl ?_)
 refine ze (znm true _ _ (cfmB m) λ_=>zv0 m hm) ?_
 exact⟨_,rfl,cr⟩
def Prm(n:Nat):Prop:=1<n/\∀a b:Nat,n∣a*b->n∣a\/n∣b
def pmod(g n:Nat):Nat->Nat->Nat
 |0,_=>1%n
 |f+1,e=>if e=0 then 1%n else
   let h:=pmod g n f (e/2)
   let s:=h*h%n
   if e%2=1 then s*g%n else s
theorem ziq(g n:Nat): ∀f e,e<2^f->pmod g n f e=g^e%n
 |0,e,h=>by
  have:e=0:=by omega
  subst this;simp[pmod]
 |f+1,e,h=>by
  rw[pmod]
  split
  ·next h0=>subst h0;simp
  ·have h2:e/2<2^f:=by rw[Nat.pow_succ]at h;omega
   have hh:=ziq g n f (e/2) h2
   dsimp only
   rw[hh]
   have e1:g^(e/2)%n*(g^(e/2)%n)%n=g^(e/2+e/2)%n:=by rw[<-Nat.mul_mod,Nat.pow_add]
   rw[e1]
   split
   ·next h1=>
    rw[Nat.mod_mul_mod,<-Nat.pow_succ]
    congr 2;omega
   ·next h1=>congr 2;omega
theorem zfk{g n m:Nat}(h:g^m%n=1%n)(k:Nat):g^(m*k)%n=1%n:=by
 rw[Nat.pow_mul,Nat.pow_mod,h]
 rw[<-Nat.pow_mod,Nat.one_pow]
theorem zf2b{g n:Nat}(a b:Nat):g^a%n=1%n->g^b%n=1%n->g^(Nat.gcd a b)%n=1%n:=by
 induction a,b using Nat.gcd.induction with
 |H0 b=>intro _ h;simpa using h
 |H1 a b ha ih=>
  intro h1 h2
  rw[Nat.gcd_rec]
  refine ih ?_ h1
  have e:b=a*(b/a)+b%a:=(Nat.div_add_mod b a).symm
  rw[e,Nat.pow_add,Nat.mul_mod,zfk h1]at h2
  rw[<-Nat.mul_mod,Nat.one_mul]at h2
  exact h2
def prod:List Nat->Nat
 |[]=>1
 |q::l=>q*prod l
theorem zy5: ∀{l:List Nat},(∀q∈l,Prm q)->0<prod l
 |[],_=>by simp[prod]
 |q::l,h=>by
  have h1:=(h q (by simp)).1
  have h2:=zy5 (l:=l) λx hx=>h x (by simp[hx])
  rw[prod]
  exact Nat.mul_pos (by omega) h2
theorem zwy: ∀(l:List Nat),(∀q∈l,Prm q)->∀G,G∣prod l->G≠prod l->∃q∈l,G∣prod l/q
 |[],_,G,h,hn=>by
  simp only[prod]at h hn
  exact absurd (Nat.dvd_one.1 h) hn
 |q::l,h,G,⟨c,hc⟩,hn=>by
  have hq:=h q (by simp)
  have hl: ∀x∈l,Prm x:=λx hx=>h x (by simp[hx])
  have hp:=zy5 hl
  have q0:0<q:=by have:=hq.1;omega
  rw[prod]at hc
  rcases hq.2 G c ⟨prod l,hc.symm⟩with⟨G',hG⟩ |⟨c',hc'⟩
  ·subst hG
   have e:prod l=G'*c:=by
    rw[Nat.mul_assoc]at hc
    exact Nat.eq_of_mul_eq_mul_left q0 hc
   have hne:G'≠prod l:=λhx=>hn (by rw[prod,hx])
   obtain⟨r,hr,hd⟩:=zwy l hl G' ⟨c,e⟩ hne
   refine⟨r,by simp[hr],?_⟩
   have hrd:r∣prod l:=mem_dvd l r hr
   rw[prod,Nat.mul_div_assoc _ hrd]
   exact Nat.mul_dvd_mul_left q hd
  ·subst hc'
   refine⟨q,by simp,?_⟩
   rw[prod,Nat.mul_div_cancel_left _ q0]
   refine⟨c',?_⟩
   refine Nat.eq_of_mul_eq_mul_left q0 ?_
   rw[hc,<-Nat.mul_assoc,Nat.mul_comm G q,Nat.mul_assoc]
where
 mem_dvd: ∀(l:List Nat) (r:Nat),r∈l->r∣prod l
  |q::l,r,h=>by
   rw[prod]
   rcases List.mem_cons.1 h with rfl |h
   ·exact Nat.dvd_mul_right _ _
   ·exact Nat.dvd_trans (mem_dvd l r h) (Nat.dvd_mul_left _ _)
theorem zy1: ∀(N:Nat) (f:Nat->Nat),(∀k,k<N->f k<N)->(∀i j,i<N->j<N->f i=f j->i=j)->∀v,v<N->∃k,k<N/\f k=v
 |0,_,_,_,v,hv=>absurd hv (by omega)
 |N+1,f,hf,hi,v,hv=>by
  by_cases hN:f N=v
  ·exact⟨N,by omega,hN⟩
  ·let g:Nat->Nat:=λk=>if f k=N then f N else f k
   have hg: ∀k,k<N->g k<N:=by
    intro k hk
    show(if f k=N then f N else f k)<N
    have a:=hf k (by omega)
    have b:=hf N (by omega)
    split
    ·next e=>
     have:f N≠N:=λx=>by have:=hi k N (by omega) (by omega) (by omega);omega
     omega
    ·omega
   have hgi: ∀i j,i<N->j<N->g i=g j->i=j:=by
    intro i j h1 h2 h
    have h:(if f i=N then f N else f i)=(if f j=N then f N else f j):=h
    split at h<;>split at h
    ·next a b=>exact hi i j (by omega) (by omega) (by omega)
    ·have:=hi N j (by omega) (by omega) h;omega
    ·have:=hi i N (by omega) (by omega) h;omega
    ·exact hi i j (by omega) (by omega) h
   by_cases hv2:v=N
   ·have hfN:f N<N:=by have:=hf N (by omega);omega
    obtain⟨k,hk,e⟩:=zy1 N g hg hgi (f N) hfN
    have e:(if f k=N then f N else f k)=f N:=e
    split at e
    ·next x=>exact⟨k,by omega,by omega⟩
    ·have:=hi k N (by omega) (by omega) e;omega
   ·obtain⟨k,hk,e⟩:=zy1 N g hg hgi v (by omega)
    have e:(if f k=N then f N else f k)=v:=e
    split at e
    ·exact absurd e hN
    ·exact⟨k,by omega,e⟩
theorem zxe(n g:Nat)(l:List Nat)(hn:1<n)(hl: ∀q∈l,Prm q)(hp:prod l=n-1)(h1:g^(n-1)%n=1)(h2: ∀q∈l,g^((n-1)/q)%n≠1): ∀x,x%n≠0->∃k,g^k%n=x%n:=by
 have one:1%n=1:=Nat.mod_eq_of_lt hn
 have ord: ∀m,0<m->m<n-1->g^m%n≠1:=by
  intro m m0 m1 hm
  have hg:=zf2b (g:=g) (n:=n) m (n-1) (by rw[hm,one]) (by rw[h1,one])
  have hd:Nat.gcd m (n-1)∣prod l:=hp▸Nat.gcd_dvd_right _ _
  have hne:Nat.gcd m (n-1)≠prod l:=by
   have:=Nat.le_of_dvd m0 (Nat.gcd_dvd_left m (n-1))
   omega
  obtain⟨q,hq,c,hc⟩:=zwy l hl _ hd hne
  refine h2 q hq ?_
  rw[<-hp,hc,zfk hg,one]
 have nz: ∀k,g^k%n≠0:=by
  intro k hk
  have:g^(k*(n-1))%n=0:=by
   rw[Nat.pow_mul,Nat.pow_mod,hk,Nat.zero_pow (by omega)]
   exact Nat.zero_mod n
  rw[Nat.mul_comm,zfk (by rw[h1,one]),one]at this
  omega
 have inj: ∀i j,i<j->j<n-1->g^i%n≠g^j%n:=by
  intro i j hij hj e
  have e1:(g^i%n*(g^(n-1-i)%n))%n=1:=by
   rw[<-Nat.mul_mod,<-Nat.pow_add,show i+(n-1-i)=n-1 by omega,h1]
  rw[e,<-Nat.mul_mod,<-Nat.pow_add,show j+(n-1-i)=(n-1)+(j-i)by omega,Nat.pow_add,Nat.mul_mod,h1,Nat.one_mul,Nat.mod_mod]at e1
  exact ord (j-i) (by omega) (by omega) e1
 intro x hx
 obtain⟨k, -,hk⟩:=zy1 (n-1) (λk=>g^k%n-1)
  (λk _=>by have:=Nat.mod_lt (g^k) (show 0<n by omega);have:=nz k;show g^k%n-1<n-1;omega)
  (λi j hi hj h=>by
   have a:=nz i;have b:=nz j
   have h:g^i%n-1=g^j%n-1:=h
   rcases Nat.lt_trichotomy i j with c |c |c
   ·exact absurd (show g^i%n=g^j%n by omega) (inj i j c hj)
   ·exact c
   ·exact absurd (show g^j%n=g^i%n by omega) (inj j i c hi))
  (x%n-1) (by have:=Nat.mod_lt x (show 0<n by omega);omega)
 have:=nz k
 exact⟨k,by have hk:g^k%n-1=x%n-1:=hk;omega⟩
theorem zlcb(n g:Nat)(l:List Nat)(hn:1<n)(hl: ∀q∈l,Prm q)(hp:prod l=n-1)(h1:g^(n-1)%n=1)(h2: ∀q∈l,g^((n-1)/q)%n≠1):Prm n:=by
 refine⟨hn,λa b h=>?_⟩
 by_cases ha:a%n=0
 ·exact .inl (Nat.dvd_of_mod_eq_zero ha)
 by_cases hb:b%n=0
 ·exact .inr (Nat.dvd_of_mod_eq_zero hb)
 exfalso
 obtain⟨i,hi⟩:=zxe n g l hn hl hp h1 h2 a ha
 obtain⟨j,hj⟩:=zxe n g l hn hl hp h1 h2 b hb
 have e:=Nat.mod_eq_zero_of_dvd h
 rw[Nat.mul_mod,<-hi,<-hj,<-Nat.mul_mod,<-Nat.pow_add]at e
 have e2:g^((i+j)*(n-1))%n=0:=by
  rw[Nat.pow_mul,Nat.pow_mod,e,Nat.zero_pow (by omega)]
  exact Nat.zero_mod n
 rw[Nat.mul_comm,zfk (by rw[h1,Nat.mod_eq_of_lt hn]),Nat.mod_eq_of_lt hn]at e2
 omega
def chk(n g f:Nat)(l:List Nat):Bool:=Nat.ble 2 n&&Nat.beq (prod l) (n-1)&&Nat.beq (pmod g n f (n-1)) 1&&l.all λq=> !(Nat.beq (pmod g n f ((n-1)/q)) 1)
theorem zaq{n:Nat}(g f:Nat)(l:List Nat)(hf:n<2^f)(hl: ∀q∈l,Prm q)(h:chk n g f l=true):Prm n:=by
 simp only[chk,Bool.and_eq_true,Nat.ble_eq,List.all_eq_true,Bool.not_eq_true']at h
 obtain⟨⟨⟨a,b⟩,c⟩,d⟩:=h
 have b:=Nat.eq_of_beq_eq_true b
 have c:=Nat.eq_of_beq_eq_true c
 rw[ziq g n f _ (by omega)]at c
 refine zlcb n g l (by omega) hl b c λq hq e=>?_
 have d:=d q hq
 rw[ziq g n f _ (by have:=Nat.div_le_self (n-1) q;omega),e]at d
 exact absurd d (by decide)
theorem all_nil: ∀q∈([]:List Nat),Prm q:=λq h=>absurd h (by simp)
theorem all_cons{a:Nat}{l:List Nat}(h:Prm a)(hl: ∀q∈l,Prm q): ∀q∈a::l,Prm q:=λq hq=>by
 rcases List.mem_cons.1 hq with rfl |hq
 ·exact h
 ·exact hl q hq
theorem prm2:Prm 2:=⟨by decide,λa b h=>by
 rcases Nat.mod_two_eq_zero_or_one a with ha |ha
 ·exact .inl (Nat.dvd_of_mod_eq_zero ha)
 rcases Nat.mod_two_eq_zero_or_one b with hb |hb
 ·exact .inr (Nat.dvd_of_mod_eq_zero hb)
 have:=Nat.mod_eq_zero_of_dvd h
 rw[Nat.mul_mod,ha,hb]at this
 omega⟩
theorem za9:Prm 3:=zaq 2 2 [2] (by decide+kernel) (all_cons prm2 (all_nil)) (by decide+kernel)
theorem z55:Prm 17:=zaq 3 5 [2,2,2,2] (by decide+kernel) (all_cons prm2 (all_cons prm2 (all_cons prm2 (all_cons prm2 (all_nil))))) (by decide+kernel)
theorem zhd:Prm 7:=zaq 3 3 [2,3] (by decide+kernel) (all_cons prm2 (all_cons za9 (all_nil))) (by decide+kernel)
theorem znlb:Prm 239:=zaq 7 8 [2,7,17] (by decide+kernel) (all_cons prm2 (all_cons zhd (all_cons z55 (all_nil)))) (by decide+kernel)
theorem znmb:Prm 479:=zaq 13 9 [2,239] (by decide+kernel) (all_cons prm2 (all_cons znlb (all_nil))) (by decide+kernel)
theorem znnb:Prm 32573:=zaq 2 15 [2,2,17,479] (by decide+kernel) (all_cons prm2 (all_cons prm2 (all_cons z55 (all_cons znmb (all_nil))))) (by decide+kernel)
theorem znob:Prm 65147:=zaq 2 16 [2,32573] (by decide+kernel) (all_cons prm2 (all_cons znnb (all_nil))) (by decide+kernel)
theorem zfl:Prm 5:=zaq 2 3 [2,2] (by decide+kernel) (all_cons prm2 (all_cons prm2 (all_nil))) (by decide+kernel)
theorem zr9:Prm 11:=zaq 2 4 [2,5] (by decide+kernel) (all_cons prm2 (all_cons zfl (all_nil))) (by decide+kernel)
theorem zldb:Prm 353:=zaq 3 9 [2,2,2,2,2,11] (by decide+kernel) (all_cons prm2 (all_cons prm2 (all_cons prm2 (all_cons prm2 (all_cons prm2 (all_cons zr9 (all_nil))))))) (by decide+kernel)
theorem z92:Prm 29:=zaq 2 5 [2,2,7] (by decide+kernel) (all_cons prm2 (all_cons prm2 (all_cons zhd (all_nil)))) (by decide+kernel)
theorem zleb:Prm 59:=zaq 2 6 [2,29] (by decide+kernel) (all_cons prm2 (all_cons z92 (all_nil))) (by decide+kernel)
theorem zlfb:Prm 487:=zaq 3 9 [2,3,3,3,3,3] (by decide+kernel) (all_cons prm2 (all_cons za9 (all_cons za9 (all_cons za9 (all_cons za9 (all_cons za9 (all_nil))))))) (by decide+kernel)
theorem zlgb:Prm 57467:=zaq 2 16 [2,59,487] (by decide+kernel) (all_cons prm2 (all_cons zleb (all_cons zlfb (all_nil)))) (by decide+kernel)
theorem zy2:Prm 13:=zaq 2 4 [2,2,3] (by decide+kernel) (all_cons prm2 (all_cons prm2 (all_cons za9 (all_nil)))) (by decide+kernel)
theorem zlhb:Prm 131:=zaq 2 8 [2,5,13] (by decide+kernel) (all_cons prm2 (all_cons zfl (all_cons zy2 (all_nil)))) (by decide+kernel)
theorem zlib:Prm 132049:=zaq 26 18 [2,2,2,2,3,3,7,131] (by decide+kernel) (all_cons prm2 (all_cons prm2 (all_cons prm2 (all_cons prm2 (all_cons za9 (all_cons za9 (all_cons zhd (all_cons zlhb (all_nil))))))))) (by decide+kernel)
theorem z93:Prm 43:=zaq 3 6 [2,3,7] (by decide+kernel) (all_cons prm2 (all_cons za9 (all_cons zhd (all_nil)))) (by decide+kernel)
theorem z94:Prm 23:=zaq 5 5 [2,11] (by decide+kernel) (all_cons prm2 (all_cons zr9 (all_nil))) (by decide+kernel)
theorem zljb:Prm 3727:=zaq 3 12 [2,3,3,3,3,23] (by decide+kernel) (all_cons prm2 (all_cons za9 (all_cons za9 (all_cons za9 (all_cons za9 (all_cons z94 (all_nil))))))) (by decide+kernel)
theorem zlkb:Prm 1923133:=zaq 2 21 [2,2,3,43,3727] (by decide+kernel) (all_cons prm2 (all_cons prm2 (all_cons za9 (all_cons z93 (all_cons zljb (all_nil)))))) (by decide+kernel)
theorem zllb:Prm 31:=zaq 3 5 [2,3,5] (by decide+kernel) (all_cons prm2 (all_cons za9 (all_cons zfl (all_nil)))) (by decide+kernel)
theorem zlmb:Prm 53:=zaq 2 6 [2,2,13] (by decide+kernel) (all_cons prm2 (all_cons prm2 (all_cons zy2 (all_nil)))) (by decide+kernel)
theorem zlnb:Prm 107:=zaq 2 7 [2,53] (by decide+kernel) (all_cons prm2 (all_cons zlmb (all_nil))) (by decide+kernel)
theorem zlob:Prm 37:=zaq 2 6 [2,2,3,3] (by decide+kernel) (all_cons prm2 (all_cons prm2 (all_cons za9 (all_cons za9 (all_nil))))) (by decide+kernel)
theorem zlpb:Prm 223:=zaq 3 8 [2,3,37] (by decide+kernel) (all_cons prm2 (all_cons za9 (all_cons zlob (all_nil)))) (by decide+kernel)
theorem zlqb:Prm 173:=zaq 2 8 [2,2,43] (by decide+kernel) (all_cons prm2 (all_cons prm2 (all_cons z93 (all_nil)))) (by decide+kernel)
theorem zlrb:Prm 4153:=zaq 5 13 [2,2,2,3,173] (by decide+kernel) (all_cons prm2 (all_cons prm2 (all_cons prm2 (all_cons za9 (all_cons zlqb (all_nil)))))) (by decide+kernel)
theorem z95:Prm 41:=zaq 6 6 [2,2,2,5] (by decide+kernel) (all_cons prm2 (all_cons prm2 (all_cons prm2 (all_cons zfl (all_nil))))) (by decide+kernel)
theorem zlsb:Prm 1723:=zaq 3 11 [2,3,7,41] (by decide+kernel) (all_cons prm2 (all_cons za9 (all_cons zhd (all_cons z95 (all_nil))))) (by decide+kernel)
theorem zltb:Prm 430751:=zaq 17 19 [2,5,5,5,1723] (by decide+kernel) (all_cons prm2 (all_cons zfl (all_cons zfl (all_cons zfl (all_cons zlsb (all_nil)))))) (by decide+kernel)
theorem zlub:Prm 31757755568855353:=zaq 10 55 [2,2,2,3,31,107,223,4153,430751] (by decide+kernel) (all_cons prm2 (all_cons prm2 (all_cons prm2 (all_cons za9 (all_cons zllb (all_cons zlnb (all_cons zlpb (all_cons zlrb (all_cons zltb (all_nil)))))))))) (by decide+kernel)
theorem zy3:Prm 19:=zaq 2 5 [2,3,3] (by decide+kernel) (all_cons prm2 (all_cons za9 (all_cons za9 (all_nil)))) (by decide+kernel)
theorem zlvb:Prm 83:=zaq 2 7 [2,41] (by decide+kernel) (all_cons prm2 (all_cons z95 (all_nil))) (by decide+kernel)
theorem zlwb:Prm 9463:=zaq 3 14 [2,3,19,83] (by decide+kernel) (all_cons prm2 (all_cons za9 (all_cons zy3 (all_cons zlvb (all_nil))))) (by decide+kernel)
theorem zlxb:Prm 37853:=zaq 2 16 [2,2,9463] (by decide+kernel) (all_cons prm2 (all_cons prm2 (all_cons zlwb (all_nil)))) (by decide+kernel)
theorem zlyb:Prm 75707:=zaq 2 17 [2,37853] (by decide+kernel) (all_cons prm2 (all_cons zlxb (all_nil))) (by decide+kernel)
theorem zlzb:Prm 2437:=zaq 2 12 [2,2,3,7,29] (by decide+kernel) (all_cons prm2 (all_cons prm2 (all_cons za9 (all_cons zhd (all_cons z92 (all_nil)))))) (by decide+kernel)
theorem zl0b:Prm 97:=zaq 5 7 [2,2,2,2,2,3] (by decide+kernel) (all_cons prm2 (all_cons prm2 (all_cons prm2 (all_cons prm2 (all_cons prm2 (all_cons za9 (all_nil))))))) (by decide+kernel)
theorem zl1b:Prm 419:=zaq 2 9 [2,11,19] (by decide+kernel) (all_cons prm2 (all_cons zr9 (all_cons zy3 (all_nil)))) (by decide+kernel)
theorem zl2b:Prm 569003:=zaq 2 20 [2,7,97,419] (by decide+kernel) (all_cons prm2 (all_cons zhd (all_cons zl0b (all_cons zl1b (all_nil))))) (by decide+kernel)
theorem zl3b:Prm 2773320623:=zaq 5 32 [2,2437,569003] (by decide+kernel) (all_cons prm2 (all_cons zlzb (all_cons zl2b (all_nil)))) (by decide+kernel)
theorem zl4b:Prm 72106336199:=zaq 7 37 [2,13,2773320623] (by decide+kernel) (all_cons prm2 (all_cons zy2 (all_cons zl3b (all_nil)))) (by decide+kernel)
theorem z96:Prm 47:=zaq 5 6 [2,23] (by decide+kernel) (all_cons prm2 (all_cons z94 (all_nil))) (by decide+kernel)
theorem zl5b:Prm 127:=zaq 3 7 [2,3,3,7] (by decide+kernel) (all_cons prm2 (all_cons za9 (all_cons za9 (all_cons zhd (all_nil))))) (by decide+kernel)
theorem zl6b:Prm 103:=zaq 5 7 [2,3,17] (by decide+kernel) (all_cons prm2 (all_cons za9 (all_cons z55 (all_nil)))) (by decide+kernel)
theorem zl7b:Prm 991:=zaq 6 10 [2,3,3,5,11] (by decide+kernel) (all_cons prm2 (all_cons za9 (all_cons za9 (all_cons zfl (all_cons zr9 (all_nil)))))) (by decide+kernel)
theorem zl8b:Prm 8574133:=zaq 2 24 [2,2,3,7,103,991] (by decide+kernel) (all_cons prm2 (all_cons prm2 (all_cons za9 (all_cons zhd (all_cons zl6b (all_cons zl7b (all_nil))))))) (by decide+kernel)
theorem zl9b:Prm 1919519569386763:=zaq 2 51 [2,3,7,19,47,47,127,8574133] (by decide+kernel) (all_cons prm2 (all_cons za9 (all_cons zhd (all_cons zy3 (all_cons z96 (all_cons z96 (all_cons zl5b (all_cons zl8b (all_nil))))))))) (by decide+kernel)
theorem zmab:Prm 75445702479781427272750846543864801:=zaq 7 116 [2,2,2,2,2,3,3,5,5,75707,72106336199,1919519569386763] (by decide+kernel) (all_cons prm2 (all_cons prm2 (all_cons prm2 (all_cons prm2 (all_cons prm2 (all_cons za9 (all_cons za9 (all_cons zfl (all_cons zfl (all_cons zlyb (all_cons zl4b (all_cons zl9b (all_nil))))))))))))) (by decide+kernel)
theorem zmbb:Prm 74058212732561358302231226437062788676166966415465897661863160754340907:=zaq 2 236 [2,3,353,57467,132049,1923133,31757755568855353,75445702479781427272750846543864801] (by decide+kernel) (all_cons prm2 (all_cons za9 (all_cons zldb (all_cons zlgb (all_cons zlib (all_cons zlkb (all_cons zlub (all_cons zmab (all_nil))))))))) (by decide+kernel)
end Go.Proofs.YtkegaaonpekkgaaGreat.Sx
