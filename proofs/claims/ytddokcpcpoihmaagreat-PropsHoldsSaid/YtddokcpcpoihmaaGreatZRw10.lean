import Derived.Test.YtddokcpcpoihmaaGreatZSxBr
import Derived.Test.YtddokcpcpoihmaaGreatZGo
import Derived.Test.YtddokcpcpoihmaaGreatZEx
import Derived.Test.YtddokcpcpoihmaaGreatZEk
namespace Go.Proofs.YtddokcpcpoihmaaGreat.Sx
open Go.RowKit
set_option linter.unusedVariables false
section
theorem zti:Tryz.prog.underlying 83=some (.map 3 31):=by kernel_rfl
theorem z54:(Tryz.prog.info? 31).bind (·.zero)=some (.agg #[.slice none 0 0, .slice none 0 0, .slice none 0 0, .int .u8 0, .slice none 0 0, .slice none 0 0]):=by kernel_rfl
abbrev zlC:List RV:=[nl,nl,nl, .i .u8 0,nl,nl]
theorem z55(w:World)(k:Kp):(RV.ag zlC).at_ w k (.agg #[.slice none 0 0, .slice none 0 0, .slice none 0 0, .int .u8 0, .slice none 0 0, .slice none 0 0]):=by
 simp only[RV.at_,RV.listAt]
 exact⟨_,rfl,_,_,rfl,rfl,rfl,_,_,rfl,rfl,rfl,_,_,rfl,rfl,rfl,_,_,rfl,rfl,rfl,_,_,rfl,rfl,rfl,_,_,rfl,rfl,rfl,rfl⟩
section
variable (lf:Leaf) (hlf:lf.fit) (hlr:lf.right=true)
include hlf hlr in
theorem zr6:zab Tryz.prog 33 [nods [L1 lf]] (.r (.s (mapS [(0, .ag lf.c)]))):=by
 refine zba (T:=Tab) mixed Tab_ok Tryz.func33 rfl (by kernel_rfl) ?_
 refine Vcode.run Tab_ok ?_
 refine Vstep.mapMk 1000001 rfl λb=>?_
 refine zd (zuc lf hlf hlr) ?_
 refine Vloop.rounds 2 ?_
 refine Vrounds.step mixed Tab_ok ?_
 refine zq rfl (zo ?_)
 refine zk i00 i01 rfl (zf rfl ?_)
 refine zc (m:=0) rfl (by decide) ?_
 refine zk i00 i01 (idx0 lf) ?_
 refine za rfl rfl ?_
 refine Vstep.mapPut 0 1000001 rfl rfl rfl rfl rfl rfl rfl zti z1e rfl ?_
 refine zc (m:=1) rfl (by decide) ?_
 refine Vrounds.step mixed Tab_ok ?_
 refine zt rfl (zp ?_)
 exact⟨_,zsh (t:=2) (im:=0) (gh:=1000001) rfl rfl rfl,cr⟩
theorem z4h(all g:RV):zab Tryz.prog 34 [all,I 0,nl,g] (.r (.b true)):=by
 refine zaa (T:=Tab) mixed Tab_ok Tryz.func34 rfl (by kernel_rfl) ?_
 refine Vcode.scope mixed Tab_ok 0 (λ_:Unit=>⟨[],[],0⟩) (λ_=>False) (λ_=>0) rfl ?_ (λ_ h=>h.elim)
 refine Vcode.run Tab_ok ?_
 refine Vstep.mapGMk qI rfl ?_
 refine Vstep.mapGMk qI rfl ?_
 refine Vloop.rounds 1 ?_
 refine Vrounds.step mixed Tab_ok ?_
 refine zt rfl (zp ?_)
 refine Vloop.rounds 1 ?_
 refine Vrounds.step mixed Tab_ok ?_
 refine zt rfl (zp ?_)
 exact cr
theorem zy9:zab Tryz.prog 36 [nl] (.r (.b true)):=by
 refine zaa (T:=Tab) mixed Tab_ok Tryz.func36 rfl (by kernel_rfl) ?_
 refine zq rfl ?_
 exact cr
theorem z3x:zgx [L1 lf]=true:=by
 unfold zgx
 refine decide_eq_true ?_
 have e:lvs [L1 lf]=[L1 lf]:=rfl
 unfold idsL sgnL
 rw[e]
 exact⟨by simp,by simp⟩
include hlf hlr in
set_option maxHeartbeats 1000000 in
theorem zy4:zab Tryz.prog 10 [nods [L1 lf],I 0,nl,nl] (.r (.tu [.ag [nods [L1 lf],nl,nl, .b true],Er 0])):=by
 refine zaa (T:=Tab) mixed Tab_ok Tryz.func10 rfl (by kernel_rfl) ?_
 have ha:=z11 [L1 lf] (show 1<=1000000 by decide)
 rw[z3x]at ha
 refine zd (zqd lf hlf hlr) ?_
 refine zt rfl (zp ?_)
 refine zd (zr6 lf hlf hlr) ?_
 refine Vstep.look2 (.ag zlC) rfl rfl rfl zti z1e z54 z55 (λr hr=>?_) (λhr=>by simp[zcy]at hr)
 have hr':r= .ag lf.c:=by simpa[zcy]using hr.symm
 subst hr'
 refine zt rfl (zp ?_)
 refine zt rfl ?_
 refine zd (z4h _ _) ?_
 refine zt rfl (zp ?_)
 refine zd (z15 lf hlf) ?_
 refine zd zy9 ?_
 refine zu ?_
 refine Vloop.rounds 4 ?_
 refine Vrounds.step mixed Tab_ok ?_
 refine zq rfl (zo ?_)
 refine zk (by decide) (by decide) rfl (zf rfl ?_)
 refine Vloop.rounds 1 ?_
 refine Vrounds.step mixed Tab_ok ?_
 refine zt rfl (zp ?_)
 refine zc (m:=1) rfl (by decide) ?_
 refine Vrounds.step mixed Tab_ok ?_
 refine zq rfl (zo ?_)
 refine zk (by decide) (by decide) rfl (zf rfl ?_)
 refine Vloop.rounds 1 ?_
 refine Vrounds.step mixed Tab_ok ?_
 refine zt rfl (zp ?_)
 refine zc (m:=2) rfl (by decide) ?_
 refine Vrounds.step mixed Tab_ok ?_
 refine zq rfl (zo ?_)
 refine zk (by decide) (by decide) rfl (zf rfl ?_)
 refine Vloop.rounds 1 ?_
 refine Vrounds.step mixed Tab_ok ?_
 refine zt rfl (zp ?_)
 refine zc (m:=3) rfl (by decide) ?_
 refine Vrounds.step mixed Tab_ok ?_
 refine zt rfl (zp ?_)
 refine zd ha ?_
 refine zt rfl (zp ?_)
 refine za rfl rfl ?_
 refine za rfl rfl ?_
 exact⟨_,rfl,cr⟩
end
theorem zzc(a b:List Node)(ha:a.length<=1000000)(hb:b.length<=1000000)(la: ∀x∈a,∀u∈x.par.late,i64 u)(lb: ∀x∈b,∀u∈x.par.late,i64 u):zab Tryz.prog 31 [nods a,nods b] (.r (.b (decide (a=b)))):=by
 refine zaa (T:=Tab) mixed Tab_ok Tryz.func31 rfl (by kernel_rfl) ?_
 by_cases hlen:a.length=b.length
 ·refine zt (by simp only[zb];omega) (zp ?_)
  refine zw (λi:Nat=>⟨[(0, .r (nods a)),(1, .r (nods b)),(5, .r (I i))],[],0⟩) (λi=>i<=a.length/\a.take i=b.take i) (λi=>a.length-i) 0 ⟨by omega,by simp⟩ (zac [] rfl ⟨cr,cr,cr,trivial⟩ trivial) ?_
  rintro i ⟨hi,he⟩
  refine zg (λh=>zo ?_) (λh=>zp ?_)
  ·simp only[zb]at h
   have h1:i<a.length:=by omega
   have h2:i<b.length:=by omega
   refine Vdraw.mk' (by kernel_rfl) ?_
   refine zk (by omega) (by omega) (zg9 rfl h1) ?_
   refine za rfl rfl ?_
   refine zk (by omega) (by omega) (zg9 rfl h2) ?_
   refine za rfl rfl ?_
   refine zy (zyx a[i] b[i] (la _ (List.getElem_mem h1)) (lb _ (List.getElem_mem h2))) (λh3=>zt rfl (zp ?_)) (λh3=>zq rfl (zo ?_))
   ·simp only[decide_eq_true_eq]at h3
    refine zc (m:=((i+1:Nat):Int)) (by omega) (by omega) ?_
    refine⟨i+1,⟨h1,?_⟩,by omega,zac [] rfl ⟨cr,cr,cr,trivial⟩ trivial⟩
    rw[List.take_succ_eq_append_getElem h1,List.take_succ_eq_append_getElem h2,he,h3]
   ·simp only[decide_eq_false_iff_not]at h3
    refine ze (congrArg RV.b (Eq.symm ?_))
    rw[decide_eq_false_iff_not]
    intro e
    subst e
    exact h3 rfl
  ·simp only[zb]at h
   refine ze (congrArg RV.b (Eq.symm ?_))
   rw[decide_eq_true_eq,<-List.take_of_length_le (show a.length<=i by omega),he,List.take_of_length_le (by omega)]
 ·refine zq (by simp only[zb];omega) (zo ?_)
  refine ze (congrArg RV.b (Eq.symm ?_))
  rw[decide_eq_false_iff_not]
  exactλe=>hlen (by rw[e])
theorem zp1(lf:Leaf)(hlf:lf.fit)(hlr:lf.right=true)(kR gR:RV)(nn:Int)
  (hplay:zab Tryz.prog 30 [nl] (.r (.tu [.ptr [nods [L1 lf],kR,gR,I nn], .b true]))):
  zab Tryz.prog 7 [] (.r (.b true)):=by
 refine zaa (T:=Tab) mixed Tab_ok Tryz.func7 rfl (by kernel_rfl) ?_
 have hl: ∀x∈[L1 lf],∀u∈x.par.late,i64 u:=λx hx u hu=>by
  rw[List.mem_singleton.1 hx]at hu
  cases hu
 have hs:=zzc [L1 lf] [L1 lf] (show 1<=1000000 by decide) (show 1<=1000000 by decide) hl hl
 rw[decide_eq_true rfl]at hs
 refine zd hplay ?_
 refine zt rfl (zp ?_)
 refine zf rfl ?_
 refine zd (zy4 lf hlf hlr) ?_
 refine Vdraw.mk' (by kernel_rfl) ?_
 refine zc (m:=0) rfl (by decide) ?_
 refine zq rfl ?_
 refine zf rfl ?_
 refine zd hs ?_
 exact cr
theorem zv5:zab Tryz.prog 7 [] (.r (.b true)):=by
 have hp:=z2c
 obtain⟨h1,h2,h3,h4,h5,h6⟩:=zlu 0
 obtain⟨lf,hq⟩: ∃lf,lf=zce 0:=⟨_,rfl⟩
 rw[<-hq]at h1 h2 h3 h4 h5 h6
 have hf:lf.fit:=⟨by omega,by omega,by omega,by omega,by omega⟩
 have hr:lf.right=true:=by
  unfold Leaf.right
  exact decide_eq_true ⟨h1,h2,by omega,by omega,by omega,by omega, .inl h5,h6⟩
 unfold zlv at hp
 rw[<-hq]at hp
 exact zp1 lf hf hr _ _ _ hp
end
section
theorem zy0{P:Program}{f:FuncId}{ps qs:List RV}{res:Res}(c:Cvs ps qs)(h:zab P f qs res):zab P f ps res:=⟨h.1,λw k vs hp=>h.2 w k vs (c.at_ hp)⟩
abbrev boxS:ByteArray:=⟨#[98,111,120]⟩
section
variable (l:Leaf) (seed sig group x p q:List UInt8) (at_:Int) (hs:seed.length=32)
 (c1:zab Tryz.prog 48 [bs seed,Str boxS] (.r (bs x))) (c2:zab Tryz.prog 47 [bs x] (.r (.tu [bs p,bs q])))
include hs c1 c2
end
def zi8(l:Leaf):Bool:=decide (l.box.length<=200/\l.sign.length<=200/\l.ident.length<=200/\l.parent.length<=200/\l.sig.length<=200)
theorem zqe(l:Leaf):zab Tryz.prog 13 [.ag [.i .u8 0,bs l.box,bs l.sign,bs l.ident,U8 l.src,bs l.parent,bs l.sig,nl,nl,nl]] (.r (.b (zi8 l))):=by
 have h:=zv1 ⟨0,l,zpr⟩
 have e:(⟨0,l,zpr⟩:Node).small=zi8 l:=by
  unfold Node.small zi8
  rw[Bool.eq_iff_iff]
  simp only[decide_eq_true_eq]
  constructor
  ·rintro⟨a,b,c,d,e,_⟩;exact⟨a,b,c,d,e⟩
  ·rintro⟨a,b,c,d,e⟩;exact⟨a,b,c,d,e,Nat.zero_le _,Nat.zero_le _,Nat.zero_le _⟩
 rw[e]at h
 exact zy0 (zj (Cv.ag (zj (cr) (zj (cr) (zj (cr) (zj (cr) (zj (cr) (zj (cr) (zj (cr) (zj (Cv.nil 1) (zj (Cv.nil 1) (zj (Cv.nil 1) Cvs.nil))))))))))) Cvs.nil) h
section
variable (l:Leaf) (seed sig group:List UInt8) (at_:Int) (hal:zab Tryz.prog 7 [] (.r (.b true)))
include hal
variable (p q:List UInt8) (hs:seed.length=32)
 (c4:zab Tryz.prog 16 [bs seed,Str boxS] (.r (.tu [bs p,bs q])))
include hs c4
end
end
section
abbrev zo6:ByteArray:=⟨#[105,110,105,116]⟩
abbrev zpf:ByteArray:=⟨#[115,105,103,110]⟩
abbrev zPk:List RV:=[nl,nl,nl,nl, .i .u8 0,nl,nl,nl]
def zfq(a b c:List UInt8):RV:= .ag [bs a,bs b,bs c]
def zb8(box sign ident:List UInt8):Leaf:=⟨box,sign,ident,1,[],[]⟩
section
variable (ident seed x1 p1 q1 x2 p2 q2 sg pk:List UInt8) (hs:seed.length=32)
 (c1:zab Tryz.prog 48 [bs seed,Str zo6] (.r (bs x1))) (c2:zab Tryz.prog 47 [bs x1] (.r (.tu [bs p1,bs q1])))
 (c3:zab Tryz.prog 48 [bs seed,Str boxS] (.r (bs x2))) (c4:zab Tryz.prog 47 [bs x2] (.r (.tu [bs p2,bs q2])))
 (c5:zab Tryz.prog 48 [bs seed,Str zpf] (.r (bs sg))) (c6:zab Tryz.prog 22 [bs sg] (.r (.tu [bs pk,Er 0])))
include hs c1 c2 c3 c4 c5 c6
set_option maxHeartbeats 2000000 in
theorem zp7(z tx s2:List UInt8)(o:Leaf)(hz:zS64=z)
  (c7:zab Tryz.prog 17 [.ag (zb8 q2 pk ident).c,bs sg,bs [],I 0] (.r (.tu [.ag o.c,Er 0])))
  (c8:zab Tryz.prog 54 [.ag (PackP.c ⟨q1,o,z⟩)] (.r (.tu [bs tx,Er 0])))
  (c9:zab Tryz.prog 23 [bs sg,Str kpS,bs tx] (.r (.tu [bs s2,Er 0]))):
  zab Tryz.prog 19 [bs ident,bs seed] (.r (.tu [.ag (PackP.c ⟨q1,o,s2⟩),zfq p1 p2 sg,Er 0])):=by
 refine zaa (T:=Tab) mixed Tab_ok Tryz.func19 rfl (by kernel_rfl) ?_
 have hzl:64=z.length:=by rw[<-hz];decide
 refine zt (by simp only[zb];omega) (zp ?_)
 refine zd c1 ?_
 refine zd c2 ?_
 refine zd c3 ?_
 refine zd c4 ?_
 refine zd c5 ?_
 refine zd c6 ?_
 refine za rfl rfl ?_
 refine Vcall.mk' c7 (zj (Cv.ag (zj (cr) (zj (cr) (zj (cr) (zj (cr) (zj (Cv.nil 1) (zj (Cv.nil 1) Cvs.nil))))))) (zj (cr) (zj (Cv.nil 1) (zm _)))) ?_
 refine zt rfl (zp ?_)
 refine Vdraw.mk' (by kernel_rfl) ?_
 refine za rfl rfl ?_
 refine⟨rfl,by decide,by decide,by decide,z.length,z.map U8,hzl,by rw[zgb,hz],zu ?_⟩
 refine za rfl rfl ?_
 refine zd c8 ?_
 refine zd c9 ?_
 refine Vdraw.mk' (by kernel_rfl) ?_
 refine za rfl rfl ?_
 refine za rfl rfl ?_
 refine za rfl rfl ?_
 refine za rfl rfl ?_
 exact⟨_,rfl,cr⟩
set_option maxHeartbeats 2000000 in
theorem zot(e:Nat)(he:e≠0)(he2:e<256)
  (c7:zab Tryz.prog 17 [.ag (zb8 q2 pk ident).c,bs sg,bs [],I 0] (.r (.tu [.ag zl.c,Er e]))):
  zab Tryz.prog 19 [bs ident,bs seed] (.r (.tu [.ag zPk, .ag [nl,nl,nl],Er e])):=by
 refine zaa (T:=Tab) mixed Tab_ok Tryz.func19 rfl (by kernel_rfl) ?_
 refine zt (by simp only[zb];omega) (zp ?_)
 refine zd c1 ?_
 refine zd c2 ?_
 refine zd c3 ?_
 refine zd c4 ?_
 refine zd c5 ?_
 refine zd c6 ?_
 refine za rfl rfl ?_
 refine Vcall.mk' c7 (zj (Cv.ag (zj (cr) (zj (cr) (zj (cr) (zj (cr) (zj (Cv.nil 1) (zj (Cv.nil 1) Cvs.nil))))))) (zj (cr) (zj (Cv.nil 1) (zm _)))) ?_
 refine zq (by simp only[zb];omega) (zo ?_)
 refine za rfl rfl ?_
 refine za rfl rfl ?_
 exact⟨_,rfl,cr⟩
end
structure PkgV where
 init:List UInt8
 leaf:Leaf
 sig:List UInt8
 a:List UInt8
 b:List UInt8
 c:List UInt8
structure PkgV.ok (v:PkgV):Prop where
 init:v.init.length=32
 box:v.leaf.box.length=32
 sign:v.leaf.sign.length=32
 ident:v.leaf.ident.length<=64
 parent:v.leaf.parent.length=0
 lsig:v.leaf.sig.length=64
 sig:v.sig.length=64
 c:v.c.length=32
theorem zwb(ident seed:List UInt8)(hs:seed.length=32)(hi:ident.length<=64):
  (ident.length=0/\zab Tryz.prog 19 [bs ident,bs seed] (.r (.tu [.ag zPk, .ag [nl,nl,nl],Er 3])))\/
  (ident.length≠0/\∃v:PkgV,v.ok/\zab Tryz.prog 19 [bs ident,bs seed] (.r (.tu [.ag (PackP.c ⟨v.init,v.leaf,v.sig⟩),zfq v.a v.b v.c,Er 0]))):=by
 have c1:=zku seed zo6 (by omega) (by decide)
 have h1:=zkw seed (sB zo6) [] (n:=32) (by omega)
 generalize labB seed (sB zo6) [] 32=x1 at c1 h1
 have c2:=zm7 x1 (by omega)
 have k1:=zi0 x1
 generalize zdq x1=p1 at c2 k1
 have e1:=zeh p1
 generalize zf3 p1=q1 at c2 e1
 have c3:=zku seed boxS (by omega) (by decide)
 have h2:=zkw seed (sB boxS) [] (n:=32) (by omega)
 generalize labB seed (sB boxS) [] 32=x2 at c3 h2
 have c4:=zm7 x2 (by omega)
 have k2:=zi0 x2
 generalize zdq x2=p2 at c4 k2
 have e2:=zeh p2
 generalize zf3 p2=q2 at c4 e2
 have c5:=zku seed zpf (by omega) (by decide)
 have h3:=zkw seed (sB zpf) [] (n:=32) (by omega)
 generalize labB seed (sB zpf) [] 32=sg at c5 h3
 have c6:=ziq sg h3
 have e3:=zf9 sg
 generalize pubS sg=pk at c6 e3
 have c7:=zl3 (zb8 q2 pk ident) sg [] 0 ⟨by show q2.length<=_;omega,by show pk.length<=_;omega,by show ident.length<=_;omega,by show 0<=_;omega,by show 0<=_;omega⟩ (by decide) (by show q2.length+pk.length+ident.length+0<=_;omega) (by unfold i64;omega)
 have hr:((zb8 q2 pk ident).with zS64).right=decide (0<ident.length):=by
  unfold Leaf.right
  refine decide_eq_decide.2 ⟨λh=>h.2.2.1,λh=>⟨e2,e3,h,hi,by show 0< (1:UInt8).toNat;decide,by show(1:UInt8).toNat<4;decide, .inl rfl,rfl⟩⟩
 have ht:zc2 (zb8 q2 pk ident) 0=true:=rfl
 by_cases hz:ident.length=0
 ·refine .inl ⟨hz,?_⟩
  have he:zdh (zb8 q2 pk ident) sg 0=3:=by
   unfold zdh
   rw[hr,decide_eq_false (by omega)]
   rfl
  rw[zgl,he,if_neg (by decide)]at c7
  exact zot ident seed x1 p1 q1 x2 p2 q2 sg pk hs c1 c2 c3 c4 c5 c6 3 (by decide) (by decide) c7
 ·refine .inr ⟨hz,?_⟩
  have he:zdh (zb8 q2 pk ident) sg 0=0:=by
   unfold zdh
   rw[hr,decide_eq_true (by omega),if_pos rfl,if_pos ht,if_pos h3]
  rw[zgl,if_pos he]at c7
  have hol:(slOk (zb8 q2 pk ident) sg [] 0).right=true:=by
   unfold Leaf.right
   refine decide_eq_true ⟨e2,e3,by show 0<ident.length;omega,hi,by show 0< (1:UInt8).toNat;decide,by show(1:UInt8).toNat<4;decide, .inl rfl,zcu _ _ _⟩
  have hsh:(slOk (zb8 q2 pk ident) sg [] 0).box.length=32/\(slOk (zb8 q2 pk ident) sg [] 0).sign.length=32/\(slOk (zb8 q2 pk ident) sg [] 0).ident.length<=64/\(slOk (zb8 q2 pk ident) sg [] 0).src=1/\(slOk (zb8 q2 pk ident) sg [] 0).parent.length=0/\(slOk (zb8 q2 pk ident) sg [] 0).sig.length=64:=⟨e2,e3,hi,rfl,rfl,zcu _ _ _⟩
  generalize slOk (zb8 q2 pk ident) sg [] 0=o at c7 hol hsh
  obtain⟨o1,o2,o3,o4,o5,o6⟩:=hsh
  have hzl:zS64.length=64:=by decide
  have hf:PackP.fit ⟨q1,o,zS64⟩:=⟨by show q1.length<=_;omega,⟨by show o.box.length<=_;omega,by show o.sign.length<=_;omega,by show o.ident.length<=_;omega,by show o.parent.length<=_;omega,by show o.sig.length<=_;omega⟩,by show zS64.length<=_;omega⟩
  have c8:=zl0 ⟨q1,o,zS64⟩ hf
  have hpr:PackP.right ⟨q1,o,zS64⟩=true:=by
   unfold PackP.right
   rw[show(PackP.mk q1 o zS64).leaf=o from rfl,hol,o4]
   show(decide (q1.length=32)&&(true&&decide ((1:UInt8)=1)&&decide (zS64.length=64)))=true
   rw[decide_eq_true e1,decide_eq_true hzl]
   rfl
  have htl:(zbv ⟨q1,o,zS64⟩).length<=500000000:=by
   have hv:=zam q1
   have hL:=zew o
   simp only[zbv,List.length_append,zar]
   omega
  rw[hpr]at c8
  generalize zbv ⟨q1,o,zS64⟩=tx at c8 htl
  have c9:=zm8 sg kpS tx h3 (by decide) htl
  have hs2:=zcu sg (sB kpS) tx
  generalize zo8 sg (sB kpS) tx=s2 at c9 hs2
  exact⟨⟨q1,o,s2,p1,p2,sg⟩,⟨e1,o1,o2,o3,o5,o6,hs2,h3⟩,zp7 ident seed x1 p1 q1 x2 p2 q2 sg pk hs c1 c2 c3 c4 c5 c6 zS64 tx s2 o rfl c7 c8 c9⟩
end
section
structure PackP.sm (p:PackP):Prop where
 init:p.init.length<=1000
 box:p.leaf.box.length<=1000
 sign:p.leaf.sign.length<=1000
 ident:p.leaf.ident.length<=1000
 parent:p.leaf.parent.length<=1000
 lsig:p.leaf.sig.length<=1000
 sig:p.sig.length<=1000
theorem PackP.sm.fit{p:PackP}(h:p.sm):p.fit:=by
 obtain⟨h1,h2,h3,h4,h5,h6,h7⟩:=h
 exact⟨by omega,⟨by omega,by omega,by omega,by omega,by omega⟩,by omega⟩
theorem PackP.sm.sum{p:PackP}(h:p.sm):p.leaf.box.length+p.leaf.sign.length+p.leaf.ident.length+p.leaf.parent.length+p.leaf.sig.length<=100000:=by
 obtain⟨h1,h2,h3,h4,h5,h6,h7⟩:=h
 omega
theorem PackP.sm.text{p:PackP}(h:p.sm):(zbv p).length<=500000000:=by
 obtain⟨h1,h2,h3,h4,h5,h6,h7⟩:=h
 have hv:=zam p.init
 have hL:=zew p.leaf
 simp only[zbv,List.length_append,zar]
 omega
def dbl:TT->TT
 |[]=>[]
 |x::r=>x::x::r
theorem zvq{P:Program}: ∀{T:TT},TOk P T->TOk P (dbl T)
 |[],h=>h
 |x::r,h=>λti hti=>h ti (by simpa[dbl]using hti)
section
variable (q:PackP) (a b sg tx s2:List UInt8) (how at_:UInt8)
theorem zwn(h:how.toNat%6=0)
  (c8:zab Tryz.prog 24 [.ag q.c] (.r (bs tx)))
  (c9:zab Tryz.prog 23 [bs sg,Str kpS,bs tx] (.r (.tu [bs s2,Er 0]))):
  zab Tryz.prog 28 [.ag q.c,zfq a b sg,U8 how,U8 at_] (.r (.ag (PackP.c {q with sig:=s2}))):=by
 refine zaa (T:=Tab) mixed Tab_ok Tryz.func28 rfl (by kernel_rfl) ?_
 refine Vrem.nat how.toNat 6 rfl rfl (by decide) ?_
 rw[h]
 refine zt rfl (zp (zt rfl (zp (zt rfl (zp (zt rfl (zp (zt rfl (zp ?_)))))))))
 refine Vdraw.mk' (by kernel_rfl) ?_
 refine za rfl rfl ?_
 refine zd c8 ?_
 refine zd c9 ?_
 refine za rfl rfl ?_
 refine za rfl rfl ?_
 exact cr
theorem zwo(h:how.toNat%6=1)
  (c8:zab Tryz.prog 24 [.ag (PackP.c {q with init:=q.leaf.box})] (.r (bs tx)))
  (c9:zab Tryz.prog 23 [bs sg,Str kpS,bs tx] (.r (.tu [bs s2,Er 0]))):
  zab Tryz.prog 28 [.ag q.c,zfq a b sg,U8 how,U8 at_] (.r (.ag (PackP.c {q with init:=q.leaf.box,sig:=s2}))):=by
 refine zaa (T:=Tab) mixed Tab_ok Tryz.func28 rfl (by kernel_rfl) ?_
 refine Vrem.nat how.toNat 6 rfl rfl (by decide) ?_
 rw[h]
 refine zq rfl (zo ?_)
 refine Vdraw.mk' (by kernel_rfl) ?_
 refine za rfl rfl ?_
 refine zd c8 ?_
 refine zd c9 ?_
 refine za rfl rfl ?_
 refine za rfl rfl ?_
 exact cr
theorem zwp(h:how.toNat%6=2)
  (c8:zab Tryz.prog 24 [.ag (PackP.c {q with leaf:={q.leaf with ident:=[at_]}})] (.r (bs tx)))
  (c9:zab Tryz.prog 23 [bs sg,Str kpS,bs tx] (.r (.tu [bs s2,Er 0]))):
  zab Tryz.prog 28 [.ag q.c,zfq a b sg,U8 how,U8 at_] (.r (.ag (PackP.c {q with leaf:={q.leaf with ident:=[at_]},sig:=s2}))):=by
 refine zaa (T:=Tab) mixed Tab_ok Tryz.func28 rfl (by kernel_rfl) ?_
 refine Vrem.nat how.toNat 6 rfl rfl (by decide) ?_
 rw[h]
 refine zt rfl (zp (zq rfl (zo ?_)))
 refine zu ?_
 refine Vdraw.mk' (by kernel_rfl) ?_
 refine za rfl rfl ?_
 refine zd c8 ?_
 refine zd c9 ?_
 refine za rfl rfl ?_
 refine za rfl rfl ?_
 exact cr
theorem zwq(h:how.toNat%6=3)(hs:q.sig.length=64):
  zab Tryz.prog 28 [.ag q.c,zfq a b sg,U8 how,U8 at_] (.r (.ag (PackP.c {q with sig:=q.sig.set (at_.toNat%64) (q.sig.getD (at_.toNat%64) 0^^^1)}))):=by
 refine zaa (T:=dbl Tab) mixed (zvq Tab_ok) Tryz.func28 rfl (by kernel_rfl) ?_
 have hlt:=at_.toNat_lt
 have hk:at_.toNat%64<q.sig.length:=by omega
 have zs:q.sig.length<=1152921504606846976:=by omega
 refine Vrem.nat how.toNat 6 rfl rfl (by decide) ?_
 rw[h]
 refine zt rfl (zp (zt rfl (zp (zq rfl (zo ?_)))))
 refine Vpub.own ?_
 refine Vapp.mk' (j:=q.sig.length) (zs:=q.sig.map U8) (by simp only[maxLen];omega) (by show(0+q.sig.length)*1<=_;omega) (by omega) rfl ?_
 refine zc (m:=(at_.toNat:Int)) rfl (by omega) ?_
 refine Vrem.nat at_.toNat 64 rfl rfl (by decide) ?_
 generalize at_.toNat%64=k at hk
 refine Vadr.mk' k rfl (by omega) ?_
 refine zf ((congrArg ((q.sig.map U8)[·]?) (Nat.mul_one k)).trans (zcw hk)) ?_
 refine Vbits.xor8 (q.sig.getD k 0) 1 rfl rfl ?_
 refine Vadr.mk' k rfl (by omega) ?_
 refine⟨by show k*1+1<=(q.sig.map U8).length;rw[List.length_map];omega,(q.sig.set k (q.sig.getD k 0^^^1)).map U8,by rw[Nat.mul_one];exact zbj hk,?_⟩
 refine Vcode.sub mixed (zvq Tab_ok) (zbe (id:=4) rfl) ?_
 refine za rfl rfl ?_
 refine za rfl rfl ?_
 exact ze (by simp[bs])
theorem zwr(h:how.toNat%6=4):
  zab Tryz.prog 28 [.ag q.c,zfq a b sg,U8 how,U8 at_] (.r (.ag (PackP.c {q with init:=zbh at_.toNat}))):=by
 refine zaa (T:=Tab) mixed Tab_ok Tryz.func28 rfl (by kernel_rfl) ?_
 have hlt:=at_.toNat_lt
 refine Vrem.nat how.toNat 6 rfl rfl (by decide) ?_
 rw[h]
 refine zt rfl (zp (zt rfl (zp (zt rfl (zp (zq rfl (zo ?_)))))))
 refine zc (m:=(at_.toNat:Int)) rfl (by omega) ?_
 refine zd (zwj at_.toNat (by omega)) ?_
 refine za rfl rfl ?_
 refine za rfl rfl ?_
 exact cr
theorem zws(h:how.toNat%6=5)
  (c8:zab Tryz.prog 24 [.ag (PackP.c {q with leaf:={q.leaf with src:=UInt8.ofNat (at_.toNat%4)}})] (.r (bs tx)))
  (c9:zab Tryz.prog 23 [bs sg,Str kpS,bs tx] (.r (.tu [bs s2,Er 0]))):
  zab Tryz.prog 28 [.ag q.c,zfq a b sg,U8 how,U8 at_] (.r (.ag (PackP.c {q with leaf:={q.leaf with src:=UInt8.ofNat (at_.toNat%4)},sig:=s2}))):=by
 refine zaa (T:=Tab) mixed Tab_ok Tryz.func28 rfl (by kernel_rfl) ?_
 have hm:((at_.toNat%4:Nat):Int)=((UInt8.ofNat (at_.toNat%4)).toNat:Int):=by
  rw[UInt8.toNat_ofNat']
  omega
 refine Vrem.nat how.toNat 6 rfl rfl (by decide) ?_
 rw[h]
 refine zt rfl (zp (zt rfl (zp (zt rfl (zp (zt rfl (zp (zq rfl (zo ?_)))))))))
 refine Vrem.nat at_.toNat 4 rfl rfl (by decide) ?_
 rw[hm]
 refine Vdraw.mk' (by kernel_rfl) ?_
 refine za rfl rfl ?_
 refine zd c8 ?_
 refine zd c9 ?_
 refine za rfl rfl ?_
 refine za rfl rfl ?_
 exact cr
end
theorem PackP.sm.resig{p:PackP}(h:p.sm)(s:List UInt8)(hs:s.length=64):PackP.sm {p with sig:=s}:=by
 obtain⟨h1,h2,h3,h4,h5,h6,h7⟩:=h
 exact⟨h1,h2,h3,h4,h5,h6,by show s.length<=1000;omega⟩
theorem zzf(q:PackP)(a b sg:List UInt8)(how at_:UInt8)(hq:q.sm)(hs:q.sig.length=64)(hc:sg.length=32):
  ∃q':PackP,q'.sm/\zab Tryz.prog 28 [.ag q.c,zfq a b sg,U8 how,U8 at_] (.r (.ag q'.c)):=by
 have hq':=hq
 obtain⟨h1,h2,h3,h4,h5,h6,h7⟩:=hq'
 have lab:=λ(t:List UInt8) (ht:t.length<=500000000)=>zm8 sg kpS t hc (by decide) ht
 rcases(by omega:how.toNat%6=0\/how.toNat%6=1\/how.toNat%6=2\/how.toNat%6=3\/how.toNat%6=4\/how.toNat%6=5)with h |h |h |h |h |h
 ·exact⟨_,hq.resig _ (zcu _ _ _),zwn q a b sg _ _ how at_ h (zdl q hq.fit) (lab _ hq.text)⟩
 ·have k:PackP.sm {q with init:=q.leaf.box}:=⟨h2,h2,h3,h4,h5,h6,h7⟩
  exact⟨_,k.resig _ (zcu _ _ _),zwo q a b sg _ _ how at_ h (zdl _ k.fit) (lab _ k.text)⟩
 ·have k:PackP.sm {q with leaf:={q.leaf with ident:=[at_]}}:=⟨h1,h2,h3,by show 1<=1000;decide,h5,h6,h7⟩
  exact⟨_,k.resig _ (zcu _ _ _),zwp q a b sg _ _ how at_ h (zdl _ k.fit) (lab _ k.text)⟩
 ·exact⟨_,hq.resig _ (by rw[List.length_set];exact hs),zwq q a b sg how at_ h hs⟩
 ·exact⟨{q with init:=zbh at_.toNat},⟨by show(zbh at_.toNat).length<=1000;rw[zfi];decide,h2,h3,h4,h5,h6,h7⟩,zwr q a b sg how at_ h⟩
 ·have k:PackP.sm {q with leaf:={q.leaf with src:=UInt8.ofNat (at_.toNat%4)}}:=⟨h1,h2,h3,h4,h5,h6,h7⟩
  exact⟨_,k.resig _ (zcu _ _ _),zws q a b sg _ _ how at_ h (zdl _ k.fit) (lab _ k.text)⟩
def zhg(p:PackP):Bool:=decide (p.init.length<=100)&&(decide (p.sig.length<=100)&&zi8 p.leaf)
theorem zwm(p:PackP):zab Tryz.prog 27 [.ag p.c] (.r (.b (zhg p))):=by
 refine zaa (T:=Tab) mixed Tab_ok Tryz.func27 rfl (by kernel_rfl) ?_
 refine zg (λk1=>?_) (λk1=>?_)
 ·simp only[zb]at k1
  refine zg (λk2=>?_) (λk2=>?_)
  ·simp only[zb]at k2
   refine za rfl rfl ?_
   refine zd (zqe p.leaf) ?_
   exact ze (by unfold zhg;rw[decide_eq_true (by omega),decide_eq_true (by omega)];rfl)
  ·simp only[zb]at k2
   exact ze (by unfold zhg;rw[decide_eq_true (by omega),decide_eq_false (p:=p.sig.length<=100) (by omega)];rfl)
 ·simp only[zb]at k1
  exact ze (by unfold zhg;rw[decide_eq_false (by omega)];rfl)
theorem zxr{p:PackP}(h:zhg p=true):p.sm:=by
 simp only[zhg,zi8,Bool.and_eq_true,decide_eq_true_eq]at h
 obtain⟨h1,h2,h3,h4,h5,h6,h7⟩:=h
 exact⟨by omega,by omega,by omega,by omega,by omega,by omega,by omega⟩
theorem zqb(p:PackP)(ident seed:List UInt8)(how at_:UInt8):zab Tryz.prog 6 [.ag p.c,bs ident,bs seed,U8 how,U8 at_] (.r (.b true)):=by
 refine zaa (T:=Tab) mixed Tab_ok Tryz.func6 rfl (by kernel_rfl) ?_
 refine zd zv5 ?_
 refine zt rfl (zp ?_)
 refine za rfl rfl ?_
 refine zy (zwm p) (λk0=>zt rfl ?_) (λk0=>zq rfl (zo (cr)))
 refine zg (λk1=>zo (cr)) (λk1=>?_)
 refine zg (λk2=>zo (cr)) (λk2=>zp ?_)
 simp only[zb]at k1 k2
 have kp:=zxr k0
 rcases zwb ident seed (by omega) (by omega)with⟨e0,c⟩ |⟨e0,v,hv,c⟩
 ·refine zd c ?_
  refine zc (m:=3) rfl (by decide) ?_
  refine zq rfl (zo ?_)
  refine zq (by simp only[zb];omega) ?_
  exact cr
 ·obtain⟨q,qs,d⟩:=zzf ⟨v.init,v.leaf,v.sig⟩ v.a v.b v.c how at_ ⟨by have:=hv.init;show v.init.length<=1000;omega,by have:=hv.box;show v.leaf.box.length<=1000;omega,by have:=hv.sign;show v.leaf.sign.length<=1000;omega,by have:=hv.ident;show v.leaf.ident.length<=1000;omega,by have:=hv.parent;show v.leaf.parent.length<=1000;omega,by have:=hv.lsig;show v.leaf.sig.length<=1000;omega,by have:=hv.sig;show v.sig.length<=1000;omega⟩ hv.sig hv.c
  have hp1:=zqa p kp.fit kp.sum
  have hp2:=zp3 p kp.fit kp.sum
  generalize zcb p=β at hp1 hp2
  have hq1:=zqa q qs.fit qs.sum
  have hq2:=zp3 q qs.fit qs.sum
  generalize zcb q=γ at hq1 hq2
  refine zd c ?_
  refine zc (m:=0) rfl (by decide) ?_
  refine zt rfl (zp ?_)
  refine za rfl rfl ?_
  refine za rfl rfl ?_
  refine zd d ?_
  refine Vdraw.mk' (by kernel_rfl) ?_
  refine za rfl rfl ?_
  refine zd hp1 ?_
  refine za rfl rfl ?_
  refine zd hp2 ?_
  refine zq (by cases β<;>rfl) ?_
  refine za rfl rfl ?_
  refine zd hq1 ?_
  refine za rfl rfl ?_
  refine zd hq2 ?_
  refine zq (by cases γ<;>rfl) ?_
  exact cr
end
section
open Go.ChangeShapes Go.WideShapes Go.ChangeAt Go.RowKit
def propsHoldsC0:List Nat:=[6,7,30,73,138,71,140,139,47,97,168,169,225,269,268,130,196,313,344,176,345,346,378,380,396,379,96,107,177,167,50,103,104,175,186,102,173,174,228,172,227,123,190,116,184,199,185,189,117,188,230,272,316,273,187,22,57,118,122,192,191,231,127,119]
def propsHoldsC1:List Nat:=[59,126,129,195,232,233,235,234,274,236,275,276,317,128,193,194,197,198,238,237,277,58,120,121,124,125,60,17,51,105,52,53,106,108,178,229,23,62,61,132,131,133,141,87,32,76,145,209,258,259,77,146,210,260,261,262,211,78,147,212,148,79,149,213]
def propsHoldsC2:List Nat:=[214,150,215,263,151,216,264,217,158,221,35,82,156,161,163,222,223,266,312,74,92,142,86,159,152,160,162,85,143,204,207,256,255,303,224,267,304,340,377,307,166,305,306,90,308,309,257,310,341,113,342,343,67,135,114,183,134,226,270,271,314,315,240,278]
def propsHoldsC3:List Nat:=[294,333,334,362,390,386,329,363,322,351,352,387,353,335,364,336,354,325,357,324,355,388,356,339,375,376,389,405,406,418,407,392,393,408,419,420,423,409,410,411,412,311,326,358,243,285,327,249,295,286,328,359,360,279,48,98,297,280,246,252,254,300,338,367]
def propsHoldsC4:List Nat:=[368,391,369,370,394,395,413,371,372,373,374,301,302,247,291,290,241,245,288,289,331,265,69,330,361,287,282,281,319,318,347,381,397,414,398,382,348,349,383,384,399,400,415,421,422,416,417,385,401,402,403,404,205,242,283,320,350,321,323,284,244,68,70,136]
def propsHoldsC5:List Nat:=[200,239,201,203,202,206,248,292,332,293,250,253,299,298,296,337,365,366,251,18,208,75,15,46,144,10,33,80,34,81,153,110,179,218,219,220,154,155,112,180,181,182,109,26,54,111,36,83,157,84,37,38,31,27,13,19,28,24,65,64,66,63,29,72]
def propsHoldsC6:List Nat:=[137,164]
def propsHoldsC:List Nat:=propsHoldsC0++(propsHoldsC1++(propsHoldsC2++(propsHoldsC3++(propsHoldsC4++(propsHoldsC5++(propsHoldsC6))))))
theorem zez:Tryz.prog.closure 6=propsHoldsC:=by rw[zvm];kernel_rfl
noncomputable def propsHoldsIn (g:Nat):Option String:=(Tryz.prog.funcs[g]?).bind λfn=>if fn.ours||fn.body.isNone||fn.name== "runtime.NumGoroutine" then some fn.name else none
theorem zox:(Rows.propsHoldsRow.inPlace==Tryz.prog.inPlace 6)=true:=by
 unfold Program.inPlace
 rw[zez]
 have h:propsHoldsC.filterMap propsHoldsIn=Rows.propsHoldsRow.inPlace:=by kernel_rfl
 exact beq_iff_eq.2 h.symm
theorem zid:Tryz.prog.unfollowed 6=true:=by
 unfold Program.unfollowed
 rw[zez]
 exact List.any_eq_true.2 ⟨174,List.contains_iff_mem.1 (by kernel_rfl),by kernel_rfl⟩
theorem znn:(Rows.propsHoldsRow.unfollowed==Tryz.prog.unfollowed 6)=true:=by rw[zid];rfl
theorem znm:(Rows.propsHoldsRow.recurses==Tryz.prog.recurses 6)=true:=by unfold Program.recurses;rw[zid];rfl
noncomputable def propsHoldsGn (g:Nat):List Nat:=((Tryz.prog.funcs[g]?).bind (·.body)).elim [] Code.globalsNamed
theorem znf:propsHoldsC0.flatMap propsHoldsGn=[]:=by kernel_rfl
theorem zng:propsHoldsC1.flatMap propsHoldsGn=[]:=by kernel_rfl
theorem znh:propsHoldsC2.flatMap propsHoldsGn=[]:=by kernel_rfl
theorem zni:propsHoldsC3.flatMap propsHoldsGn=[]:=by kernel_rfl
theorem znj:propsHoldsC4.flatMap propsHoldsGn=[]:=by kernel_rfl
theorem znk:propsHoldsC5.flatMap propsHoldsGn=[]:=by kernel_rfl
theorem znl:propsHoldsC6.flatMap propsHoldsGn=[]:=by kernel_rfl
theorem zow:propsHoldsC.flatMap propsHoldsGn=[]:=by simp only[propsHoldsC,List.flatMap_append,znf,zng,znh,zni,znj,znk,znl,List.append_nil]
theorem zoy:(Rows.propsHoldsRow.named==Tryz.prog.varsNamed 6)=true:=by
 unfold Program.varsNamed
 rw[zez]
 have h:(propsHoldsC.filterMap λg=>(Tryz.prog.funcs[g]?).bind λfn=>if fn.body.isNone then entryReads.lookup fn.name else none)=[]:=by kernel_rfl
 have k:(propsHoldsC.flatMap λg=>((Tryz.prog.funcs[g]?).bind (·.body)).elim [] Code.globalsNamed)=[]:=zow
 rw[h,k];rfl
theorem zj2:joinedFacts Tryz.prog 6 Tryz.f6 Rows.propsHoldsSpec Rows.propsHoldsRow=true:=by
 unfold joinedFacts
 repeat' with_reducible apply andI
 all_goals first
  |with_reducible exact zl5
  |with_reducible exact zup
  |with_reducible exact zsf
  |with_reducible exact zox
  |with_reducible exact znn
  |with_reducible exact znm
  |with_reducible exact zoy
  |(rw[zun];kernel_rfl)
  |kernel_rfl
end
section
open Go.ChangeShapes Go.WideShapes Go.ChangeAt Go.RowKit
set_option maxRecDepth 100000 in
theorem zj3(os:Os)(started:os.Started)(H:Type)(enc:TypeId×Value->H):
  ReturnsInHanded {} Tryz.checked os 6 .any (Rows.propsHoldsSpec.pre6 enc Tryz.prog Tryz.f6 Rows.propsHoldsRow.domain false) (Rows.propsHoldsSpec.post enc Tryz.prog Tryz.f6 false true false false):=by
 refine returnsInHanded_of_change_sized (C:=Tryz.checked) zzx started (by kernel_rfl) Tryz.func6
  (ChangeSpec.witness6 (enc:=enc) (C:=Tryz.checked) false ⟨#[], #[.agg #[.slice none 0 0, .slice none 0 0, .slice none 0 0, .slice none 0 0, .int .u8 0, .slice none 0 0, .slice none 0 0, .slice none 0 0], .slice none 0 0, .slice none 0 0, .int .u8 0, .int .u8 0],[]⟩ 8 (by kernel_rfl) (by kernel_rfl) (by kernel_rfl) (by kernel_rfl)) ?_
 intro W base args ds gs before hval0 hW hcnd hsz0 _
 have hval: ∀(j:Nat) t v,Tryz.f6.params[j]?=some t->args[j]?=some v->Value.okWide Tryz.prog W .any base t v:=hval0
 have hW':=hW
 obtain⟨p,q,hA0,hV,rfl,hfz,hnd⟩:=hW
 have hA:DataW.TrodAll enc Tryz.prog W 0 (λ_=>true) true Tryz.f6.params.toList args.toList ds p:=hA0
 rw[Tryz.params6]at hA hval
 obtain⟨v0,vs0,d0,ds0,p0,q0,hargs,rfl,rfl,h0,r0⟩:=trodAll_cons hA
 obtain⟨v1,vs1,d1,ds1,p1,q1,rfl,rfl,rfl,h1,r1⟩:=trodAll_cons r0
 obtain⟨v2,vs2,d2,ds2,p2,q2,rfl,rfl,rfl,h2,r2⟩:=trodAll_cons r1
 obtain⟨v3,vs3,d3,ds3,p3,q3,rfl,rfl,rfl,h3,r3⟩:=trodAll_cons r2
 obtain⟨v4,vs4,d4,ds4,p4,q4,rfl,rfl,rfl,h4,r4⟩:=trodAll_cons r3
 obtain⟨rfl,rfl,rfl⟩:=trodAll_nil r4
 obtain rfl:args= #[v0,v1,v2,v3,v4]:=by cases args;simp_all
 obtain⟨rfl,rfl⟩:=trodVars_none hV
 obtain⟨a3,rfl,rfl,rfl,w3⟩:=open_int Tryz.underlying5 (hval 3 5 v3 rfl rfl) h3
 obtain⟨u3,e3⟩:=zx0 w3
 obtain⟨a4,rfl,rfl,rfl,w4⟩:=open_int Tryz.underlying5 (hval 4 5 v4 rfl rfl) h4
 obtain⟨u4,e4⟩:=zx0 w4
 have lt0: ∀x∈p0,x.block<W.heap.size:=by obtain⟨m,hm⟩:=h0;exact DataW.trod_lt m _ _ _ hm
 obtain⟨l0,hv0⟩:=z2z (hval 0 33 v0 rfl rfl) h0
 have lt1: ∀x∈p1,x.block<W.heap.size:=by obtain⟨m,hm⟩:=h1;exact DataW.trod_lt m _ _ _ hm
 obtain⟨l1,hv1⟩:=zpn (hval 1 25 v1 rfl rfl) h1
 have lt2: ∀x∈p2,x.block<W.heap.size:=by obtain⟨m,hm⟩:=h2;exact DataW.trod_lt m _ _ _ hm
 obtain⟨l2,hv2⟩:=zpn (hval 2 25 v2 rfl rfl) h2
 clear hA0 hval0 hsz0
 refine((zqb l0 l1 l2 u3 u4).2 W (allK W) [v0,v1,v2, .int .u8 a3, .int .u8 a4] (by simp only[RV.partsAt];exact⟨_,_,rfl,hv0,_,_,rfl,hv1,_,_,rfl,hv2,_,_,rfl,(by rw[<-e3];rfl),_,_,rfl,(by rw[<-e4];rfl),rfl⟩)).mono λe W' ⟨v,he,bel,k',_,hr⟩=>?_
 have hr':v= .bool true:=by simpa[Res.at_,RV.at_]using hr
 subst hr';subst he
 exact⟨_,rfl,_,_,_,[],_,[],hW',trodAll_mk1 (shut_bool Tryz.underlying4 _),(trodAll_cons_mk (Below.trod zkx (by kernel_rfl) (of_decide_eq_true (by kernel_rfl)) h0 bel lt0) (trodAll_cons_mk (Below.trod zkx (by kernel_rfl) (of_decide_eq_true (by kernel_rfl)) h1 bel lt1) (trodAll_cons_mk (Below.trod zkx (by kernel_rfl) (of_decide_eq_true (by kernel_rfl)) h2 bel lt2) (trodAll_cons_mk (shut_int Tryz.underlying5 w3) (trodAll_cons_mk (shut_int Tryz.underlying5 w4) trodAll_mk0))))),rfl,bel.frame _,λh=>by cases h⟩
theorem propsHolds_holds:Rows.PropsHoldsSaid:=
 OpenClaim.holds_of_wide 6 Tryz.f6 rfl rfl rfl rfl rfl rfl rfl ⟨rfl,rfl,rfl,rfl,rfl⟩ rfl rfl rfl rfl rfl (by kernel_rfl) Tryz.func6 zj2
  (of_decide_eq_true (by kernel_rfl)) (by unfold Func.isWrapper;first |(rw[if_pos (by decide+kernel)];kernel_rfl) |(rw[if_neg (by decide+kernel)];exact⟨rfl,rfl⟩))
  (λos started H enc _=>zj3 os started H enc)
#print axioms propsHolds_holds
end
end Go.Proofs.YtddokcpcpoihmaaGreat.Sx
