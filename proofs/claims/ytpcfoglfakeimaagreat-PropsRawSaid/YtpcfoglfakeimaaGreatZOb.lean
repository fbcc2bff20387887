import Derived.Test.YtpcfoglfakeimaaGreatZHc
import Derived.Test.YtpcfoglfakeimaaGreatZGo
import Derived.Test.YtpcfoglfakeimaaGreatZCg
import Derived.Test.YtpcfoglfakeimaaGreatZHb
import Derived.Test.YtpcfoglfakeimaaGreatZKf
import Derived.Test.YtpcfoglfakeimaaGreatZSxPt
import Derived.Test.YtpcfoglfakeimaaGreatZNx
import Derived.Test.YtpcfoglfakeimaaGreatZSxY
import Derived.Test.YtpcfoglfakeimaaGreatZNk
import Derived.Test.YtpcfoglfakeimaaGreatZSxU
import Derived.Test.YtpcfoglfakeimaaGreatZGg
import Derived.Maps.RangeRun
import Derived.Shelf.SlIterI.Nil
import Derived.Shelf.SortM.Plain
import Derived.Shelf.SortM.SortNone
import Derived.Ground.GgzProg
import Derived.Ground.SlgmProg
import Derived.WideShapes
import Derived.Test.YtpcfoglfakeimaaGreatZSxBr
import Derived.Test.YtpcfoglfakeimaaGreatZCf
namespace Go.Proofs.YtpcfoglfakeimaaGreat.Sx
open Go.RowKit
theorem zkh:Tryz.prog.underlying 62=some (.map 3 31):=by kernel_rfl
theorem zrs:(Tryz.prog.info? 31).bind (·.zero)=some (.agg #[.slice none 0 0, .slice none 0 0, .slice none 0 0, .int .u8 0, .slice none 0 0, .slice none 0 0]):=by kernel_rfl
abbrev zlC:List RV:=[nl,nl,nl, .i .u8 0,nl,nl]
theorem zrv(w:World)(k:Kp):(RV.ag zlC).at_ w k (.agg #[.slice none 0 0, .slice none 0 0, .slice none 0 0, .int .u8 0, .slice none 0 0, .slice none 0 0]):=by
 simp only[RV.at_,RV.listAt]
 exact⟨_,rfl,_,_,rfl,rfl,rfl,_,_,rfl,rfl,rfl,_,_,rfl,rfl,rfl,_,_,rfl,rfl,rfl,_,_,rfl,rfl,rfl,_,_,rfl,rfl,rfl,rfl⟩
section
variable (lf:Leaf) (hlf:lf.fit) (hlr:lf.right=true)
include hlf hlr in
theorem zyq:aG 15 [nods [L1 lf]] (.r (.s (mapS [(0, .ag lf.c)]))):=by
 refine za1 (T:=Tab) mixed Tab_ok Tryz.func15 rfl (by kernel_rfl) ?_
 refine Vcode.run Tab_ok ?_
 refine Vstep.mapMk 1000001 rfl λb=>?_
 refine ze (z1b lf hlf hlr) ?_
 refine Vloop.rounds 2 ?_
 refine Vrounds.step mixed Tab_ok ?_
 refine zu rfl (zq ?_)
 refine zm i00 i01 rfl (zg rfl ?_)
 refine zd (m:=0) rfl (by decide) ?_
 refine zm i00 i01 (idx0 lf) ?_
 refine za rfl rfl ?_
 refine Vstep.mapPut 0 1000001 rfl rfl rfl rfl rfl rfl rfl zkh zdv rfl ?_
 refine zd (m:=1) rfl (by decide) ?_
 refine Vrounds.step mixed Tab_ok ?_
 refine zw rfl (zt ?_)
 exact⟨_,zox (t:=2) (im:=0) (gh:=1000001) rfl rfl rfl,cr⟩
theorem zdkb(all g:RV):aG 16 [all,I 0,nl,g] (.r (.b true)):=by
 refine aT Tryz.func16 rfl ?_
 refine Vcode.scope mixed Tab_ok 0 (λ_:Unit=>⟨[],[],0⟩) (λ_=>False) (λ_=>0) rfl ?_ (λ_ h=>h.elim)
 refine Vcode.run Tab_ok ?_
 refine Vstep.mapGMk qI rfl ?_
 refine Vstep.mapGMk qI rfl ?_
 refine Vloop.rounds 1 ?_
 refine Vrounds.step mixed Tab_ok ?_
 refine zw rfl (zt ?_)
 refine Vloop.rounds 1 ?_
 refine Vrounds.step mixed Tab_ok ?_
 refine zw rfl (zt ?_)
 exact cr
theorem z7a:aG 18 [nl] (.r (.b true)):=by
 refine aT Tryz.func18 rfl ?_
 refine zu rfl ?_
 exact cr
include hlf hlr in
set_option maxHeartbeats 1000000 in
theorem z62:aG 7 [nods [L1 lf],I 0,nl,nl] (.r (.tu [.ag [nods [L1 lf],nl,nl, .b true],Er 0])):=by
 refine aT Tryz.func7 rfl ?_
 have ha:=z61 lf
 refine ze (zv4 lf hlf hlr) ?_
 refine zw rfl (zt ?_)
 refine ze (zyq lf hlf hlr) ?_
 refine Vstep.look2 (.ag zlC) rfl rfl rfl zkh zdv zrs zrv (λr hr=>?_) (λhr=>by simp[zcq]at hr)
 have hr':r= .ag lf.c:=by simpa[zcq]using hr.symm
 subst hr'
 refine zw rfl (zt ?_)
 refine zw rfl ?_
 refine ze (zdkb _ _) ?_
 refine zw rfl (zt ?_)
 refine ze (zapb lf hlf) ?_
 refine ze z7a ?_
 refine zy ?_
 refine Vloop.rounds 4 ?_
 refine Vrounds.step mixed Tab_ok ?_
 refine zu rfl (zq ?_)
 refine zm (by decide) (by decide) rfl (zg rfl ?_)
 refine Vloop.rounds 1 ?_
 refine Vrounds.step mixed Tab_ok ?_
 refine zw rfl (zt ?_)
 refine zd (m:=1) rfl (by decide) ?_
 refine Vrounds.step mixed Tab_ok ?_
 refine zu rfl (zq ?_)
 refine zm (by decide) (by decide) rfl (zg rfl ?_)
 refine Vloop.rounds 1 ?_
 refine Vrounds.step mixed Tab_ok ?_
 refine zw rfl (zt ?_)
 refine zd (m:=2) rfl (by decide) ?_
 refine Vrounds.step mixed Tab_ok ?_
 refine zu rfl (zq ?_)
 refine zm (by decide) (by decide) rfl (zg rfl ?_)
 refine Vloop.rounds 1 ?_
 refine Vrounds.step mixed Tab_ok ?_
 refine zw rfl (zt ?_)
 refine zd (m:=3) rfl (by decide) ?_
 refine Vrounds.step mixed Tab_ok ?_
 refine zw rfl (zt ?_)
 refine ze ha ?_
 refine zw rfl (zt ?_)
 refine za rfl rfl ?_
 refine za rfl rfl ?_
 exact⟨_,rfl,cr⟩
end
theorem zv5(a b:List Node)(ha:a.length<=1000000)(hb:b.length<=1000000)(la: ∀x∈a,∀u∈x.par.late,i64 u)(lb: ∀x∈b,∀u∈x.par.late,i64 u):aG 11 [nods a,nods b] (.r (.b (decide (a=b)))):=by
 refine aT Tryz.func11 rfl ?_
 by_cases hlen:a.length=b.length
 ·refine zw (by simp only[zb];omega) (zt ?_)
  refine Vloop.mk' (λi:Nat=>⟨[(0, .r (nods a)),(1, .r (nods b)),(5, .r (I i))],[],0⟩) (λi=>i<=a.length/\a.take i=b.take i) (λi=>a.length-i) 0 ⟨by omega,by simp⟩ (zac [] rfl ⟨cr,cr,cr,trivial⟩ trivial) ?_
  rintro i ⟨hi,he⟩
  refine zh (λh=>zq ?_) (λh=>zt ?_)
  ·simp only[zb]at h
   have h1:i<a.length:=by omega
   have h2:i<b.length:=by omega
   refine aV ?_
   refine zm (by omega) (by omega) (zh9 rfl h1) ?_
   refine za rfl rfl ?_
   refine zm (by omega) (by omega) (zh9 rfl h2) ?_
   refine za rfl rfl ?_
   refine Vcall.bool (zpa a[i] b[i] (la _ (List.getElem_mem h1)) (lb _ (List.getElem_mem h2))) (λh3=>zw rfl (zt ?_)) (λh3=>zu rfl (zq ?_))
   ·simp only[decide_eq_true_eq]at h3
    refine zd (m:=((i+1:Nat):Int)) (by omega) (by omega) ?_
    refine⟨i+1,⟨h1,?_⟩,by omega,zac [] rfl ⟨cr,cr,cr,trivial⟩ trivial⟩
    rw[List.take_succ_eq_append_getElem h1,List.take_succ_eq_append_getElem h2,he,h3]
   ·simp only[decide_eq_false_iff_not]at h3
    refine zf (congrArg RV.b (Eq.symm ?_))
    rw[decide_eq_false_iff_not]
    intro e
    subst e
    exact h3 rfl
  ·simp only[zb]at h
   refine zf (congrArg RV.b (Eq.symm ?_))
   rw[decide_eq_true_eq,<-List.take_of_length_le (show a.length<=i by omega),he,List.take_of_length_le (by omega)]
 ·refine zu (by simp only[zb];omega) (zq ?_)
  refine zf (congrArg RV.b (Eq.symm ?_))
  rw[decide_eq_false_iff_not]
  exactλe=>hlen (by rw[e])
theorem zvu(lf:Leaf)(hlf:lf.fit)(hlr:lf.right=true)(kR gR:RV)(nn:Int)
  (hplay:aG 10 [nl] (.r (.tu [.ptr [nods [L1 lf],kR,gR,I nn], .b true]))):
  aG 4 [] (.r (.b true)):=by
 refine aT Tryz.func4 rfl ?_
 have hl: ∀x∈[L1 lf],∀u∈x.par.late,i64 u:=λx hx u hu=>by
  rw[List.mem_singleton.1 hx]at hu
  cases hu
 have hs:=zv5 [L1 lf] [L1 lf] (show 1<=1000000 by decide) (show 1<=1000000 by decide) hl hl
 rw[decide_eq_true rfl]at hs
 refine ze hplay ?_
 refine zw rfl (zt ?_)
 refine zg rfl ?_
 refine ze (z62 lf hlf hlr) ?_
 refine aV ?_
 refine zd (m:=0) rfl (by decide) ?_
 refine zu rfl ?_
 refine zg rfl ?_
 refine ze hs ?_
 exact cr
theorem z3m:aG 4 [] (.r (.b true)):=by
 have hp:=za0b
 obtain⟨h1,h2,h3,h4,h5,h6⟩:=zqf 0
 obtain⟨lf,hq⟩: ∃lf,lf=zdg 0:=⟨_,rfl⟩
 rw[<-hq]at h1 h2 h3 h4 h5 h6
 have hf:lf.fit:=⟨by omega,by omega,by omega,by omega,by omega⟩
 have hr:lf.right=true:=by
  unfold Leaf.right
  exact decide_eq_true ⟨h1,h2,by omega,by omega,by omega,by omega, .inl h5,h6⟩
 unfold zqg at hp
 rw[<-hq]at hp
 exact zvu lf hf hr _ _ _ hp
theorem z6w{P:Program}{f:FuncId}{ps qs:List RV}{res:Res}(c:Cvs ps qs)(h:zab P f qs res):zab P f ps res:=⟨h.1,λw k vs hp=>h.2 w k vs (c.at_ hp)⟩
def zi1(l:Leaf):Bool:=decide (l.box.length<=200/\l.sign.length<=200/\l.ident.length<=200/\l.parent.length<=200/\l.sig.length<=200)
theorem zmq(l:Leaf):aG 12 [.ag [.i .u8 0,bs l.box,bs l.sign,bs l.ident,U8 l.src,bs l.parent,bs l.sig,nl,nl,nl]] (.r (.b (zi1 l))):=by
 have h:=ztb ⟨0,l,zpr⟩
 have e:(⟨0,l,zpr⟩:Node).small=zi1 l:=by
  unfold Node.small zi1
  rw[Bool.eq_iff_iff]
  simp only[decide_eq_true_eq]
  constructor
  ·rintro⟨a,b,c,d,e,_⟩;exact⟨a,b,c,d,e⟩
  ·rintro⟨a,b,c,d,e⟩;exact⟨a,b,c,d,e,Nat.zero_le _,Nat.zero_le _,Nat.zero_le _⟩
 rw[e]at h
 exact z6w (zk (Cv.ag (zk (cr) (zk (cr) (zk (cr) (zk (cr) (zk (cr) (zk (cr) (zk (cr) (zk (Cv.nil 1) (zk (Cv.nil 1) (zk (Cv.nil 1) Cvs.nil))))))))))) Cvs.nil) h
def zg9(l:Leaf):Bool:=decide (l=zl)
def PackP.none(p:PackP):Bool:=decide (p.init.length=0)&&zg9 p.leaf&&decide (p.sig.length=0)
def PropP.right(p:PropP):Bool:=
 if p.kind=1 then p.pack.right&&zg9 p.leaf&&decide (p.at_=0)
 else if p.kind=2 then p.pack.none&&(p.leaf.right&&decide (p.leaf.src=2))&&decide (p.at_=0)
 else if p.kind=3 then p.pack.none&&zg9 p.leaf&&decide (0<=p.at_/\p.at_<65536)
 else false
def pkgB(p:PackP):List UInt8:=zcs p++vecB p.sig
def ze7(p:PropP):List UInt8:=if p.kind=1 then[1]++pkgB p.pack else if p.kind=2 then[2]++ze3 p.leaf else[3]++beB 4 (u64N p.at_)
def zid(p:PackP):Bool:=decide (p.init.length<=100)&&decide (p.sig.length<=100)&&zi1 p.leaf
def zke(p:PropP):Bool:=zid p.pack&&zi1 p.leaf
structure Leaf.sml (l:Leaf):Prop where
 box:l.box.length<=200
 sign:l.sign.length<=200
 ident:l.ident.length<=200
 parent:l.parent.length<=200
 sig:l.sig.length<=200
theorem Leaf.sml.fit{l:Leaf}(h:l.sml):l.fit:=⟨by have:=h.box;omega,by have:=h.sign;omega,by have:=h.ident;omega,by have:=h.parent;omega,by have:=h.sig;omega⟩
theorem zre{l:Leaf}(h:zi1 l=true):l.sml:=by
 simp only[zi1,decide_eq_true_eq]at h
 exact⟨h.1,h.2.1,h.2.2.1,h.2.2.2.1,h.2.2.2.2⟩
structure PropP.sml (p:PropP):Prop where
 init:p.pack.init.length<=100
 sig:p.pack.sig.length<=100
 pl:p.pack.leaf.sml
 leaf:p.leaf.sml
theorem zy1{p:PropP}(h:zke p=true):p.sml:=by
 simp only[zke,zid,Bool.and_eq_true,decide_eq_true_eq]at h
 exact⟨h.1.1.1,h.1.1.2,zre h.1.2,zre h.2⟩
theorem ztl{l:Leaf}(h:l.sml):(ze3 l).length<=1021:=by
 have h1:=zis l
 obtain⟨k1,k2,k3,k4,k5⟩:=h
 omega
theorem zb1b{p:PropP}(h:p.sml):(pkgB p.pack).length<=1300:=by
 have h1:=zar p.pack.init
 have h2:=zar p.pack.sig
 have h3:=ztl h.pl
 obtain⟨k1,k2,_,_⟩:=h
 simp only[pkgB,zcs,aL,za9]
 omega
section
set_option maxRecDepth 20000
abbrev ns:RV:= .x (.slice none 0 0)
end
theorem z7c:aG 40 [bs [],bs []] (.r (.b true)):=by
 have h:=zeo [] []
 simpa using h
abbrev zfrb:List RV:=[U8 0,nl,nl,nl,U8 0,nl,nl,nl,nl,nl]
theorem zl9(x:List UInt8)(h:x=[]):aG 40 [bs x,bs []] (.r (.b true)):=by
 have q:=zeo x []
 rw[decide_eq_true h]at q
 exact q
theorem zp4(x:List UInt8)(h: ¬x=[]):aG 40 [bs x,bs []] (.r (.b false)):=by
 have q:=zeo x []
 rw[decide_eq_false h]at q
 exact q
theorem zgr{l:Leaf}{p:Prop}(h: ¬p)(hp:l=zl->p):zg9 l=false:=decide_eq_false λe=>h (hp e)
theorem z7d(l:Leaf):aG 175 [.ag [U8 0,bs l.box,bs l.sign,bs l.ident,U8 l.src,bs l.parent,bs l.sig,nl,nl,nl], .ag zfrb] (.r (.b (zg9 l))):=by
 have ce:aG 247 [is [],is []] (.r (.b true)):=by
  have h:=z6q [] [] (by simp) (by simp)
  simpa using h
 have ci:Cvs [ns,ns] [is [],is []]:=zk (Cv.nil 1) (zk (Cv.nil 1) Cvs.nil)
 have cb:=z7c
 have cc:Cvs [ns,ns] [bs [],bs []]:=zk (Cv.nil 1) (zk (Cv.nil 1) Cvs.nil)
 have cx: ∀x:List UInt8,Cvs [bs x,ns] [bs x,bs []]:=λx=>zk (cr) (zk (Cv.nil 1) Cvs.nil)
 refine aT Tryz.func175 rfl ?_
 refine aV ?_
 refine za rfl rfl ?_
 refine za rfl rfl ?_
 refine zw rfl ?_
 by_cases hs:l.src=0
 rotate_left
 ·refine zu (by simp only[zb];exactλh=>hs (UInt8.toNat_inj.1 (by simpa using h))) (zq ?_)
  exact zf (congrArg RV.b (zgr hs λe=>by rw[e];rfl).symm)
 refine zw (by rw[hs];rfl) ?_
 refine Vcall.mk' ce ci ?_
 refine zw rfl ?_
 refine zt ?_
 by_cases h0:l.box=[]
 rotate_left
 ·refine Vcall.mk' (zp4 l.box h0) (cx _) ?_
  exact zf (congrArg RV.b (zgr h0 λe=>by rw[e];rfl).symm)
 refine Vcall.mk' (zl9 l.box h0) (cx _) ?_
 by_cases h1:l.sign=[]
 rotate_left
 ·refine Vcall.mk' (zp4 l.sign h1) (cx _) ?_
  exact zf (congrArg RV.b (zgr h1 λe=>by rw[e];rfl).symm)
 refine Vcall.mk' (zl9 l.sign h1) (cx _) ?_
 by_cases h2:l.ident=[]
 rotate_left
 ·refine Vcall.mk' (zp4 l.ident h2) (cx _) ?_
  exact zf (congrArg RV.b (zgr h2 λe=>by rw[e];rfl).symm)
 refine Vcall.mk' (zl9 l.ident h2) (cx _) ?_
 by_cases h3:l.parent=[]
 rotate_left
 ·refine Vcall.mk' (zp4 l.parent h3) (cx _) ?_
  exact zf (congrArg RV.b (zgr h3 λe=>by rw[e];rfl).symm)
 refine Vcall.mk' (zl9 l.parent h3) (cx _) ?_
 by_cases h4:l.sig=[]
 rotate_left
 ·refine Vcall.mk' (zp4 l.sig h4) (cx _) ?_
  exact zf (congrArg RV.b (zgr h4 λe=>by rw[e];rfl).symm)
 refine Vcall.mk' (zl9 l.sig h4) (cx _) ?_
 refine Vcall.mk' cb cc ?_
 refine Vcall.mk' cb cc ?_
 refine zf (congrArg RV.b (Eq.symm (decide_eq_true ?_)))
 obtain⟨a,b,c,d,e,f⟩:=l
 simp only at hs h0 h1 h2 h3 h4
 subst hs h0 h1 h2 h3 h4
 rfl
theorem zk6(l:Leaf):aG 120 [.ag l.c] (.r (.b (zg9 l))):=by
 refine aT Tryz.func120 rfl ?_
 refine za rfl rfl ?_
 refine ze (z7d l) ?_
 exact cr
theorem zqn(p:PackP)(h1:p.init.length<=1000000)(h2:p.sig.length<=1000000):aG 121 [.ag p.c] (.r (.b p.none)):=by
 refine aT Tryz.func121 rfl ?_
 refine zd (m:=((p.init.length+p.sig.length:Nat):Int)) (by omega) (by omega) ?_
 refine zh (λh=>?_) (λh=>?_)
 ·simp only[zb]at h
  refine za rfl rfl ?_
  refine ze (zk6 p.leaf) ?_
  exact zf (congrArg RV.b (by unfold PackP.none;rw[decide_eq_true (show p.init.length=0 by omega),decide_eq_true (show p.sig.length=0 by omega)];simp))
 ·simp only[zb]at h
  refine zf (congrArg RV.b (Eq.symm ?_))
  unfold PackP.none
  rw[Bool.eq_false_iff]
  intro e
  simp only[Bool.and_eq_true,decide_eq_true_eq]at e
  omega
theorem z3u(n:Int):aG 123 [I n] (.r (.b (decide (0<=n/\n<65536)))):=by
 refine aT Tryz.func123 rfl ?_
 (repeat' (first|refine zh (λh=>?_) (λh=>?_)|refine zf ?_|refine zq ?_|refine zt ?_))
 all_goals refine congrArg RV.b (Eq.symm ?_)
 all_goals simp only[zb]at*
 all_goals omega
theorem u8ne{a b:UInt8}(h: ¬a=b): ¬(a.toNat:Int)=(b.toNat:Int):=λe=>h (UInt8.toNat_inj.1 (by omega))
theorem z3v(p:PropP)(hp:p.sml):aG 74 [.ag p.c] (.r (.b p.right)):=by
 have hi:=hp.init
 have hs:=hp.sig
 have f1:p.pack.fit:=⟨by omega,hp.pl.fit,by omega⟩
 have f2:=hp.leaf.fit
 refine aT Tryz.func74 rfl ?_
 by_cases k1:p.kind=1
 ·refine zu (by rw[k1];rfl) (zq ?_)
  refine za rfl rfl ?_
  refine Vcall.bool (zzm p.pack f1) (λh3=>?_) (λh3=>?_)
  rotate_left
  ·exact zf (congrArg RV.b (by unfold PropP.right;rw[if_pos k1,h3];rfl))
  refine za rfl rfl ?_
  refine Vcall.bool (zk6 p.leaf) (λh4=>?_) (λh4=>?_)
  rotate_left
  ·exact zf (congrArg RV.b (by unfold PropP.right;rw[if_pos k1,h4];simp))
  refine Vcmp.mk' (m:=decide (p.at_=0)) (by rw[Bool.eq_iff_iff];simp only[zb]) ?_
  exact zf (congrArg RV.b (by unfold PropP.right;rw[if_pos k1,h3,h4];rfl))
 refine zw (by simp only[zb];exact u8ne k1) (zt ?_)
 by_cases k2:p.kind=2
 ·refine zu (by rw[k2];rfl) (zq ?_)
  refine za rfl rfl ?_
  refine Vcall.bool (zqn p.pack (by omega) (by omega)) (λh3=>?_) (λh3=>?_)
  rotate_left
  ·exact zf (congrArg RV.b (by unfold PropP.right;rw[if_neg k1,if_pos k2,h3];rfl))
  refine za rfl rfl ?_
  refine Vcall.bool (zmp p.leaf 2 f2) (λh4=>?_) (λh4=>?_)
  rotate_left
  ·exact zf (congrArg RV.b (by unfold PropP.right;rw[if_neg k1,if_pos k2,h4];simp))
  refine Vcmp.mk' (m:=decide (p.at_=0)) (by rw[Bool.eq_iff_iff];simp only[zb]) ?_
  exact zf (congrArg RV.b (by unfold PropP.right;rw[if_neg k1,if_pos k2,h3,h4];rfl))
 refine zw (by simp only[zb];exact u8ne k2) (zt ?_)
 by_cases k3:p.kind=3
 ·refine zu (by rw[k3];rfl) (zq ?_)
  refine za rfl rfl ?_
  refine Vcall.bool (zqn p.pack (by omega) (by omega)) (λh3=>?_) (λh3=>?_)
  rotate_left
  ·exact zf (congrArg RV.b (by unfold PropP.right;rw[if_neg k1,if_neg k2,if_pos k3,h3];rfl))
  refine za rfl rfl ?_
  refine Vcall.bool (zk6 p.leaf) (λh4=>?_) (λh4=>?_)
  rotate_left
  ·exact zf (congrArg RV.b (by unfold PropP.right;rw[if_neg k1,if_neg k2,if_pos k3,h4];simp))
  refine ze (z3u p.at_) ?_
  exact zf (congrArg RV.b (by unfold PropP.right;rw[if_neg k1,if_neg k2,if_pos k3,h3,h4];rfl))
 refine zw (by simp only[zb];exact u8ne k3) (zt ?_)
 exact zf (congrArg RV.b (by unfold PropP.right;rw[if_neg k1,if_neg k2,if_neg k3]))
theorem PropP.right1{p:PropP}(h:p.right=true)(k:p.kind=1):p.pack.right=true:=by
 unfold PropP.right at h
 rw[if_pos k]at h
 simp only[Bool.and_eq_true]at h
 exact h.1.1
theorem PropP.right2{p:PropP}(h:p.right=true)(k1: ¬p.kind=1)(k:p.kind=2):p.leaf.right=true:=by
 unfold PropP.right at h
 rw[if_neg k1,if_pos k]at h
 simp only[Bool.and_eq_true]at h
 exact h.1.2.1
theorem PropP.right3{p:PropP}(h:p.right=true)(k1: ¬p.kind=1)(k2: ¬p.kind=2):p.kind=3/\0<=p.at_/\p.at_<65536:=by
 unfold PropP.right at h
 rw[if_neg k1,if_neg k2]at h
 by_cases k3:p.kind=3
 ·rw[if_pos k3]at h
  simp only[Bool.and_eq_true,decide_eq_true_eq]at h
  exact⟨k3,h.2⟩
 ·rw[if_neg k3]at h;cases h
theorem z68(p:PropP)(hp:p.sml)(hr:p.right=true):aG 76 [.ag p.c] (.r (bs (ze7 p))):=by
 have hi:=hp.init
 have hs:=hp.sig
 have f1:p.pack.fit:=⟨by omega,hp.pl.fit,by omega⟩
 have hl:=zb1b hp
 have hl2:=ztl hp.leaf
 refine aT Tryz.func76 rfl ?_
 refine zy ?_
 by_cases k1:p.kind=1
 ·have h1:=PropP.right1 hr k1
  have cp:=zoo p.pack f1 (PackP.right_leaf h1)
  have hpl:(zcs p.pack).length<=1300:=by rw[pkgB,aL]at hl;omega
  have e:ze7 p=[1]++pkgB p.pack:=if_pos k1
  refine zu (by rw[k1];rfl) (zq ?_)
  refine aV ?_
  refine za rfl rfl ?_
  refine ze cp ?_
  refine ze (z3w (zcs p.pack) p.pack.sig (by omega) (by omega)) ?_
  refine Vapp.mk' (j:=(ze7 p).length) (zs:=(ze7 p).map U8) (by show 1+(pkgB p.pack).length<=_;simp only[maxLen];omega) (by show(1+(pkgB p.pack).length)*1<=_;omega) (by rw[e];show 1+(pkgB p.pack).length=_;rw[aL];rfl) (by rw[e,k1];show[U8 1]++(pkgB p.pack).map U8=_;rw[List.map_append];rfl) ?_
  exact cr
 refine zw (by simp only[zb];exact u8ne k1) (zt ?_)
 by_cases k2:p.kind=2
 ·have h1:=PropP.right2 hr k1 k2
  have e:ze7 p=[2]++ze3 p.leaf:=by unfold ze7;rw[if_neg k1,if_pos k2]
  refine zu (by rw[k2];rfl) (zq ?_)
  refine za rfl rfl ?_
  refine ze (zmo p.leaf hp.leaf.fit h1) ?_
  refine Vapp.mk' (j:=(ze7 p).length) (zs:=(ze7 p).map U8) (by show 1+(ze3 p.leaf).length<=_;simp only[maxLen];omega) (by show(1+(ze3 p.leaf).length)*1<=_;omega) (by rw[e];show 1+(ze3 p.leaf).length=_;rw[aL];rfl) (by rw[e,k2];show[U8 2]++(ze3 p.leaf).map U8=_;rw[List.map_append];rfl) ?_
  exact cr
 refine zw (by simp only[zb];exact u8ne k2) (zt ?_)
 obtain⟨k3,h0,h1⟩:=PropP.right3 hr k1 k2
 have e:ze7 p=[3]++beB 4 (u64N p.at_):=by unfold ze7;rw[if_neg k1,if_neg k2]
 refine Vint.u64 (n:=u64N p.at_) (by unfold u64N;omega) (by unfold u64N;omega) ?_
 refine Vcall.mk' (zvy [3] 4 (u64N p.at_) (by simp) (.inr (.inr (.inl rfl)))) (zk (zf (by rw[k3];rfl)) (zn _)) ?_
 exact zf (by rw[e];rfl)
structure OffP where
 frm:Int
 prop:PropP
 deriving DecidableEq
abbrev OffP.c(o:OffP):List RV:=I o.frm::o.prop.c
def offs(l:List OffP):RV:= .sl 17 l.length (l.flatMap OffP.c)
theorem zco{l:List OffP}{i:Int}{j:Nat}(h:i=j)(hj:j<l.length):((l.flatMap OffP.c).drop (i.toNat*17)).take 17=l[j].c:=zgo (f:=OffP.c) (sz:=17) (λ_=>rfl) h hj
theorem zv2(p:PropP)(hp:p.sml)(hr:p.right=true):aG 75 [.ptr p.c] (.r (bs (ze7 p))):=by
 refine aT Tryz.func75 rfl ?_
 refine za rfl rfl ?_
 refine ze (z68 p hp hr) ?_
 exact cr
theorem zop(p:PropP)(hp:p.sml):aG 38 [.ag p.c] (.r (zjj p.right (ze7 p))):=by
 refine aT Tryz.func38 rfl ?_
 refine za rfl rfl ?_
 refine ze (z3v p hp) ?_
 refine Vstep.sub (zie (id:=0) (t:=1) p.c rfl rfl) (Vstep.mkfunS rfl rfl ?_)
 refine ze (z4d p.right _ _ (ze7 p) λh=>zv2 p hp h) ?_
 unfold zjj
 cases p.right with
 |true=>exact⟨_,rfl,cr⟩
 |false=>exact⟨_,rfl,cr⟩
abbrev offA(o:OffP):RV:= .ag o.c
def ziw(o:OffP):Bool:=decide (o.prop.kind.toNat≠1)
theorem z7b(o:OffP):aG 44 [offA o] (.r (.b (ziw o))):=by
 refine aT Tryz.func44 rfl ?_
 refine Vcmp.mk' ?_ (cr)
 rw[Bool.eq_iff_iff]
 simp only[ziw,zb]
 omega
def zck(l:List OffP):Bool:=decide (l.length=0)||l.any ziw
theorem z03(l:List OffP)(D:OffP->Prop)(q:OffP->Bool)(hl:l.length<=1000000000)(hD: ∀x∈l,D x):aG 84 [offs l, .s (cloS aP offA D q)] (.r (I (idxA q 0 l))):=by
 refine aT Tryz.func84 rfl ?_
 refine Vloop.mk' (λj:Nat=>{F:=[(0, .r (offs l)),(1, .r (.s (cloS aP offA D q))),(7, .r (I l.length)),(8, .r (I j))],O:=[],nx:=0}) (λj=>j<=l.length/\idxA q 0 l=idxA q j (l.drop j)) (λj=>l.length-j) 0 ⟨by omega,by simp⟩ (zac [] rfl ⟨cr,cr,cr,cr,trivial⟩ trivial) ?_
 rintro j ⟨hj,he⟩
 refine zh (λh=>zq ?_) (λh=>zt ?_)
 ·simp only[zb]at h
  have hj':j<l.length:=by omega
  rw[List.drop_eq_getElem_cons hj']at he
  simp only[idxA]at he
  refine zm (by omega) (by omega) (zco rfl hj') ?_
  refine za rfl rfl ?_
  refine Vstep.cloB l[j] rfl rfl rfl rfl (cr) (hD _ (List.getElem_mem hj')) (λhq=>zq ?_) (λhq=>zt ?_)
  ·rw[hq]at he
   exact zf (by rw[he];simp)
  ·rw[hq]at he
   refine zd (m:=((j+1:Nat):Int)) (by omega) (by omega) ?_
   exact⟨j+1,⟨hj',by rw[he];simp⟩,by omega,zac [] rfl ⟨cr,cr,cr,cr,trivial⟩ trivial⟩
 ·simp only[zb]at h
  rw[List.drop_eq_nil_of_le (by omega)]at he
  exact zf (by rw[he];rfl)
theorem zuf(l:List OffP)(D:OffP->Prop)(q:OffP->Bool)(hl:l.length<=1000000000)(hD: ∀x∈l,D x):aG 43 [offs l, .s (cloS aP offA D q)] (.r (.b (l.any q))):=by
 refine aT Tryz.func43 rfl ?_
 refine ze (z03 l D q hl hD) ?_
 exact Vcmp.mk' rfl (zf (congrArg RV.b (by rw[Bool.eq_iff_iff,decide_eq_true_eq];exact(zsb q l 0).2.2)))
theorem zazb(l:List OffP)(hl:l.length<=1000000000):aG 18 [offs l] (.r (.b (zck l))):=by
 refine aT Tryz.func18 rfl ?_
 refine zh (λh=>?_) (λh=>?_)
 ·simp only[zb]at h
  exact zf (congrArg RV.b (by unfold zck;rw[decide_eq_true (by omega)];rfl))
 ·simp only[zb]at h
  refine Vcall.mk' (zuf l (λ_=>True) ziw hl λ_ _=>trivial) (zk (cr) (zk (Cv.fn λn _=>z7b n) Cvs.nil)) ?_
  exact zf (congrArg RV.b (by unfold zck;rw[decide_eq_false (by omega)];rfl))
def zf7(t:List Node)(i:Nat):Node:=nT t (2*((zaf t).getD i 0)).toNat
theorem zys{t:List Node}(hn:zae t≠0)(hok: ∀j,j<t.length->okT t j):lvs t=(zaf t).map λo=>nT t (2*o).toNat:=by
 obtain⟨hl1,hl2,hl3⟩:=zbg hn
 have hb:=zcc hl2
 obtain⟨n,hn'⟩: ∃n:Nat,zae t=(n:Int):=⟨(zae t).toNat,by omega⟩
 have hlen:t.length=2*n-1:=by omega
 have e1:t=(List.range t.length).map (nT t):=by
  apply List.ext_getElem
  ·simp
  ·intro i h1 h2
   simp[ze5 h1]
 have e2:lvs t=((List.range t.length).filter λi=>isLf (nT t i)).map (nT t):=by
  unfold lvs
  conv=>lhs;rw[e1]
  rw[List.filter_map]
  rfl
 have e3:zaf t=memA t t.length:=by
  rw[hlen,zn4 hok n (by omega)]
  unfold zaf
  rw[hlen,show(2*n-1+1)/2=n by omega]
 rw[e2,e3]
 unfold memA
 rw[List.map_map]
 refine(List.map_congr_left λi hi=>?_).trans (congrArg _ (List.filter_congr λi _=>?_))
 ·rw[List.mem_filter,List.mem_range]at hi
  have h1:=hi.2
  simp only[isLf,decide_eq_true_eq]at h1
  have h2:=(hok i hi.1).2.2
  have:i%2=0:=by
   rcases Nat.mod_two_eq_zero_or_one i with h |h
   ·exact h
   ·exact absurd ⟨h,h1⟩ h2
  show nT t i=nT t (2*((i/2:Nat):Int)).toNat
  congr 1
  omega
 ·rfl
theorem z2o{t:List Node}(hn:zae t≠0)(hok: ∀j,j<t.length->okT t j):zeb t=true↔∀i,i< (zaf t).length->∀k,k<i->(zf7 t i).leaf.ident≠(zf7 t k).leaf.ident/\(zf7 t i).leaf.sign≠(zf7 t k).leaf.sign:=by
 have key: ∀f:Node->List UInt8,((lvs t).map f).Nodup↔∀i,i< (zaf t).length->∀k,k<i->f (zf7 t i)≠f (zf7 t k):=λf=>by
  rw[zys hn hok,List.map_map]
  unfold List.Nodup
  rw[List.pairwise_iff_getElem]
  simp only[List.length_map,List.getElem_map,Function.comp]
  constructor
  ·intro h i hi k hk
   have:=h k i (by omega) hi hk
   unfold zf7
   rw[List.getD_eq_getElem?_getD,List.getD_eq_getElem?_getD,List.getElem?_eq_getElem hi,List.getElem?_eq_getElem (by omega)]
   exactλe=>this e.symm
  ·intro h i j hi hj hij
   have:=h j hj i hij
   unfold zf7 at this
   rw[List.getD_eq_getElem?_getD,List.getD_eq_getElem?_getD,List.getElem?_eq_getElem hi,List.getElem?_eq_getElem hj]at this
   exactλe=>this e.symm
 unfold zeb
 rw[decide_eq_true_eq,key (λn=>n.leaf.ident),key (λn=>n.leaf.sign)]
 exact⟨λ⟨h1,h2⟩ i hi k hk=>⟨h1 i hi k hk,h2 i hi k hk⟩,λh=>⟨λi hi k hk=>(h i hi k hk).1,λi hi k hk=>(h i hi k hk).2⟩⟩
theorem z3n(t:List Node)(ht:t.length<=1000000)(hn:zae t≠0)(hok: ∀j,j<t.length->okT t j):aG 27 [nods t] (.r (.b (zeb t))):=by
 refine aT Tryz.func27 rfl ?_
 refine ze (zjp t ht) ?_
 have hm:=λo (h:o∈zaf t)=>za8 h
 have hml:(zaf t).length<=(t.length+1)/2:=zet t _
 have hap:=z2o hn hok
 have hmN: ∀i (hi:i< (zaf t).length),zf7 t i=nT t (2*(zaf t)[i]).toNat:=λi hi=>by
  unfold zf7;rw[List.getD_eq_getElem?_getD,List.getElem?_eq_getElem hi];rfl
 generalize hmm:zaf t=m at*
 generalize zf7 t=f at*
 refine Vloop.mk' (λi:Nat=>⟨[(0, .r (nods t)),(3, .r (is m)),(4, .r (I i))],[],0⟩) (λi=>i<=m.length/\∀j,j<i->∀k,k<j->(f j).leaf.ident≠(f k).leaf.ident/\(f j).leaf.sign≠(f k).leaf.sign) (λi=>m.length-i) 0 ⟨by omega,λj h=>by omega⟩ (zac [] rfl ⟨cr,cr,cr,trivial⟩ trivial) ?_
 rintro i ⟨hi,hall⟩
 refine zh (λh=>zq ?_) (λh=>zt ?_)
 ·simp only[zb]at h
  refine Vloop.mk' (λk:Nat=>⟨[(0, .r (nods t)),(3, .r (is m)),(4, .r (I i)),(5, .r (I k))],[],0⟩) (λk=>k<=i/\∀k',k'<k->(f i).leaf.ident≠(f k').leaf.ident/\(f i).leaf.sign≠(f k').leaf.sign) (λk=>i-k) 0 ⟨by omega,λj h=>by omega⟩ (zac [] rfl ⟨cr,cr,cr,cr,trivial⟩ trivial) ?_
  rintro k ⟨hk,hin⟩
  refine zh (λh2=>zq ?_) (λh2=>zt ?_)
  ·simp only[zb]at h2
   refine aV ?_
   have hi':i<m.length:=by omega
   have hk':k<m.length:=by omega
   obtain⟨a,ea,ha1,ha2⟩:=hm _ (List.getElem_mem hi')
   obtain⟨b,eb,hb1,hb2⟩:=hm _ (List.getElem_mem hk')
   have fa:f i=nT t (2*a):=by rw[hmN i hi',ea];congr 1
   have fb:f k=nT t (2*b):=by rw[hmN k hk',eb];congr 1
   refine zm (by omega) (by omega) (zan rfl hi') (zg rfl ?_)
   rw[ea]
   refine zd rfl (by omega) ?_
   refine zm (by omega) (by omega) (zbf (j:=2*a) (by omega) (by omega)) (za rfl rfl ?_)
   refine zm (by omega) (by omega) (zan rfl hk') (zg rfl ?_)
   rw[eb]
   refine zd rfl (by omega) ?_
   refine zm (by omega) (by omega) (zbf (j:=2*b) (by omega) (by omega)) (za rfl rfl ?_)
   have no:(nT t (2*a)).leaf.ident=(nT t (2*b)).leaf.ident\/(nT t (2*a)).leaf.sign=(nT t (2*b)).leaf.sign->zeb t=false:=λh=>by
    rw[Bool.eq_false_iff]
    intro h3
    have:=hap.1 h3 i hi' k (by omega)
    rw[fa,fb]at this
    rcases h with h |h
    ·exact this.1 h
    ·exact this.2 h
   refine Vcall.bool (zd3 _ _) (λc1=>?_) (λc1=>?_)
   ·rw[decide_eq_true_eq]at c1
    exact zq (zf (congrArg RV.b (no (.inl c1)).symm))
   ·rw[decide_eq_false_iff_not]at c1
    refine Vcall.bool (zd3 _ _) (λc2=>?_) (λc2=>?_)
    ·rw[decide_eq_true_eq]at c2
     exact zq (zf (congrArg RV.b (no (.inr c2)).symm))
    ·rw[decide_eq_false_iff_not]at c2
     refine zt (zd (m:=((k+1:Nat):Int)) (by omega) (by omega) ?_)
     refine⟨k+1,⟨by omega,λk' hk2=>?_⟩,by omega,zac [] rfl ⟨cr,cr,cr,cr,trivial⟩ trivial⟩
     rcases Nat.lt_or_ge k' k with h5 |h5
     ·exact hin k' h5
     ·obtain rfl:k'=k:=by omega
      rw[fa,fb]
      exact⟨c1,c2⟩
  ·simp only[zb]at h2
   obtain rfl:k=i:=by omega
   refine zd (m:=((k+1:Nat):Int)) (by omega) (by omega) ?_
   refine⟨k+1,⟨by omega,λj hj=>?_⟩,by omega,zac [] rfl ⟨cr,cr,cr,trivial⟩ trivial⟩
   rcases Nat.lt_or_ge j k with h5 |h5
   ·exact hall j h5
   ·obtain rfl:j=k:=by omega
    exact hin
 ·simp only[zb]at h
  obtain rfl:i=m.length:=by omega
  exact zf (congrArg RV.b (hap.2 hall).symm)
end Go.Proofs.YtpcfoglfakeimaaGreat.Sx
