import Derived.Test.YtddokcpcpoihmaaGreatZHc
import Derived.Test.YtddokcpcpoihmaaGreatZGo
import Derived.Test.YtddokcpcpoihmaaGreatZEl
namespace Go.Proofs.YtddokcpcpoihmaaGreat.Sx
open Go.RowKit
set_option linter.unusedVariables false
section
theorem zs4:Tryz.prog.underlying 83=some (.map 3 31):=by kernel_rfl
theorem z5n:(Tryz.prog.info? 31).bind (·.zero)=some (.agg #[.slice none 0 0, .slice none 0 0, .slice none 0 0, .int .u8 0, .slice none 0 0, .slice none 0 0]):=by kernel_rfl
abbrev zlC:List RV:=[nl,nl,nl, .i .u8 0,nl,nl]
theorem z5o(w:World)(k:Kp):(RV.ag zlC).at_ w k (.agg #[.slice none 0 0, .slice none 0 0, .slice none 0 0, .int .u8 0, .slice none 0 0, .slice none 0 0]):=by
 simp only[RV.at_,RV.listAt]
 exact⟨_,rfl,_,_,rfl,rfl,rfl,_,_,rfl,rfl,rfl,_,_,rfl,rfl,rfl,_,_,rfl,rfl,rfl,_,_,rfl,rfl,rfl,_,_,rfl,rfl,rfl,rfl⟩
section
variable (lf:Leaf) (hlf:lf.fit) (hlr:lf.right=true)
include hlf hlr in
theorem zri:zab Tryz.prog 33 [nods [L1 lf]] (.r (.s (mapS [(0, .ag lf.c)]))):=by
 refine zbb (T:=Tab) mixed Tab_ok Tryz.func33 rfl (by kernel_rfl) ?_
 refine Vcode.run Tab_ok ?_
 refine Vstep.mapMk 1000001 rfl λb=>?_
 refine zd (zty lf hlf hlr) ?_
 refine Vloop.rounds 2 ?_
 refine Vrounds.step mixed Tab_ok ?_
 refine zq rfl (zo ?_)
 refine zk i00 i01 rfl (zf rfl ?_)
 refine zc (m:=0) rfl (by decide) ?_
 refine zk i00 i01 (idx0 lf) ?_
 refine za rfl rfl ?_
 refine Vstep.mapPut 0 1000001 rfl rfl rfl rfl rfl rfl rfl zs4 z0m rfl ?_
 refine zc (m:=1) rfl (by decide) ?_
 refine Vrounds.step mixed Tab_ok ?_
 refine zt rfl (zp ?_)
 exact⟨_,zrx (t:=2) (im:=0) (gh:=1000001) rfl rfl rfl,cr⟩
theorem z3v(all g:RV):zab Tryz.prog 34 [all,I 0,nl,g] (.r (.b true)):=by
 refine zaa (T:=Tab) mixed Tab_ok Tryz.func34 rfl (by kernel_rfl) ?_
 refine Vcode.scope mixed Tab_ok 0 (λ_:Unit=>⟨[],[],0⟩) (λ_=>False) (λ_=>0) rfl ?_ (λ_ h=>h.elim)
 refine Vcode.run Tab_ok ?_
 refine Vstep.mapGMk qI rfl ?_
 refine Vstep.mapGMk qI rfl ?_
 refine Vloop.rounds 1 ?_
 refine Vrounds.step mixed Tab_ok ?_
 refine zt rfl (zp ?_)
 refine Vloop.rounds 1 ?_
 refine Vrounds.step mixed Tab_ok ?_
 refine zt rfl (zp ?_)
 exact cr
theorem zyh:zab Tryz.prog 36 [nl] (.r (.b true)):=by
 refine zaa (T:=Tab) mixed Tab_ok Tryz.func36 rfl (by kernel_rfl) ?_
 refine zq rfl ?_
 exact cr
theorem z28:zgp [L1 lf]=true:=by
 unfold zgp
 refine decide_eq_true ?_
 have e:lvs [L1 lf]=[L1 lf]:=rfl
 unfold idsL sgnL
 rw[e]
 exact⟨by simp,by simp⟩
include hlf hlr in
set_option maxHeartbeats 1000000 in
theorem zyd:zab Tryz.prog 10 [nods [L1 lf],I 0,nl,nl] (.r (.tu [.ag [nods [L1 lf],nl,nl, .b true],Er 0])):=by
 refine zaa (T:=Tab) mixed Tab_ok Tryz.func10 rfl (by kernel_rfl) ?_
 have ha:=z1c [L1 lf] (show 1<=1000000 by decide)
 rw[z28]at ha
 refine zd (zpo lf hlf hlr) ?_
 refine zt rfl (zp ?_)
 refine zd (zri lf hlf hlr) ?_
 refine Vstep.look2 (.ag zlC) rfl rfl rfl zs4 z0m z5n z5o (λr hr=>?_) (λhr=>by simp[zcw]at hr)
 have hr':r= .ag lf.c:=by simpa[zcw]using hr.symm
 subst hr'
 refine zt rfl (zp ?_)
 refine zt rfl ?_
 refine zd (z3v _ _) ?_
 refine zt rfl (zp ?_)
 refine zd (z1g lf hlf) ?_
 refine zd zyh ?_
 refine zu ?_
 refine Vloop.rounds 4 ?_
 refine Vrounds.step mixed Tab_ok ?_
 refine zq rfl (zo ?_)
 refine zk (by decide) (by decide) rfl (zf rfl ?_)
 refine Vloop.rounds 1 ?_
 refine Vrounds.step mixed Tab_ok ?_
 refine zt rfl (zp ?_)
 refine zc (m:=1) rfl (by decide) ?_
 refine Vrounds.step mixed Tab_ok ?_
 refine zq rfl (zo ?_)
 refine zk (by decide) (by decide) rfl (zf rfl ?_)
 refine Vloop.rounds 1 ?_
 refine Vrounds.step mixed Tab_ok ?_
 refine zt rfl (zp ?_)
 refine zc (m:=2) rfl (by decide) ?_
 refine Vrounds.step mixed Tab_ok ?_
 refine zq rfl (zo ?_)
 refine zk (by decide) (by decide) rfl (zf rfl ?_)
 refine Vloop.rounds 1 ?_
 refine Vrounds.step mixed Tab_ok ?_
 refine zt rfl (zp ?_)
 refine zc (m:=3) rfl (by decide) ?_
 refine Vrounds.step mixed Tab_ok ?_
 refine zt rfl (zp ?_)
 refine zd ha ?_
 refine zt rfl (zp ?_)
 refine za rfl rfl ?_
 refine za rfl rfl ?_
 exact⟨_,rfl,cr⟩
end
theorem zyj(a b:List Node)(ha:a.length<=1000000)(hb:b.length<=1000000)(la: ∀x∈a,∀u∈x.par.late,i64 u)(lb: ∀x∈b,∀u∈x.par.late,i64 u):zab Tryz.prog 31 [nods a,nods b] (.r (.b (decide (a=b)))):=by
 refine zaa (T:=Tab) mixed Tab_ok Tryz.func31 rfl (by kernel_rfl) ?_
 by_cases hlen:a.length=b.length
 ·refine zt (by simp only[zb];omega) (zp ?_)
  refine zw (λi:Nat=>⟨[(0, .r (nods a)),(1, .r (nods b)),(5, .r (I i))],[],0⟩) (λi=>i<=a.length/\a.take i=b.take i) (λi=>a.length-i) 0 ⟨by omega,by simp⟩ (zac [] rfl ⟨cr,cr,cr,trivial⟩ trivial) ?_
  rintro i ⟨hi,he⟩
  refine zg (λh=>zo ?_) (λh=>zp ?_)
  ·simp only[zb]at h
   have h1:i<a.length:=by omega
   have h2:i<b.length:=by omega
   refine Vdraw.mk' (by kernel_rfl) ?_
   refine zk (by omega) (by omega) (zg1 rfl h1) ?_
   refine za rfl rfl ?_
   refine zk (by omega) (by omega) (zg1 rfl h2) ?_
   refine za rfl rfl ?_
   refine zx (zx5 a[i] b[i] (la _ (List.getElem_mem h1)) (lb _ (List.getElem_mem h2))) (λh3=>zt rfl (zp ?_)) (λh3=>zq rfl (zo ?_))
   ·simp only[decide_eq_true_eq]at h3
    refine zc (m:=((i+1:Nat):Int)) (by omega) (by omega) ?_
    refine⟨i+1,⟨h1,?_⟩,by omega,zac [] rfl ⟨cr,cr,cr,trivial⟩ trivial⟩
    rw[List.take_succ_eq_append_getElem h1,List.take_succ_eq_append_getElem h2,he,h3]
   ·simp only[decide_eq_false_iff_not]at h3
    refine ze (congrArg RV.b (Eq.symm ?_))
    rw[decide_eq_false_iff_not]
    intro e
    subst e
    exact h3 rfl
  ·simp only[zb]at h
   refine ze (congrArg RV.b (Eq.symm ?_))
   rw[decide_eq_true_eq,<-List.take_of_length_le (show a.length<=i by omega),he,List.take_of_length_le (by omega)]
 ·refine zq (by simp only[zb];omega) (zo ?_)
  refine ze (congrArg RV.b (Eq.symm ?_))
  rw[decide_eq_false_iff_not]
  exactλe=>hlen (by rw[e])
theorem zpi(lf:Leaf)(hlf:lf.fit)(hlr:lf.right=true)(kR gR:RV)(nn:Int)
  (hplay:zab Tryz.prog 30 [nl] (.r (.tu [.ptr [nods [L1 lf],kR,gR,I nn], .b true]))):
  zab Tryz.prog 7 [] (.r (.b true)):=by
 refine zaa (T:=Tab) mixed Tab_ok Tryz.func7 rfl (by kernel_rfl) ?_
 have hl: ∀x∈[L1 lf],∀u∈x.par.late,i64 u:=λx hx u hu=>by
  rw[List.mem_singleton.1 hx]at hu
  cases hu
 have hs:=zyj [L1 lf] [L1 lf] (show 1<=1000000 by decide) (show 1<=1000000 by decide) hl hl
 rw[decide_eq_true rfl]at hs
 refine zd hplay ?_
 refine zt rfl (zp ?_)
 refine zf rfl ?_
 refine zd (zyd lf hlf hlr) ?_
 refine Vdraw.mk' (by kernel_rfl) ?_
 refine zc (m:=0) rfl (by decide) ?_
 refine zq rfl ?_
 refine zf rfl ?_
 refine zd hs ?_
 exact cr
theorem zvt:zab Tryz.prog 7 [] (.r (.b true)):=by
 have hp:=z1n
 obtain⟨h1,h2,h3,h4,h5,h6⟩:=zln 0
 obtain⟨lf,hq⟩: ∃lf,lf=zce 0:=⟨_,rfl⟩
 rw[<-hq]at h1 h2 h3 h4 h5 h6
 have hf:lf.fit:=⟨by omega,by omega,by omega,by omega,by omega⟩
 have hr:lf.right=true:=by
  unfold Leaf.right
  exact decide_eq_true ⟨h1,h2,by omega,by omega,by omega,by omega, .inl h5,h6⟩
 unfold zlo at hp
 rw[<-hq]at hp
 exact zpi lf hf hr _ _ _ hp
end
section
theorem zx9{P:Program}{f:FuncId}{ps qs:List RV}{res:Res}(c:Cvs ps qs)(h:zab P f qs res):zab P f ps res:=⟨h.1,λw k vs hp=>h.2 w k vs (c.at_ hp)⟩
abbrev boxS:ByteArray:=⟨#[98,111,120]⟩
theorem zt4(s:List UInt8)(label:ByteArray)(hs:s.length<=1000000000)(hl:label.size<=1000000):zab Tryz.prog 21 [bs s,Str label] (.r (bs (labB s (sB label) [] 32))):=by
 refine zaa (T:=Tab) mixed Tab_ok Tryz.func21 rfl (by kernel_rfl) ?_
 refine Vcall.mk' (zvo s label [] 32 (by omega) hs (by omega) (by simp)) (zj (cr) (zj (cr) (zj (Cv.nil 1) (zm _)))) ?_
 exact cr
theorem zrh(s x p q:List UInt8)(label:ByteArray)(c1:zab Tryz.prog 21 [bs s,Str label] (.r (bs x)))(c2:zab Tryz.prog 49 [bs x] (.r (bs p)))(c3:zab Tryz.prog 50 [bs p] (.r (.tu [bs q,Er 0]))):
  zab Tryz.prog 16 [bs s,Str label] (.r (.tu [bs p,bs q])):=by
 refine zaa (T:=Tab) mixed Tab_ok Tryz.func16 rfl (by kernel_rfl) ?_
 refine zd c1 ?_
 refine zd c2 ?_
 refine zd c3 ?_
 exact⟨_,rfl,cr⟩
def Leaf.box2(l:Leaf)(b:List UInt8):Leaf:={l with box:=b,src:=2,parent:=[]}
theorem zjc(l:Leaf)(b:List UInt8):Cv (.ag [bs b,bs l.sign,bs l.ident, .i .u8 2,nl,bs l.sig]) (.ag (l.box2 b).c):=
 Cv.ag (zj (cr) (zj (cr) (zj (cr) (zj (cr) (zj (Cv.nil 1) (zj (cr) Cvs.nil))))))
theorem zrk(l:Leaf)(seed sig group:List UInt8)(at_:Int)(hs:seed.length≠32):zab Tryz.prog 14 [.ag l.c,bs seed,bs sig,bs group,I at_] (.r (.tu [.ag zl.c,bs [],Er 1])):=by
 refine zaa (T:=Tab) mixed Tab_ok Tryz.func14 rfl (by kernel_rfl) ?_
 refine zq (by simp only[zb];omega) (zo ?_)
 refine za rfl rfl ?_
 exact⟨_,rfl,Cv.tu (zj zey (zj (Cv.nil 1) (zm _)))⟩
section
variable (l:Leaf) (seed sig group x p q:List UInt8) (at_:Int) (hs:seed.length=32)
 (c1:zab Tryz.prog 48 [bs seed,Str boxS] (.r (bs x))) (c2:zab Tryz.prog 47 [bs x] (.r (.tu [bs p,bs q])))
include hs c1 c2
theorem zrl(e:Nat)(he:e≠0)(he2:e<256)(c3:zab Tryz.prog 17 [.ag (l.box2 q).c,bs sig,bs group,I at_] (.r (.tu [.ag zl.c,Er e]))):zab Tryz.prog 14 [.ag l.c,bs seed,bs sig,bs group,I at_] (.r (.tu [.ag zl.c,bs [],Er e])):=by
 refine zaa (T:=Tab) mixed Tab_ok Tryz.func14 rfl (by kernel_rfl) ?_
 refine zt (by simp only[zb];omega) (zp ?_)
 refine zd c1 ?_
 refine zd c2 ?_
 refine za rfl rfl ?_
 refine Vcall.mk' c3 (zj (zjc l q) (zm _)) ?_
 refine zq (by simp only[zb];omega) (zo ?_)
 refine za rfl rfl ?_
 exact⟨_,rfl,Cv.tu (zj zey (zj (Cv.nil 1) (zm _)))⟩
theorem zt3(o:Leaf)(c3:zab Tryz.prog 17 [.ag (l.box2 q).c,bs sig,bs group,I at_] (.r (.tu [.ag o.c,Er 0]))):zab Tryz.prog 14 [.ag l.c,bs seed,bs sig,bs group,I at_] (.r (.tu [.ag o.c,bs p,Er 0])):=by
 refine zaa (T:=Tab) mixed Tab_ok Tryz.func14 rfl (by kernel_rfl) ?_
 refine zt (by simp only[zb];omega) (zp ?_)
 refine zd c1 ?_
 refine zd c2 ?_
 refine za rfl rfl ?_
 refine Vcall.mk' c3 (zj (zjc l q) (zm _)) ?_
 refine zt rfl (zp ?_)
 refine za rfl rfl ?_
 refine za rfl rfl ?_
 exact⟨_,rfl,cr⟩
end
def zeq(l:Leaf):Bool:=decide (l.box.length<=200/\l.sign.length<=200/\l.ident.length<=200/\l.parent.length<=200/\l.sig.length<=200)
theorem zf1(l:Leaf):zab Tryz.prog 13 [.ag [.i .u8 0,bs l.box,bs l.sign,bs l.ident,U8 l.src,bs l.parent,bs l.sig,nl,nl,nl]] (.r (.b (zeq l))):=by
 have h:=zvp ⟨0,l,zpr⟩
 have e:(⟨0,l,zpr⟩:Node).small=zeq l:=by
  unfold Node.small zeq
  rw[Bool.eq_iff_iff]
  simp only[decide_eq_true_eq]
  constructor
  ·rintro⟨a,b,c,d,e,_⟩;exact⟨a,b,c,d,e⟩
  ·rintro⟨a,b,c,d,e⟩;exact⟨a,b,c,d,e,Nat.zero_le _,Nat.zero_le _,Nat.zero_le _⟩
 rw[e]at h
 exact zx9 (zj (Cv.ag (zj (cr) (zj (cr) (zj (cr) (zj (cr) (zj (cr) (zj (cr) (zj (cr) (zj (Cv.nil 1) (zj (Cv.nil 1) (zj (Cv.nil 1) Cvs.nil))))))))))) Cvs.nil) h
section
variable (l:Leaf) (seed sig group:List UInt8) (at_:Int) (hal:zab Tryz.prog 7 [] (.r (.b true)))
include hal
theorem zpm(hs:seed.length≠32)(c:zab Tryz.prog 14 [.ag l.c,bs seed,bs sig,bs group,I at_] (.r (.tu [.ag zl.c,bs [],Er 1]))):
  zab Tryz.prog 4 [.ag l.c,bs seed,bs sig,bs group,I at_] (.r (.b true)):=by
 refine zaa (T:=Tab) mixed Tab_ok Tryz.func4 rfl (by kernel_rfl) ?_
 refine zd hal ?_
 refine zt rfl (zp ?_)
 refine za rfl rfl ?_
 refine zx (zf1 l) (λk0=>zt rfl ?_) (λk0=>zq rfl (zo (cr)))
 refine zg (λk1=>zo (cr)) (λk1=>?_)
 refine zg (λk2=>zo (cr)) (λk2=>?_)
 refine zg (λk3=>zo (cr)) (λk3=>zp ?_)
 refine za rfl rfl ?_
 refine zd c ?_
 refine zq (by simp only[zb];omega) (zo ?_)
 refine zc (m:=1) rfl (by decide) ?_
 refine zq rfl ?_
 refine za rfl rfl ?_
 have hz:=zfk zl zl
 rw[decide_eq_true rfl]at hz
 refine Vcall.mk' hz (zj (cr) (zj zey Cvs.nil)) ?_
 refine zq rfl ?_
 exact cr
variable (p q:List UInt8) (hs:seed.length=32)
 (c4:zab Tryz.prog 16 [bs seed,Str boxS] (.r (.tu [bs p,bs q])))
include hs c4
theorem zpn(e:Nat)(he:e≠0)(he2:e<256)
  (c:zeq l=true->group.length<=100->zab Tryz.prog 14 [.ag l.c,bs seed,bs sig,bs group,I at_] (.r (.tu [.ag zl.c,bs [],Er e])))
  (c3:zeq l=true->group.length<=100->zab Tryz.prog 17 [.ag (l.box2 q).c,bs sig,bs group,I at_] (.r (.tu [.ag zl.c,Er e]))):
  zab Tryz.prog 4 [.ag l.c,bs seed,bs sig,bs group,I at_] (.r (.b true)):=by
 refine zaa (T:=Tab) mixed Tab_ok Tryz.func4 rfl (by kernel_rfl) ?_
 refine zd hal ?_
 refine zt rfl (zp ?_)
 refine za rfl rfl ?_
 refine zx (zf1 l) (λk0=>zt rfl ?_) (λk0=>zq rfl (zo (cr)))
 refine zg (λk1=>zo (cr)) (λk1=>?_)
 refine zg (λk2=>zo (cr)) (λk2=>?_)
 refine zg (λk3=>zo (cr)) (λk3=>zp ?_)
 simp only[zb]at k3
 refine za rfl rfl ?_
 refine zd (c k0 (by omega)) ?_
 refine zt (by simp only[zb];omega) (zp ?_)
 refine zd c4 ?_
 refine za rfl rfl ?_
 refine Vcall.mk' (c3 k0 (by omega)) (zj (zjc l q) (zm _)) ?_
 refine zc (m:=(e:Int)) rfl (by omega) ?_
 refine zq (by simp only[zb];omega) (zo ?_)
 refine zc (m:=(e:Int)) rfl (by omega) ?_
 refine zc (m:=(e:Int)) rfl (by omega) ?_
 refine zq (by simp) ?_
 refine za rfl rfl ?_
 have hz:=zfk zl zl
 rw[decide_eq_true rfl]at hz
 refine Vcall.mk' hz (zj (cr) (zj zey Cvs.nil)) ?_
 refine zq rfl ?_
 exact cr
theorem zrm(o:Leaf)
  (c:zeq l=true->group.length<=100->zab Tryz.prog 14 [.ag l.c,bs seed,bs sig,bs group,I at_] (.r (.tu [.ag o.c,bs p,Er 0])))
  (c3:zeq l=true->group.length<=100->zab Tryz.prog 17 [.ag (l.box2 q).c,bs sig,bs group,I at_] (.r (.tu [.ag o.c,Er 0]))):
  zab Tryz.prog 4 [.ag l.c,bs seed,bs sig,bs group,I at_] (.r (.b true)):=by
 refine zaa (T:=Tab) mixed Tab_ok Tryz.func4 rfl (by kernel_rfl) ?_
 refine zd hal ?_
 refine zt rfl (zp ?_)
 refine za rfl rfl ?_
 refine zx (zf1 l) (λk0=>zt rfl ?_) (λk0=>zq rfl (zo (cr)))
 refine zg (λk1=>zo (cr)) (λk1=>?_)
 refine zg (λk2=>zo (cr)) (λk2=>?_)
 refine zg (λk3=>zo (cr)) (λk3=>zp ?_)
 simp only[zb]at k3
 refine za rfl rfl ?_
 refine zd (c k0 (by omega)) ?_
 refine zt (by simp only[zb];omega) (zp ?_)
 refine zd c4 ?_
 refine za rfl rfl ?_
 refine Vcall.mk' (c3 k0 (by omega)) (zj (zjc l q) (zm _)) ?_
 refine zc (m:=0) rfl (by decide) ?_
 refine zt rfl (zp ?_)
 refine zc (m:=0) rfl (by decide) ?_
 refine zq rfl ?_
 refine za rfl rfl ?_
 refine za rfl rfl ?_
 have hz:=zfk o o
 rw[decide_eq_true rfl]at hz
 have hp:=zhk p p
 rw[decide_eq_true rfl]at hp
 refine zd hz ?_
 refine zd hp ?_
 exact cr
end
theorem zok(l:Leaf)(seed sig group:List UInt8)(at_:Int)(ha:i64 at_):zab Tryz.prog 4 [.ag l.c,bs seed,bs sig,bs group,I at_] (.r (.b true)):=by
 have hal:=zvt
 by_cases hs:seed.length=32
 rotate_left
 ·exact zpm l seed sig group at_ hal hs (zrk l seed sig group at_ hs)
 have hx:=zyt seed (sB boxS) [] (n:=32) (by omega)
 have c1:=zx7 seed boxS (by omega) (by decide)
 have d1:=zt4 seed boxS (by omega) (by decide)
 generalize labB seed (sB boxS) [] 32=x at hx c1 d1
 have c2:=zsd x (by omega)
 have d2:=zrj x (by omega)
 have hp:=zn9 x
 generalize zdl x=p at hp c2 d2
 have d3:=zvu p hp
 have hq:=zfg p
 generalize zgr p=q at hq c2 d3
 have c4:=zrh seed x p q boxS d1 d2 d3
 have c3:zeq l=true->group.length<=100->zab Tryz.prog 17 [.ag (l.box2 q).c,bs sig,bs group,I at_] (.r (zfn (l.box2 q) sig group at_)):=λk0 k1=>by
  simp only[zeq,decide_eq_true_eq]at k0
  obtain⟨b1,b2,b3,b4,b5⟩:=k0
  refine zlw (l.box2 q) sig group at_ ⟨?_,?_,?_,?_,?_⟩ (by omega) ?_ ha
  ·show q.length<=_;omega
  ·show l.sign.length<=_;omega
  ·show l.ident.length<=_;omega
  ·show 0<=_;omega
  ·show l.sig.length<=_;omega
  ·show q.length+l.sign.length+l.ident.length+0<=_;omega
 by_cases he:zdb (l.box2 q) sig at_=0
 ·rw[zfn,if_pos he]at c3
  generalize slOk (l.box2 q) sig group at_=o at c3
  exact zrm l seed sig group at_ hal p q hs c4 o (λk0 k1=>zt3 l seed sig group x p q at_ hs c1 c2 o (c3 k0 k1)) c3
 ·rw[zfn,if_neg he]at c3
  have hb:zdb (l.box2 q) sig at_<256:=by
   unfold zdb
   split
   ·split
    ·split<;>decide
    ·decide
   ·decide
  generalize zdb (l.box2 q) sig at_=e at c3 he hb
  exact zpn l seed sig group at_ hal p q hs c4 e he hb (λk0 k1=>zrl l seed sig group x p q at_ hs c1 c2 e he hb (c3 k0 k1)) c3
end
section
open Go.ChangeShapes Go.WideShapes Go.ChangeAt Go.RowKit
def propsRenewsC0:List Nat:=[4,7,30,73,138,71,140,139,47,97,168,169,225,269,268,130,196,313,344,176,345,346,378,380,396,379,96,107,177,167,50,103,104,175,186,102,173,174,228,172,227,123,190,116,184,199,185,189,117,188,230,272,316,273,187,22,57,118,122,192,191,231,127,119]
def propsRenewsC1:List Nat:=[59,126,129,195,232,233,235,234,274,236,275,276,317,128,193,194,197,198,238,237,277,58,120,121,124,125,60,17,51,105,52,53,106,108,178,229,23,62,61,132,131,133,141,87,32,76,145,209,258,259,77,146,210,260,261,262,211,78,147,212,148,79,149,213]
def propsRenewsC2:List Nat:=[214,150,215,263,151,216,264,217,158,221,35,82,156,161,163,222,223,266,312,74,92,142,86,159,152,160,162,85,143,204,207,256,255,303,224,267,304,340,377,307,166,305,306,90,308,309,257,310,341,113,342,343,67,135,114,183,134,226,270,271,314,315,240,278]
def propsRenewsC3:List Nat:=[294,333,334,362,390,386,329,363,322,351,352,387,353,335,364,336,354,325,357,324,355,388,356,339,375,376,389,405,406,418,407,392,393,408,419,420,423,409,410,411,412,311,326,358,243,285,327,249,295,286,328,359,360,279,48,98,297,280,246,252,254,300,338,367]
def propsRenewsC4:List Nat:=[368,391,369,370,394,395,413,371,372,373,374,301,302,247,291,290,241,245,288,289,331,265,69,330,361,287,282,281,319,318,347,381,397,414,398,382,348,349,383,384,399,400,415,421,422,416,417,385,401,402,403,404,205,242,283,320,350,321,323,284,244,68,70,136]
def propsRenewsC5:List Nat:=[200,239,201,203,202,206,248,292,332,293,250,253,299,298,296,337,365,366,251,18,208,75,15,46,144,10,33,80,34,81,153,110,179,218,219,220,154,155,112,180,181,182,109,26,54,111,36,83,157,84,37,38,31,13,14,16,21,56,115,171,49,100,101,170]
def propsRenewsC6:List Nat:=[99]
def propsRenewsC:List Nat:=propsRenewsC0++(propsRenewsC1++(propsRenewsC2++(propsRenewsC3++(propsRenewsC4++(propsRenewsC5++(propsRenewsC6))))))
theorem zel:Tryz.prog.closure 4=propsRenewsC:=by rw[zvc];kernel_rfl
noncomputable def propsRenewsIn (g:Nat):Option String:=(Tryz.prog.funcs[g]?).bind λfn=>if fn.ours||fn.body.isNone||fn.name== "runtime.NumGoroutine" then some fn.name else none
theorem znf:(Rows.propsRenewsRow.inPlace==Tryz.prog.inPlace 4)=true:=by
 unfold Program.inPlace
 rw[zel]
 have h:propsRenewsC.filterMap propsRenewsIn=Rows.propsRenewsRow.inPlace:=by kernel_rfl
 exact beq_iff_eq.2 h.symm
theorem zg6:Tryz.prog.unfollowed 4=true:=by
 unfold Program.unfollowed
 rw[zel]
 exact List.any_eq_true.2 ⟨174,List.contains_iff_mem.1 (by kernel_rfl),by kernel_rfl⟩
theorem zme:(Rows.propsRenewsRow.unfollowed==Tryz.prog.unfollowed 4)=true:=by rw[zg6];rfl
theorem zmd:(Rows.propsRenewsRow.recurses==Tryz.prog.recurses 4)=true:=by unfold Program.recurses;rw[zg6];rfl
noncomputable def propsRenewsGn (g:Nat):List Nat:=((Tryz.prog.funcs[g]?).bind (·.body)).elim [] Code.globalsNamed
theorem zl6:propsRenewsC0.flatMap propsRenewsGn=[]:=by kernel_rfl
theorem zl7:propsRenewsC1.flatMap propsRenewsGn=[]:=by kernel_rfl
theorem zl8:propsRenewsC2.flatMap propsRenewsGn=[]:=by kernel_rfl
theorem zl9:propsRenewsC3.flatMap propsRenewsGn=[]:=by kernel_rfl
theorem zma:propsRenewsC4.flatMap propsRenewsGn=[]:=by kernel_rfl
theorem zmb:propsRenewsC5.flatMap propsRenewsGn=[]:=by kernel_rfl
theorem zmc:propsRenewsC6.flatMap propsRenewsGn=[]:=by kernel_rfl
theorem zne:propsRenewsC.flatMap propsRenewsGn=[]:=by simp only[propsRenewsC,List.flatMap_append,zl6,zl7,zl8,zl9,zma,zmb,zmc,List.append_nil]
theorem zng:(Rows.propsRenewsRow.named==Tryz.prog.varsNamed 4)=true:=by
 unfold Program.varsNamed
 rw[zel]
 have h:(propsRenewsC.filterMap λg=>(Tryz.prog.funcs[g]?).bind λfn=>if fn.body.isNone then entryReads.lookup fn.name else none)=[]:=by kernel_rfl
 have k:(propsRenewsC.flatMap λg=>((Tryz.prog.funcs[g]?).bind (·.body)).elim [] Code.globalsNamed)=[]:=zne
 rw[h,k];rfl
theorem zis:joinedFacts Tryz.prog 4 Tryz.f4 Rows.propsRenewsSpec Rows.propsRenewsRow=true:=by
 unfold joinedFacts
 repeat' with_reducible apply andI
 all_goals first
  |with_reducible exact zly
  |with_reducible exact zue
  |with_reducible exact zrv
  |with_reducible exact znf
  |with_reducible exact zme
  |with_reducible exact zmd
  |with_reducible exact zng
  |(rw[zub];kernel_rfl)
  |kernel_rfl
end
section
open Go.ChangeShapes Go.WideShapes Go.ChangeAt Go.RowKit
set_option maxRecDepth 100000 in
theorem zit(os:Os)(started:os.Started)(H:Type)(enc:TypeId×Value->H):
  ReturnsInHanded {} Tryz.checked os 4 .any (Rows.propsRenewsSpec.pre6 enc Tryz.prog Tryz.f4 Rows.propsRenewsRow.domain false) (Rows.propsRenewsSpec.post enc Tryz.prog Tryz.f4 false true false false):=by
 refine returnsInHanded_of_change_sized (C:=Tryz.checked) zy4 started (by kernel_rfl) Tryz.func4
  (ChangeSpec.witness6 (enc:=enc) (C:=Tryz.checked) false ⟨#[], #[.agg #[.slice none 0 0, .slice none 0 0, .slice none 0 0, .int .u8 0, .slice none 0 0, .slice none 0 0], .slice none 0 0, .slice none 0 0, .slice none 0 0, .int .i64 0],[]⟩ 8 (by kernel_rfl) (by kernel_rfl) (by kernel_rfl) (by kernel_rfl)) ?_
 intro W base args ds gs before hval0 hW hcnd hsz0 _
 have hval: ∀(j:Nat) t v,Tryz.f4.params[j]?=some t->args[j]?=some v->Value.okWide Tryz.prog W .any base t v:=hval0
 have hW':=hW
 obtain⟨p,q,hA0,hV,rfl,hfz,hnd⟩:=hW
 have hA:DataW.TrodAll enc Tryz.prog W 0 (λ_=>true) true Tryz.f4.params.toList args.toList ds p:=hA0
 rw[Tryz.params4]at hA hval
 obtain⟨v0,vs0,d0,ds0,p0,q0,hargs,rfl,rfl,h0,r0⟩:=trodAll_cons hA
 obtain⟨v1,vs1,d1,ds1,p1,q1,rfl,rfl,rfl,h1,r1⟩:=trodAll_cons r0
 obtain⟨v2,vs2,d2,ds2,p2,q2,rfl,rfl,rfl,h2,r2⟩:=trodAll_cons r1
 obtain⟨v3,vs3,d3,ds3,p3,q3,rfl,rfl,rfl,h3,r3⟩:=trodAll_cons r2
 obtain⟨v4,vs4,d4,ds4,p4,q4,rfl,rfl,rfl,h4,r4⟩:=trodAll_cons r3
 obtain⟨rfl,rfl,rfl⟩:=trodAll_nil r4
 obtain rfl:args= #[v0,v1,v2,v3,v4]:=by cases args;simp_all
 obtain⟨rfl,rfl⟩:=trodVars_none hV
 obtain⟨a4,rfl,rfl,rfl,w4⟩:=open_int Tryz.underlying3 (hval 4 3 v4 rfl rfl) h4
 have lt0: ∀x∈p0,x.block<W.heap.size:=by obtain⟨m,hm⟩:=h0;exact DataW.trod_lt m _ _ _ hm
 obtain⟨l0,hv0⟩:=z10 (hval 0 31 v0 rfl rfl) h0
 have lt1: ∀x∈p1,x.block<W.heap.size:=by obtain⟨m,hm⟩:=h1;exact DataW.trod_lt m _ _ _ hm
 obtain⟨l1,hv1⟩:=zki (hval 1 25 v1 rfl rfl) h1
 have lt2: ∀x∈p2,x.block<W.heap.size:=by obtain⟨m,hm⟩:=h2;exact DataW.trod_lt m _ _ _ hm
 obtain⟨l2,hv2⟩:=zki (hval 2 25 v2 rfl rfl) h2
 have lt3: ∀x∈p3,x.block<W.heap.size:=by obtain⟨m,hm⟩:=h3;exact DataW.trod_lt m _ _ _ hm
 obtain⟨l3,hv3⟩:=zki (hval 3 25 v3 rfl rfl) h3
 clear hA0 hval0 hsz0
 refine((zok l0 l1 l2 l3 a4 (z33 w4)).2 W (allK W) [v0,v1,v2,v3, .int .i64 a4] (by simp only[RV.partsAt];exact⟨_,_,rfl,hv0,_,_,rfl,hv1,_,_,rfl,hv2,_,_,rfl,hv3,_,_,rfl,rfl,rfl⟩)).mono λe W' ⟨v,he,bel,k',_,hr⟩=>?_
 have hr':v= .bool true:=by simpa[Res.at_,RV.at_]using hr
 subst hr';subst he
 exact⟨_,rfl,_,_,_,[],_,[],hW',trodAll_mk1 (shut_bool Tryz.underlying4 _),(trodAll_cons_mk (Below.trod zhp (by kernel_rfl) (of_decide_eq_true (by kernel_rfl)) h0 bel lt0) (trodAll_cons_mk (Below.trod zhp (by kernel_rfl) (of_decide_eq_true (by kernel_rfl)) h1 bel lt1) (trodAll_cons_mk (Below.trod zhp (by kernel_rfl) (of_decide_eq_true (by kernel_rfl)) h2 bel lt2) (trodAll_cons_mk (Below.trod zhp (by kernel_rfl) (of_decide_eq_true (by kernel_rfl)) h3 bel lt3) (trodAll_cons_mk (shut_int Tryz.underlying3 w4) trodAll_mk0))))),rfl,bel.frame _,λh=>by cases h⟩
theorem propsRenews_holds:Rows.PropsRenewsSaid:=
 OpenClaim.holds_of_wide 4 Tryz.f4 rfl rfl rfl rfl rfl rfl rfl ⟨rfl,rfl,rfl,rfl,rfl⟩ rfl rfl rfl rfl rfl (by kernel_rfl) Tryz.func4 zis
  (of_decide_eq_true (by kernel_rfl)) (by unfold Func.isWrapper;first |(rw[if_pos (by decide+kernel)];kernel_rfl) |(rw[if_neg (by decide+kernel)];exact⟨rfl,rfl⟩))
  (λos started H enc _=>zit os started H enc)
#print axioms propsRenews_holds
end
end Go.Proofs.YtddokcpcpoihmaaGreat.Sx
