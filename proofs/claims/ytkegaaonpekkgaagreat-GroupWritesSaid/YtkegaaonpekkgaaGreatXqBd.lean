import Derived.Test.YtkegaaonpekkgaaGreatXqSxTu
import Derived.Test.YtkegaaonpekkgaaGreatXqJa
namespace Go.Proofs.YtkegaaonpekkgaaGreat.Sx
open Go.RowKit
theorem iW(x:cT)(h:x=[]):aG 114 [bs x,bs []] (.r (.b true)):=by
 have q:=sn x []
 rw[bE h]at q
 exact q
theorem aj(x:cT)(h: ¬x=[]):aG 114 [bs x,bs []] (.r (.b false)):=by
 have q:=sn x []
 rw[bD h]at q
 exact q
theorem pF{l:Leaf}{p:Prop}(h: ¬p)(hp:l=zl->p):tY l=false:=bD λe=>h (hp e)
theorem Ki(l:Leaf):aG 433 [.ag [U8 0,bs l.box,bs l.sign,bs l.ident,U8 l.src,bs l.parent,bs l.sig,nl,nl,nl],.ag Ot] (.r (.b (tY l))):=by
 have ce:aG 494 [is [],is []] (.r (.b true)):=by
  have h:=jB [] [] (by simp) (by simp)
  simpa using h
 have ci:Cvs [ns,ns] [is [],is []]:=zk (z8 1) (zk (z8 1) zA)
 have cb:=VS
 have cc:Cvs [ns,ns] [bs [],bs []]:=zk (z8 1) (zk (z8 1) zA)
 have cx: ∀x:cT,Cvs [bs x,ns] [bs x,bs []]:=λx=>zk (cr) (zk (z8 1) zA)
 refine aT Tryz.func433 rfl ?_
 refine aV ?_
 refine cU ?_
 refine cU ?_
 refine zu rfl ?_
 by_cases hs:l.src=0
 rotate_left
 ·refine zt (by simp only[zb];exactλh=>hs (UInt8.toNat_inj.1 (by simpa using h))) (zp ?_)
  exact zf (cR RV.b (pF hs λe=>by rw[e];rfl).symm)
 refine zu (by rw[hs];rfl) ?_
 refine zB ce ci ?_
 refine zu rfl ?_
 refine zq ?_
 by_cases h0:l.box=[]
 rotate_left
 ·refine zB (aj l.box h0) (cx _) ?_
  exact zf (cR RV.b (pF h0 λe=>by rw[e];rfl).symm)
 refine zB (iW l.box h0) (cx _) ?_
 by_cases h1:l.sign=[]
 rotate_left
 ·refine zB (aj l.sign h1) (cx _) ?_
  exact zf (cR RV.b (pF h1 λe=>by rw[e];rfl).symm)
 refine zB (iW l.sign h1) (cx _) ?_
 by_cases h2:l.ident=[]
 rotate_left
 ·refine zB (aj l.ident h2) (cx _) ?_
  exact zf (cR RV.b (pF h2 λe=>by rw[e];rfl).symm)
 refine zB (iW l.ident h2) (cx _) ?_
 by_cases h3:l.parent=[]
 rotate_left
 ·refine zB (aj l.parent h3) (cx _) ?_
  exact zf (cR RV.b (pF h3 λe=>by rw[e];rfl).symm)
 refine zB (iW l.parent h3) (cx _) ?_
 by_cases h4:l.sig=[]
 rotate_left
 ·refine zB (aj l.sig h4) (cx _) ?_
  exact zf (cR RV.b (pF h4 λe=>by rw[e];rfl).symm)
 refine zB (iW l.sig h4) (cx _) ?_
 refine zB cb cc ?_
 refine zB cb cc ?_
 refine zf (cR RV.b (Eq.symm (bE ?_)))
 obtain⟨a,b,c,d,e,f⟩:=l
 simp only at hs h0 h1 h2 h3 h4
 subst hs h0 h1 h2 h3 h4
 rfl
theorem qH(l:Leaf):aG 345 [.ag l.c] (.r (.b (tY l))):=by
 refine aT Tryz.func345 rfl ?_
 refine cU ?_
 refine ze (Ki l) ?_
 exact cr
theorem jJ(p:PackP)(h1:p.init.length<=1000000)(h2:p.sig.length<=1000000):aG 346 [.ag p.c] (.r (.b p.none)):=by
 refine aT Tryz.func346 rfl ?_
 refine zd (m:=((p.init.length+p.sig.length:Nat):Int)) (by omega) (by omega) ?_
 refine zh (λh=>?_) (λh=>?_)
 ·simp only[zb]at h
  refine cU ?_
  refine ze (qH p.leaf) ?_
  exact zf (cR RV.b (by unfold PackP.none;rw[bE (show p.init.length=0 by omega),bE (show p.sig.length=0 by omega)];simp))
 ·simp only[zb]at h
  refine zf (cR RV.b (Eq.symm ?_))
  unfold PackP.none
  rw[Bool.eq_false_iff]
  intro e
  simp only[bB,decide_eq_true_eq]at e
  omega
theorem Zy(p:PropP)(h1:p.pack.init.length<=1000000)(h2:p.pack.sig.length<=1000000):aG 248 [.ag p.c] (.r (.b p.none)):=by
 refine aT Tryz.func248 rfl ?_
 by_cases hk:p.kind=0
 rotate_left
 ·refine zu (by simp only[zb];exactλh=>hk (UInt8.toNat_inj.1 (by simpa using h))) ?_
  exact zf (cR RV.b (by unfold PropP.none;rw[bD hk];rfl))
 refine zt (by rw[hk];rfl) ?_
 refine cU ?_
 refine z6 (jJ p.pack h1 h2) (λh3=>?_) (λh3=>?_)
 rotate_left
 ·exact zf (cR RV.b (by unfold PropP.none;rw[h3];simp))
 refine cU ?_
 refine z6 (qH p.leaf) (λh4=>?_) (λh4=>?_)
 rotate_left
 ·exact zf (cR RV.b (by unfold PropP.none;rw[h4];simp))
 refine zG (m:=decide (p.at_=0)) ?_ ?_
 ·rw[cD]
  simp only[zb]
 ·exact zf (cR RV.b (by unfold PropP.none;rw[h3,h4,bE hk];simp))
theorem XE(n:Int):aG 245 [I n] (.r (.b (decide (0<=n/\n<65536)))):=by
 refine aT Tryz.func245 rfl ?_
 (repeat' (first|refine zh (λh=>?_) (λh=>?_)|refine zf ?_|refine zp ?_|refine zq ?_))
 all_goals refine cR RV.b (Eq.symm ?_)
 all_goals simp only[zb]at*
 all_goals omega
theorem uO{a b:UInt8}(h: ¬a=b): ¬(a.toNat:Int)=(b.toNat:Int):=λe=>h (UInt8.toNat_inj.1 (by omega))
theorem XF(p:PropP)(hp:p.sml):aG 246 [.ag p.c] (.r (.b p.right)):=by
 have hi:=hp.init
 have hs:=hp.sig
 have f1:p.pack.fit:=⟨by omega,hp.pl.fit,by omega⟩
 have f2:=hp.leaf.fit
 refine aT Tryz.func246 rfl ?_
 by_cases k1:p.kind=1
 ·refine zt (by rw[k1];rfl) (zp ?_)
  refine cU ?_
  refine z6 (Rg p.pack f1) (λh3=>?_) (λh3=>?_)
  rotate_left
  ·exact zf (cR RV.b (by unfold PropP.right;rw[cO k1,h3];rfl))
  refine cU ?_
  refine z6 (qH p.leaf) (λh4=>?_) (λh4=>?_)
  rotate_left
  ·exact zf (cR RV.b (by unfold PropP.right;rw[cO k1,h4];simp))
  refine zG (m:=decide (p.at_=0)) (by rw[cD];simp only[zb]) ?_
  exact zf (cR RV.b (by unfold PropP.right;rw[cO k1,h3,h4];rfl))
 refine zu (by simp only[zb];exact uO k1) (zq ?_)
 by_cases k2:p.kind=2
 ·refine zt (by rw[k2];rfl) (zp ?_)
  refine cU ?_
  refine z6 (jJ p.pack (by omega) (by omega)) (λh3=>?_) (λh3=>?_)
  rotate_left
  ·exact zf (cR RV.b (by unfold PropP.right;rw[cQ k1,cO k2,h3];rfl))
  refine cU ?_
  refine z6 (qJ p.leaf 2 f2) (λh4=>?_) (λh4=>?_)
  rotate_left
  ·exact zf (cR RV.b (by unfold PropP.right;rw[cQ k1,cO k2,h4];simp))
  refine zG (m:=decide (p.at_=0)) (by rw[cD];simp only[zb]) ?_
  exact zf (cR RV.b (by unfold PropP.right;rw[cQ k1,cO k2,h3,h4];rfl))
 refine zu (by simp only[zb];exact uO k2) (zq ?_)
 by_cases k3:p.kind=3
 ·refine zt (by rw[k3];rfl) (zp ?_)
  refine cU ?_
  refine z6 (jJ p.pack (by omega) (by omega)) (λh3=>?_) (λh3=>?_)
  rotate_left
  ·exact zf (cR RV.b (by unfold PropP.right;rw[cQ k1,cQ k2,cO k3,h3];rfl))
  refine cU ?_
  refine z6 (qH p.leaf) (λh4=>?_) (λh4=>?_)
  rotate_left
  ·exact zf (cR RV.b (by unfold PropP.right;rw[cQ k1,cQ k2,cO k3,h4];simp))
  refine ze (XE p.at_) ?_
  exact zf (cR RV.b (by unfold PropP.right;rw[cQ k1,cQ k2,cO k3,h3,h4];rfl))
 refine zu (by simp only[zb];exact uO k3) (zq ?_)
 exact zf (cR RV.b (by unfold PropP.right;rw[cQ k1,cQ k2,cQ k3]))
abbrev Pq(n:ItemP):RV:= .ag n.c
theorem TX(l:List ItemP)(D:ItemP->Prop)(q:ItemP->Bool)(hl:l.length<=1000000000)(hD: ∀x∈l,D x):aG 434 [uo l,.s (um aP Pq D q)] (.r (I (wP q 0 l))):=by
 refine aT Tryz.func434 rfl ?_
 refine zy (λj:Nat=>{F:=[(0,.r (uo l)),(1,.r (.s (um aP Pq D q))),(7,.r (I l.length)),(8,.r (I j))],O:=[],nx:=0}) (λj=>j<=l.length/\wP q 0 l=wP q j (l.drop j)) (λj=>l.length-j) 0 ⟨by omega,by simp⟩ (zM []) ?_
 rintro j ⟨hj,he⟩
 refine cZ (λh=>?_) λh=>?_
 ·simp only[zb]at h
  have hj':j<l.length:=by omega
  rw[cI hj']at he
  simp only[wP]at he
  refine cV (vf rfl hj') ?_
  refine cU ?_
  refine Vstep.cloB l[j] rfl rfl rfl rfl (cr) (hD _ (bY hj')) (λhq=>zp ?_) (λhq=>zq ?_)
  ·rw[hq]at he
   exact zf (by rw[he];simp)
  ·rw[hq]at he
   refine zd (m:=((j+1:Nat):Int)) (by omega) (by omega) ?_
   exact⟨j+1,⟨hj',by rw[he];simp⟩,by omega,zM []⟩
 ·simp only[zb]at h
  rw[List.drop_eq_nil_of_le (by omega)]at he
  exact zf (by rw[he];rfl)
theorem Y5(l:List ItemP)(D:ItemP->Prop)(q:ItemP->Bool)(hl:l.length<=1000000000)(hD: ∀x∈l,D x):aG 347 [uo l,.s (um aP Pq D q)] (.r (.b (l.any q))):=by
 refine aT Tryz.func347 rfl ?_
 refine ze (TX l D q hl hD) ?_
 exact zG rfl (zf (cR RV.b (by rw[cD,decide_eq_true_eq];exact(kG q l 0).2.2)))
abbrev Od(n:StpP):RV:= .ag n.c
theorem TZ(l:List StpP)(D:StpP->Prop)(q:StpP->Bool)(hl:l.length<=1000000000)(hD: ∀x∈l,D x):aG 495 [nG l,.s (um aP Od D q)] (.r (I (wP q 0 l))):=by
 refine aT Tryz.func495 rfl ?_
 refine zy (λj:Nat=>{F:=[(0,.r (nG l)),(1,.r (.s (um aP Od D q))),(7,.r (I l.length)),(8,.r (I j))],O:=[],nx:=0}) (λj=>j<=l.length/\wP q 0 l=wP q j (l.drop j)) (λj=>l.length-j) 0 ⟨by omega,by simp⟩ (zM []) ?_
 rintro j ⟨hj,he⟩
 refine cZ (λh=>?_) λh=>?_
 ·simp only[zb]at h
  have hj':j<l.length:=by omega
  rw[cI hj']at he
  simp only[wP]at he
  refine cV (vo rfl hj') ?_
  refine cU ?_
  refine Vstep.cloB l[j] rfl rfl rfl rfl (cr) (hD _ (bY hj')) (λhq=>zp ?_) (λhq=>zq ?_)
  ·rw[hq]at he
   exact zf (by rw[he];simp)
  ·rw[hq]at he
   refine zd (m:=((j+1:Nat):Int)) (by omega) (by omega) ?_
   exact⟨j+1,⟨hj',by rw[he];simp⟩,by omega,zM []⟩
 ·simp only[zb]at h
  rw[List.drop_eq_nil_of_le (by omega)]at he
  exact zf (by rw[he];rfl)
theorem Y7(l:List StpP)(D:StpP->Prop)(q:StpP->Bool)(hl:l.length<=1000000000)(hD: ∀x∈l,D x):aG 435 [nG l,.s (um aP Od D q)] (.r (.b (l.any q))):=by
 refine aT Tryz.func435 rfl ?_
 refine ze (TZ l D q hl hD) ?_
 exact zG rfl (zf (cR RV.b (by rw[cD,decide_eq_true_eq];exact(kG q l 0).2.2)))
abbrev Qg(n:BoxP):RV:= .ag n.c
theorem TV(l:List BoxP)(D:BoxP->Prop)(q:BoxP->Bool)(hl:l.length<=1000000000)(hD: ∀x∈l,D x):aG 496 [ae l,.s (um aP Qg D q)] (.r (I (wP q 0 l))):=by
 refine aT Tryz.func496 rfl ?_
 refine zy (λj:Nat=>{F:=[(0,.r (ae l)),(1,.r (.s (um aP Qg D q))),(7,.r (I l.length)),(8,.r (I j))],O:=[],nx:=0}) (λj=>j<=l.length/\wP q 0 l=wP q j (l.drop j)) (λj=>l.length-j) 0 ⟨by omega,by simp⟩ (zM []) ?_
 rintro j ⟨hj,he⟩
 refine cZ (λh=>?_) λh=>?_
 ·simp only[zb]at h
  have hj':j<l.length:=by omega
  rw[cI hj']at he
  simp only[wP]at he
  refine cV (vJ rfl hj') ?_
  refine cU ?_
  refine Vstep.cloB l[j] rfl rfl rfl rfl (cr) (hD _ (bY hj')) (λhq=>zp ?_) (λhq=>zq ?_)
  ·rw[hq]at he
   exact zf (by rw[he];simp)
  ·rw[hq]at he
   refine zd (m:=((j+1:Nat):Int)) (by omega) (by omega) ?_
   exact⟨j+1,⟨hj',by rw[he];simp⟩,by omega,zM []⟩
 ·simp only[zb]at h
  rw[List.drop_eq_nil_of_le (by omega)]at he
  exact zf (by rw[he];rfl)
theorem Y4(l:List BoxP)(D:BoxP->Prop)(q:BoxP->Bool)(hl:l.length<=1000000000)(hD: ∀x∈l,D x):aG 438 [ae l,.s (um aP Qg D q)] (.r (.b (l.any q))):=by
 refine aT Tryz.func438 rfl ?_
 refine ze (TV l D q hl hD) ?_
 exact zG rfl (zf (cR RV.b (by rw[cD,decide_eq_true_eq];exact(kG q l 0).2.2)))
theorem Gv(b:BoxP):aG 437 [Qg b] (.r (.b (jq b))):=by
 refine aT Tryz.func437 rfl ?_
 (repeat' (first|refine zh (λh=>?_) (λh=>?_)|refine zf ?_|refine zp ?_|refine zq ?_))
 all_goals refine cR RV.b (Eq.symm ?_)
 all_goals simp only[zb]at*
 all_goals unfold jq
 ·rw[bE (show b.enc.length≠32 by omega)];rfl
 ·rw[bE (show b.box.length≠48 by omega)];simp
 ·rw[bD (show¬b.enc.length≠32 by omega),bD (show¬b.box.length≠48 by omega)];rfl
theorem Gw(s:StpP)(hs:s.to.length<=1000000):aG 436 [Od s] (.r (.b (lK s))):=by
 refine aT Tryz.func436 rfl ?_
 refine zh (λh=>?_) (λh=>?_)
 ·simp only[zb]at h
  exact zf (cR RV.b (by unfold lK;rw[bE (show s.box.length≠32 by omega)];rfl))
 ·simp only[zb]at h
  refine zB (Y4 s.to (λ_=>True) jq (by omega) λ_ _=>trivial) (zk (cr) (zk (Cv.fn λb _=>Gv b) zA)) ?_
  exact zf (cR RV.b (by unfold lK;rw[bD (show¬s.box.length≠32 by omega)];rfl))
theorem Kf(w:WayP)(h1:w.leaf.fit)(h2:w.steps.length<=1000000)(h3: ∀s∈w.steps,s.to.length<=1000000):aG 350 [.ag w.c] (.r (.b w.right)):=by
 refine aT Tryz.func350 rfl ?_
 refine cU ?_
 refine z6 (qJ w.leaf 3 h1) (λh4=>?_) (λh4=>?_)
 rotate_left
 ·refine zt rfl ?_
  refine zp ?_
  exact zf (cR RV.b (by unfold WayP.right;rw[h4];rfl))
 refine zu rfl ?_
 refine cZ (λh=>?_) λh=>?_
 ·simp only[zb]at h
  exact zf (cR RV.b (by unfold WayP.right;rw[h4,bD (show¬w.steps.length<=16 by omega)];rfl))
 ·simp only[zb]at h
  refine zB (Y7 w.steps (λs=>s.to.length<=1000000) lK (by omega) h3) (zk (cr) (zk (Cv.fn λs hs=>Gw s hs) zA)) ?_
  refine zG rfl ?_
  exact zf (cR RV.b (by unfold WayP.right;rw[h4,bE (show w.steps.length<=16 by omega)];rfl))
theorem N0(i:ItemP)(hi:i.ref.length<=100/\i.prop.sml):aG 349 [.ag i.c] (.r (.b i.right)):=by
 have hr:=hi.1
 have q1:=hi.2.init
 have q2:=hi.2.sig
 refine aT Tryz.func349 rfl ?_
 refine cZ (λh=>?_) λh=>?_
 ·simp only[zb]at h
  refine cU ?_
  refine ze (XF i.prop hi.2) ?_
  exact zf (cR RV.b (by unfold ItemP.right;rw[cO (by omega)]))
 ·simp only[zb]at h
  refine zh (λh5=>?_) (λh5=>?_)
  ·simp only[zb]at h5
   refine cU ?_
   refine ze (Zy i.prop (by omega) (by omega)) ?_
   exact zf (cR RV.b (by unfold ItemP.right;rw[cQ (by omega),bE (by omega)];rfl))
  ·simp only[zb]at h5
   exact zf (cR RV.b (by unfold ItemP.right;rw[cQ (by omega),bD (by omega)];rfl))
theorem Nz(i:ItemP)(hi:i.ref.length<=100/\i.prop.sml):aG 348 [Pq i] (.r (.b (!i.right))):=by
 refine aT Tryz.func348 rfl ?_
 refine cU ?_
 refine ze (N0 i hi) ?_
 exact zG rfl (cr)
theorem VQ(c:ComP)(hc:c.sml):aG 249 [.ag c.c] (.r (.b c.right)):=by
 obtain⟨k1,k2,k3,k4,k5⟩:=hc
 refine aT Tryz.func249 rfl ?_
 refine zh (λh=>?_) (λh=>?_)
 ·simp only[zb]at h
  refine zp ?_
  exact zf (cR RV.b (by unfold ComP.right;rw[bD (show¬c.items.length<=64 by omega)];rfl))
 simp only[zb]at h
 have e1:decide (c.items.length<=64)=true:=bE (by omega)
 refine Vcall.boolc (Y5 c.items (λi=>i.ref.length<=100/\i.prop.sml) (λi=> !i.right) (by omega) k4) (zk (cr) (zk (Cv.fn λi hi=>Nz i hi) zA)) (λh6=>?_) (λh6=>?_)
 ·refine zp ?_
  exact zf (cR RV.b (by unfold ComP.right;rw[e1,h6];rfl))
 refine zq ?_
 cases hh:c.has with
 |false=>
  refine zt (by rw[hh];rfl) (zp ?_)
  refine cU ?_
  refine z6 (qH c.way.leaf) (λh7=>?_) (λh7=>?_)
  ·refine zG (m:=decide (c.way.steps.length=0)) (by rw[cD];simp only[zb];omega) ?_
   exact zf (cR RV.b (by unfold ComP.right;rw[e1,h6,hh,h7];rfl))
  ·exact zf (cR RV.b (by unfold ComP.right;rw[e1,h6,hh,h7];rfl))
 |true=>
  refine zu (by rw[hh];rfl) (zq ?_)
  refine cU ?_
  refine ze (Kf c.way k3.fit (by omega) λs hs=>by have:=(k5 s hs).to;omega) ?_
  exact zf (cR RV.b (by unfold ComP.right;rw[e1,h6,hh];rfl))
theorem Yu(c:ComP)(h1:c.items.length=0)(h2:c.has=false):c.right=(tY c.way.leaf&&decide (c.way.steps.length=0)):=by
 have hi:c.items=[]:=bU h1
 unfold ComP.right
 rw[hi,h2]
 simp
theorem Nw(c:ComP)(hc:c.sml):aG 247 [.ag c.c] (.r (.b c.none)):=by
 refine aT Tryz.func247 rfl ?_
 refine zh (λh=>?_) (λh=>?_)
 rotate_left
 ·simp only[zb]at h
  exact zf (cR RV.b (by unfold ComP.none;rw[bD (show¬c.items.length=0 by omega)];rfl))
 simp only[zb]at h
 have h1:c.items.length=0:=by omega
 cases hh:c.has with
 |true=>
  refine zu (by rw[hh];rfl) ?_
  exact zf (cR RV.b (by unfold ComP.none;rw[hh];simp))
 |false=>
  refine zt (by rw[hh];rfl) ?_
  have hg:=VQ c hc
  rw[Yu c h1 hh]at hg
  refine cU ?_
  refine zB hg (zk (zf (by simp only[ComP.c,hh])) zA) ?_
  exact zf (cR RV.b (by unfold ComP.none;rw[hh,bE h1];simp))
theorem mS(m:MesP)(hm:m.sml):aG 154 [.ag m.c] (.r (.b m.right)):=by
 obtain⟨k1,k2,k3,k4,k5,k6⟩:=hm
 have q1:=k2.init
 have q2:=k2.sig
 refine aT Tryz.func154 rfl ?_
 refine zh (λh=>?_) (λh=>?_)
 ·simp only[zb]at h
  refine zp ?_
  exact zf (cR RV.b (by unfold MesP.right;rw[bD (show¬m.group.length<=64 by omega)];rfl))
 simp only[zb]at h
 have e1:decide (m.group.length<=64)=true:=bE (by omega)
 refine z6 (XE m.frm) (λhp=>?_) (λhp=>?_)
 rotate_left
 ·refine zt rfl ?_
  refine zp ?_
  exact zf (cR RV.b (by unfold MesP.right;rw[hp];simp))
 refine zu rfl ?_
 refine zh (λh2=>?_) (λh2=>?_)
 ·simp only[zb]at h2
  refine zp ?_
  exact zf (cR RV.b (by unfold MesP.right;rw[bD (show¬m.sig.length=64 by omega)];simp))
 simp only[zb]at h2
 have e2:decide (m.sig.length=64)=true:=bE (by omega)
 refine zh (λh3=>?_) (λh3=>?_)
 ·simp only[zb]at h3
  refine zp ?_
  exact zf (cR RV.b (by unfold MesP.right;rw[bD (show¬m.mem.length=32 by omega)];simp))
 simp only[zb]at h3
 have e3:decide (m.mem.length=32)=true:=bE (by omega)
 refine zq ?_
 by_cases c2:m.kind=2
 ·refine zt (by rw[c2];rfl) (zp ?_)
  refine cU ?_
  refine z6 (XF m.prop k2) (λh4=>?_) (λh4=>?_)
  rotate_left
  ·exact zf (cR RV.b (by unfold MesP.right;rw[cO c2,h4];simp))
  refine cU ?_
  refine z6 (Nw m.com k3) (λh5=>?_) (λh5=>?_)
  rotate_left
  ·exact zf (cR RV.b (by unfold MesP.right;rw[cO c2,h5];simp))
  refine zG (m:=decide (m.tag.length=0)) (by rw[cD];simp only[zb];omega) ?_
  exact zf (cR RV.b (by unfold MesP.right;rw[cO c2,e1,e2,e3,hp,h4,h5];rfl))
 refine zu (by simp only[zb];exact uO c2) (zq ?_)
 by_cases c3:m.kind=3
 ·refine zt (by rw[c3];rfl) (zp ?_)
  refine cU ?_
  refine z6 (Zy m.prop (by omega) (by omega)) (λh4=>?_) (λh4=>?_)
  rotate_left
  ·exact zf (cR RV.b (by unfold MesP.right;rw[cQ c2,cO c3,h4];simp))
  refine cU ?_
  refine z6 (VQ m.com k3) (λh5=>?_) (λh5=>?_)
  rotate_left
  ·exact zf (cR RV.b (by unfold MesP.right;rw[cQ c2,cO c3,h5];simp))
  refine zG (m:=decide (m.tag.length=32)) (by rw[cD];simp only[zb];omega) ?_
  exact zf (cR RV.b (by unfold MesP.right;rw[cQ c2,cO c3,e1,e2,e3,hp,h4,h5];rfl))
 refine zu (by simp only[zb];exact uO c3) (zq ?_)
 exact zf (cR RV.b (by unfold MesP.right;rw[cQ c2,cQ c3];simp))
def iZ(l:Leaf):cT:=zZ []++[1]++xA l++zZ []
def vV(m:MsgP):cT:=zZ m.group++yg 8 m.epoch++[1]++yg 4 m.frm++[3]++iZ m.lf
def w6(m:MsgP):cT:=yg 2 1++yg 2 1++vV m
def ix(b:cT)(m:MsgP):cT:=b++zZ m.sig++zZ m.tag
def na(m:MsgP):cT:=ix (w6 m) m++zZ m.mem
def vi(m:MsgP)(x:CtxP):cT:=w6 m++yV x
def rS(m:MsgP)(x:CtxP):cT:=ix (w6 m++yV x) m
def tP(m:MsgP):cT:=yg 2 1++vV m++zZ m.sig
theorem SP(l:Leaf)(hr:l.right=true):(iZ l).length<=260:=by
 have h1:=rM l
 have h2:=yf []
 obtain⟨k1,k2,k3,k4,k5⟩:=oO hr
 simp only[iZ,aL,bJ,bO]at*
 omega
theorem fI(m:MsgP)(hm:m.sm):(vV m).length<=450:=by
 have h1:=yf m.group
 have h2:=hm.group
 have h3:=SP m.lf hm.lf
 simp only[vV,aL,yj,bJ,bO]
 omega
theorem mq(m:MsgP)(hm:m.sm):(w6 m).length<=550:=by
 have h1:=fI m hm
 simp only[w6,aL,yj]
 omega
theorem cy(b:cT)(m:MsgP)(hm:m.sm):(ix b m).length<=b.length+200:=by
 have h1:=yf m.sig
 have h2:=yf m.tag
 have h3:=hm.sig
 have h4:=hm.tag
 simp only[ix,aL]
 omega
def cb1:cT:=zZ []++[1]
def iY(l:Leaf):cT:=cb1++xA l
set_option maxRecDepth 20000 in
theorem NT(l:Leaf)(hr:l.right=true):aG 257 [.ag (nX l)] (.r (bs (iZ l))):=by
 refine aT Tryz.func257 rfl ?_
 have hf:=ug hr
 have c1:=qG l hf hr
 refine zE 1 (zC mixed Tab_ok ?_)
 refine cX ?_
 refine zB (wd [] [] (by simp) (by simp)) (zk (z8 1) (zk (z8 1) zA)) ?_
 rw[cG]
 refine cX ?_
 refine zE 1 (zC mixed Tab_ok ?_)
 refine cX ?_
 have hl:=rM l
 obtain⟨k1,k2,k3,k4,k5⟩:=oO hr
 have hv:=yf []
 simp only[bO]at hv
 have l1:cb1.length<=10:=by simp only[cb1,aL,bJ,bO];omega
 have l2:(iY l).length<=300:=by rw[iY,aL];omega
 have l3:(iY l).length=cb1.length+(xA l).length:=by rw[iY,aL]
 refine Vdraw.code (Vcode.float mixed Tab_ok 9 [⟨1,77,.r (.sl 1 1 [U8 1]),[]⟩,⟨3,79,.adr 0 2,[]⟩,⟨4,80,.adr 0 2,[3]⟩,⟨5,81,.r (.ag l.c),[4]⟩,⟨8,84,.r nl,[]⟩] [(0,[]),(2,[1]),(6,[5]),(7,[])] (by kernel_rfl) (F:=[(4,.r nl),(7,.own 1),(1,.own 0)]) (O:=[(1,some (.ch 5 1 (zZ []).length ((zZ []).map U8) true)),(0,some (.box ((nX l).map .r)))]) (nx:=2) (zM [(0,0),(1,1)]) ?_)
 refine⟨rfl,⟨λY=>Or.inr (Yld.read (d:=77) (e:=5) (sz:=1) (n:=1) (cells:=[U8 1]) Tab_ok (zw rfl)),λY=>zo _,λY=>zo _,λY=>za rfl rfl (zo _),λY=>zo _,trivial⟩,(76,.own 1)::[(4,.r nl),(7,.own 1),(1,.own 0)],[(1,some (.ch 5 1 (zZ []).length ((zZ []).map U8) true)),(0,some (.box ((nX l).map .r)))],2,λY=>zo _,?_⟩
 refine⟨rfl,⟨λY=>Or.inr (Yld.read (d:=77) (e:=5) (sz:=1) (n:=1) (cells:=[U8 1]) Tab_ok (zw rfl)),λY=>zo _,λY=>zo _,λY=>za rfl rfl (zo _),λY=>zo _,trivial⟩,(78,.own 2)::(76,.own 1)::[(4,.r nl),(7,.own 1),(1,.own 0)],(2,some (.ch 5 1 cb1.length (cb1.map U8) true))::(1,none)::[(1,some (.ch 5 1 (zZ []).length ((zZ []).map U8) true)),(0,some (.box ((nX l).map .r)))],3,λY=>by
  refine z7 (j:=cb1.length) (zs:=cb1.map U8) (by simp only[maxLen];omega) (by decide+kernel) (by simp only[cb1,aL];rfl) (by simp only[cb1,bM];rfl) ?_
  exact zo _,?_⟩
 refine⟨rfl,⟨λY=>Or.inr (Yld.read (d:=77) (e:=5) (sz:=1) (n:=1) (cells:=[U8 1]) Tab_ok (zw rfl)),λY=>zo _,λY=>zo _,λY=>za rfl rfl (zo _),λY=>zo _,trivial⟩,(82,.r (bs (xA l)))::(78,.own 2)::(76,.own 1)::[(4,.r nl),(7,.own 1),(1,.own 0)],(2,some (.ch 5 1 cb1.length (cb1.map U8) true))::(1,none)::[(1,some (.ch 5 1 (zZ []).length ((zZ []).map U8) true)),(0,some (.box ((nX l).map .r)))],3,λY=>ze c1 (zo _),?_⟩
 refine⟨rfl,⟨λY=>Or.inr (Yld.read (d:=77) (e:=5) (sz:=1) (n:=1) (cells:=[U8 1]) Tab_ok (zw rfl)),λY=>zo _,λY=>zo _,λY=>za rfl rfl (zo _),λY=>zo _,trivial⟩,(83,.own 3)::(82,.r (bs (xA l)))::(78,.own 2)::(76,.own 1)::[(4,.r nl),(7,.own 1),(1,.own 0)],(3,some (.ch 5 1 (iY l).length ((iY l).map U8) true))::(2,none)::(2,some (.ch 5 1 cb1.length (cb1.map U8) true))::(1,none)::[(1,some (.ch 5 1 (zZ []).length ((zZ []).map U8) true)),(0,some (.box ((nX l).map .r)))],4,λY=>by
  refine z7 (j:=(iY l).length) (zs:=(iY l).map U8) (by simp only[maxLen];omega) (by show(cb1.length+(xA l).length)*1<=_;omega) (by simp only[iY,aL]) (by simp only[iY,bM]) ?_
  exact zo _,?_⟩
 refine⟨rfl,⟨λY=>Or.inr (Yld.read (d:=77) (e:=5) (sz:=1) (n:=1) (cells:=[U8 1]) Tab_ok (zw rfl)),λY=>zo _,λY=>zo _,λY=>za rfl rfl (zo _),λY=>zo _,trivial⟩,?_⟩
 refine zB (wd (iY l) [] (by omega) (by simp)) (zk (cr) (zk (z8 1) zA)) ?_
 exact cr
def iE(m:MsgP):cT:=zZ m.group++yg 8 m.epoch++[1]
def Vt(m:MsgP):cT:=iE m++yg 4 m.frm
def aw(m:MsgP):cT:=Vt m++[3]
set_option maxRecDepth 20000 in
theorem XC(m:MsgP)(hm:m.sm):aG 173 [.ag m.c] (.r (bs (vV m))):=by
 refine aT Tryz.func173 rfl ?_
 obtain⟨h1,h2,h3,h4,h5,h6,h7,h8,h9⟩:=hm
 have v1:=yf m.group
 have v2:=SP m.lf h7
 have l1:(iE m).length<=100:=by simp only[iE,aL,yj,bJ,bO];omega
 have l2:(Vt m).length<=110:=by simp only[Vt,aL,yj];omega
 have l3:(aw m).length=(Vt m).length+1:=by rw[aw,aL];rfl
 have hf:vV m=aw m++iZ m.lf:=rfl
 have l4:(vV m).length=(aw m).length+(iZ m.lf).length:=by rw[hf,aL]
 have l0:(zZ m.group++yg 8 m.epoch).length<=90:=by simp only[aL,yj];omega
 have c1:=wd [] m.group (by simp) (by omega)
 rw[cG]at c1
 have c2:=vL (zZ m.group) 8 m.epoch (by omega) (.inr (.inr (.inr rfl)))
 have c3:=vL (iE m) 4 m.frm (by omega) (.inr (.inr (.inl rfl)))
 refine Vdraw.code (Vcode.float mixed Tab_ok 12 [⟨0,4,.adr 0 0,[]⟩,⟨1,5,.r (bs m.group),[0]⟩,⟨3,7,.adr 0 1,[]⟩,⟨4,8,.r (.i .u64 m.epoch),[3]⟩,⟨6,10,.r (.sl 1 1 [U8 1]),[]⟩,⟨8,12,.adr 0 2,[]⟩,⟨9,13,.r (I m.frm),[8]⟩,⟨10,14,.r (.i .u64 m.frm),[9]⟩] [(2,[1]),(5,[4]),(7,[6]),(11,[10])] (by kernel_rfl) (F:=[(1,.own 0)]) (O:=[(0,some (.box (m.c.map .r)))]) (nx:=1) (zM [(0,0)]) ?_)
 refine⟨rfl,⟨λY=>zo _,λY=>zo _,λY=>zo _,λY=>zo _,λY=>Or.inr (Yld.read (d:=10) (e:=5) (sz:=1) (n:=1) (cells:=[U8 1]) Tab_ok (zw rfl)),λY=>zo _,λY=>zo _,λY=>zF m.frm rfl (by omega) (zo _),trivial⟩,(6,.own 1)::[(1,.own 0)],(1,some (.ch 5 1 (zZ m.group).length ((zZ m.group).map U8) true))::[(0,some (.box (m.c.map .r)))],2,λY=>zB c1 (zk (z8 1) (zn _)) (zo _),?_⟩
 refine⟨rfl,⟨λY=>zo _,λY=>zo _,λY=>zo _,λY=>zo _,λY=>Or.inr (Yld.read (d:=10) (e:=5) (sz:=1) (n:=1) (cells:=[U8 1]) Tab_ok (zw rfl)),λY=>zo _,λY=>zo _,λY=>zF m.frm rfl (by omega) (zo _),trivial⟩,(9,.own 2)::(6,.own 1)::[(1,.own 0)],(2,some (.ch 5 1 (zZ m.group++yg 8 m.epoch).length ((zZ m.group++yg 8 m.epoch).map U8) true))::(1,some (.ch 5 1 (zZ m.group).length ((zZ m.group).map U8) true))::[(0,some (.box (m.c.map .r)))],3,λY=>ze c2 (zo _),?_⟩
 refine⟨rfl,⟨λY=>zo _,λY=>zo _,λY=>zo _,λY=>zo _,λY=>Or.inr (Yld.read (d:=10) (e:=5) (sz:=1) (n:=1) (cells:=[U8 1]) Tab_ok (zw rfl)),λY=>zo _,λY=>zo _,λY=>zF m.frm rfl (by omega) (zo _),trivial⟩,(11,.own 3)::(9,.own 2)::(6,.own 1)::[(1,.own 0)],(3,some (.ch 5 1 (iE m).length ((iE m).map U8) true))::(2,none)::(2,some (.ch 5 1 (zZ m.group++yg 8 m.epoch).length ((zZ m.group++yg 8 m.epoch).map U8) true))::(1,some (.ch 5 1 (zZ m.group).length ((zZ m.group).map U8) true))::[(0,some (.box (m.c.map .r)))],4,λY=>by
  refine z7 (j:=(iE m).length) (zs:=(iE m).map U8) (by simp only[maxLen];omega) (by show((zZ m.group++yg 8 m.epoch).length+1)*1<=_;omega) (by simp only[iE,aL];rfl) (by simp only[iE,bM];rfl) ?_
  exact zo _,?_⟩
 refine⟨rfl,⟨λY=>zo _,λY=>zo _,λY=>zo _,λY=>zo _,λY=>Or.inr (Yld.read (d:=10) (e:=5) (sz:=1) (n:=1) (cells:=[U8 1]) Tab_ok (zw rfl)),λY=>zo _,λY=>zo _,λY=>zF m.frm rfl (by omega) (zo _),trivial⟩,(15,.own 4)::(11,.own 3)::(9,.own 2)::(6,.own 1)::[(1,.own 0)],(4,some (.ch 5 1 (Vt m).length ((Vt m).map U8) true))::(3,some (.ch 5 1 (iE m).length ((iE m).map U8) true))::(2,none)::(2,some (.ch 5 1 (zZ m.group++yg 8 m.epoch).length ((zZ m.group++yg 8 m.epoch).map U8) true))::(1,some (.ch 5 1 (zZ m.group).length ((zZ m.group).map U8) true))::[(0,some (.box (m.c.map .r)))],5,λY=>ze c3 (zo _),?_⟩
 refine⟨rfl,⟨λY=>zo _,λY=>zo _,λY=>zo _,λY=>zo _,λY=>Or.inr (Yld.read (d:=10) (e:=5) (sz:=1) (n:=1) (cells:=[U8 1]) Tab_ok (zw rfl)),λY=>zo _,λY=>zo _,λY=>zF m.frm rfl (by omega) (zo _),trivial⟩,?_⟩
 refine zw ?_
 refine z7 (j:=(aw m).length) (zs:=(aw m).map U8) (by simp only[maxLen];omega) (by show((Vt m).length+1)*1<=_;omega) (by simp only[aw,aL];rfl) (by simp only[aw,bM];rfl) ?_
 refine cX ?_
 refine cU ?_
 refine ze (NT m.lf h7) ?_
 refine z7 (j:=(vV m).length) (zs:=(vV m).map U8) (by simp only[maxLen];omega) (by show((aw m).length+(iZ m.lf).length)*1<=_;omega) (by rw[hf,aL]) (by rw[hf,bM]) ?_
 exact cr
theorem YI(m:MsgP)(hm:m.sm):aG 156 [.ag m.c] (xJ (w6 m)):=by
 refine aT Tryz.func156 rfl ?_
 have hf:=XC m hm
 have hl:=fI m hm
 have h0:(yg 2 1++yg 2 1).length=4:=by rw[aL,yj]
 refine aV ?_
 refine zB (vL [] 2 1 (by simp) (.inr (.inl rfl))) (zk (z8 _) (zn _)) ?_
 rw[cG]
 refine ze (vL (yg 2 1) 2 1 (by rw[yj];omega) (.inr (.inl rfl))) ?_
 refine cU ?_
 refine ze hf ?_
 refine z7 (j:=(w6 m).length) (zs:=(w6 m).map U8) (by simp only[maxLen];omega) (by show(_+(vV m).length)*1<=_;omega) (by simp only[w6,aL]) (by simp only[w6,bM]) ?_
 exact rfl
theorem XG(b:cT)(m:MsgP)(hm:m.sm)(hb:b.length<=100000000):aG 159 [bs b,.ag m.c] (xJ (ix b m)):=by
 refine aT Tryz.func159 rfl ?_
 have v1:=yf m.sig
 have h3:=hm.sig
 have h4:=hm.tag
 refine ze (wd b m.sig (by omega) (by omega)) ?_
 refine cY ?_
 refine ze (wd (b++zZ m.sig) m.tag (by rw[aL];omega) (by omega)) ?_
 exact rfl
theorem Nt(m:MsgP)(hm:m.sm):aG 174 [.ptr m.c] (.r (bs (na m))):=by
 refine aT Tryz.func174 rfl ?_
 have hh:=YI m hm
 have hl:=mq m hm
 have hs:=XG (w6 m) m hm (by omega)
 have hl2:=cy (w6 m) m hm
 have h6:=hm.mem
 refine aV ?_
 refine cU ?_
 refine ze hh ?_
 refine cU ?_
 refine ze hs ?_
 refine zg rfl ?_
 refine ze (wd (ix (w6 m) m) m.mem (by omega) (by omega)) ?_
 exact cr
theorem QU(m:MsgP)(hm:m.sm)(x:CtxP)(hx:x.fit):aG 155 [.ptr m.c,.ptr x.c] (.r (bs (vi m x))):=by
 refine aT Tryz.func155 rfl ?_
 have hh:=YI m hm
 have hl:=mq m hm
 have hc:=mm x hx
 have hl2:=tI x
 obtain⟨k1,k2,k3,k4⟩:=id hx
 refine aV ?_
 refine cU ?_
 refine ze hh ?_
 refine cU ?_
 refine ze hc ?_
 refine z7 (j:=(vi m x).length) (zs:=(vi m x).map U8) (by simp only[maxLen];omega) (by show((w6 m).length+(yV x).length)*1<=_;omega) (by simp only[vi,aL]) (by simp only[vi,bM]) ?_
 exact cr
theorem QV(m:MsgP)(hm:m.sm)(x:CtxP)(hx:x.fit):aG 158 [.ptr m.c,.ptr x.c] (.r (bs (rS m x))):=by
 refine aT Tryz.func158 rfl ?_
 have hh:=YI m hm
 have hl:=mq m hm
 have hc:=mm x hx
 have hl2:=tI x
 obtain⟨k1,k2,k3,k4⟩:=id hx
 have l3:(vi m x).length=(w6 m).length+(yV x).length:=aL
 have hs:=XG (vi m x) m hm (by omega)
 refine Vdraw.code (Vcode.float mixed Tab_ok 7 [⟨0,3,.r (.ag m.c),[]⟩,⟨2,5,.r (.ag x.c),[]⟩,⟨5,8,.r (.ag m.c),[]⟩] [(1,[0]),(3,[2]),(4,[]),(6,[5])] (by kernel_rfl) (F:=[(0,.r (.ptr m.c)),(1,.r (.ptr x.c))]) (O:=[]) (nx:=0) (zM []) ?_)
 refine⟨rfl,⟨λY=>za rfl rfl (zo _),λY=>za rfl rfl (zo _),λY=>za rfl rfl (zo _),trivial⟩,(4,.own 0)::[(0,.r (.ptr m.c)),(1,.r (.ptr x.c))],(0,some (.ch 5 1 (w6 m).length ((w6 m).map U8) true))::[],1,λY=>ze hh (zo _),?_⟩
 refine⟨rfl,⟨λY=>za rfl rfl (zo _),λY=>za rfl rfl (zo _),λY=>za rfl rfl (zo _),trivial⟩,(6,.r (bs (yV x)))::(4,.own 0)::[(0,.r (.ptr m.c)),(1,.r (.ptr x.c))],(0,some (.ch 5 1 (w6 m).length ((w6 m).map U8) true))::[],1,λY=>ze hc (zo _),?_⟩
 refine⟨rfl,⟨λY=>za rfl rfl (zo _),λY=>za rfl rfl (zo _),λY=>za rfl rfl (zo _),trivial⟩,(7,.own 1)::(6,.r (bs (yV x)))::(4,.own 0)::[(0,.r (.ptr m.c)),(1,.r (.ptr x.c))],(1,some (.ch 5 1 (vi m x).length ((vi m x).map U8) true))::(0,none)::(0,some (.ch 5 1 (w6 m).length ((w6 m).map U8) true))::[],2,λY=>by
  refine z7 (j:=(vi m x).length) (zs:=(vi m x).map U8) (by simp only[maxLen];omega) (by show((w6 m).length+(yV x).length)*1<=_;omega) (by simp only[vi,aL]) (by simp only[vi,bM]) ?_
  exact zo _,?_⟩
 refine⟨rfl,⟨λY=>za rfl rfl (zo _),λY=>za rfl rfl (zo _),λY=>za rfl rfl (zo _),trivial⟩,(9,.own 2)::(7,.own 1)::(6,.r (bs (yV x)))::(4,.own 0)::[(0,.r (.ptr m.c)),(1,.r (.ptr x.c))],(2,some (.ch 5 1 (rS m x).length ((rS m x).map U8) true))::(1,some (.ch 5 1 (vi m x).length ((vi m x).map U8) true))::(0,none)::(0,some (.ch 5 1 (w6 m).length ((w6 m).map U8) true))::[],3,λY=>ze hs (zo _),?_⟩
 refine⟨rfl,⟨λY=>za rfl rfl (zo _),λY=>za rfl rfl (zo _),λY=>za rfl rfl (zo _),trivial⟩,?_⟩
 exact cr
theorem W9(m:MsgP)(hm:m.sm):aG 170 [.ptr m.c] (.r (bs (tP m))):=by
 refine aT Tryz.func170 rfl ?_
 have hf:=XC m hm
 have hl:=fI m hm
 have h3:=hm.sig
 have h0:(yg 2 1).length=2:=yj _ _
 have l1:(yg 2 1++vV m).length=2+(vV m).length:=by rw[aL,h0]
 have c1:=vL [] 2 1 (by simp) (.inr (.inl rfl))
 rw[cG]at c1
 refine Vdraw.code (Vcode.float mixed Tab_ok 7 [⟨1,3,.r (.ag m.c),[]⟩,⟨4,6,.r (.ptr (m.c.drop 29)),[]⟩,⟨5,7,.r (bs m.sig),[4]⟩] [(0,[]),(2,[1]),(3,[]),(6,[5])] (by kernel_rfl) (F:=[(0,.r (.ptr m.c))]) (O:=[]) (nx:=0) (zM []) ?_)
 refine⟨rfl,⟨λY=>za rfl rfl (zo _),λY=>zo _,λY=>zg rfl (zo _),trivial⟩,(2,.own 0)::[(0,.r (.ptr m.c))],(0,some (.ch 5 1 (yg 2 1).length ((yg 2 1).map U8) true))::[],1,λY=>zB c1 (zk (z8 _) (zn _)) (zo _),?_⟩
 refine⟨rfl,⟨λY=>za rfl rfl (zo _),λY=>zo _,λY=>zg rfl (zo _),trivial⟩,(4,.r (bs (vV m)))::(2,.own 0)::[(0,.r (.ptr m.c))],(0,some (.ch 5 1 (yg 2 1).length ((yg 2 1).map U8) true))::[],1,λY=>ze hf (zo _),?_⟩
 refine⟨rfl,⟨λY=>za rfl rfl (zo _),λY=>zo _,λY=>zg rfl (zo _),trivial⟩,(5,.own 1)::(4,.r (bs (vV m)))::(2,.own 0)::[(0,.r (.ptr m.c))],(1,some (.ch 5 1 (yg 2 1++vV m).length ((yg 2 1++vV m).map U8) true))::(0,none)::(0,some (.ch 5 1 (yg 2 1).length ((yg 2 1).map U8) true))::[],2,λY=>by
  refine z7 (j:=(yg 2 1++vV m).length) (zs:=(yg 2 1++vV m).map U8) (by simp only[maxLen];omega) (by show((yg 2 1).length+(vV m).length)*1<=_;omega) (by simp only[aL]) (by simp only[bM]) ?_
  exact zo _,?_⟩
 refine⟨rfl,⟨λY=>za rfl rfl (zo _),λY=>zo _,λY=>zg rfl (zo _),trivial⟩,(8,.own 2)::(5,.own 1)::(4,.r (bs (vV m)))::(2,.own 0)::[(0,.r (.ptr m.c))],(2,some (.ch 5 1 (tP m).length ((tP m).map U8) true))::(1,some (.ch 5 1 (yg 2 1++vV m).length ((yg 2 1++vV m).map U8) true))::(0,none)::(0,some (.ch 5 1 (yg 2 1).length ((yg 2 1).map U8) true))::[],3,λY=>ze (wd (yg 2 1++vV m) m.sig (by omega) (by omega)) (zo _),?_⟩
 refine⟨rfl,⟨λY=>za rfl rfl (zo _),λY=>zo _,λY=>zg rfl (zo _),trivial⟩,?_⟩
 exact cr
theorem Kd(m:MsgP)(hm:m.sm):aG 104 [.ag m.c] (.r (.tu [bs (na m),Er 0])):=by
 refine aT Tryz.func104 rfl ?_
 refine cU ?_
 refine ze (mn m hm) ?_
 refine zJ (xO (id:=0) (t:=1) m.c rfl rfl) (Vstep.mkfunS rfl rfl ?_)
 refine ze (qM true _ _ (na m) λ_=>Nt m hm) ?_
 exact⟨_,rfl,cr⟩
theorem XH(m:MsgP)(hm:m.sm)(x:CtxP)(hx:x.fit):aG 76 [.ag m.c,.ag x.c] (.r (.tu [bs (vi m x),Er 0])):=by
 refine aT Tryz.func76 rfl ?_
 refine cU ?_
 refine ze (mn m hm) ?_
 refine zJ ((xO (id:=0) (t:=2) m.c rfl rfl).trans (xO (id:=1) (t:=3) x.c rfl rfl)) (Vstep.mkfunS rfl rfl ?_)
 refine ze (qM true _ _ (vi m x) λ_=>QU m hm x hx) ?_
 exact⟨_,rfl,cr⟩
theorem gr(m:MsgP)(hm:m.sm)(x:CtxP)(hx:x.fit):aG 77 [.ag m.c,.ag x.c] (.r (.tu [bs (rS m x),Er 0])):=by
 refine aT Tryz.func77 rfl ?_
 refine cU ?_
 refine ze (mn m hm) ?_
 refine zJ ((xO (id:=0) (t:=2) m.c rfl rfl).trans (xO (id:=1) (t:=3) x.c rfl rfl)) (Vstep.mkfunS rfl rfl ?_)
 refine ze (qM true _ _ (rS m x) λ_=>QV m hm x hx) ?_
 exact⟨_,rfl,cr⟩
theorem VO(m:MsgP)(hm:m.sm):aG 99 [.ag m.c] (.r (.tu [bs (tP m),Er 0])):=by
 refine aT Tryz.func99 rfl ?_
 refine cU ?_
 refine ze (mn m hm) ?_
 refine zJ (xO (id:=0) (t:=1) m.c rfl rfl) (Vstep.mkfunS rfl rfl ?_)
 refine ze (qM true _ _ (tP m) λ_=>W9 m hm) ?_
 exact⟨_,rfl,cr⟩
theorem PropP.right1{p:PropP}(h:p.right=true)(k:p.kind=1):p.pack.right=true:=by
 unfold PropP.right at h
 rw[cO k]at h
 simp only[bB]at h
 exact h.1.1
theorem PropP.right2{p:PropP}(h:p.right=true)(k1: ¬p.kind=1)(k:p.kind=2):p.leaf.right=true:=by
 unfold PropP.right at h
 rw[cQ k1,cO k]at h
 simp only[bB]at h
 exact h.1.2.1
theorem PropP.right3{p:PropP}(h:p.right=true)(k1: ¬p.kind=1)(k2: ¬p.kind=2):p.kind=3/\0<=p.at_/\p.at_<65536:=by
 unfold PropP.right at h
 rw[cQ k1,cQ k2]at h
 by_cases k3:p.kind=3
 ·rw[cO k3]at h
  simp only[bB,decide_eq_true_eq]at h
  exact⟨k3,h.2⟩
 ·rw[cQ k3]at h;cases h
theorem VP(p:PropP)(hp:p.sml)(hr:p.right=true):aG 256 [.ag p.c] (.r (bs (xZ p))):=by
 have hi:=hp.init
 have hs:=hp.sig
 have f1:p.pack.fit:=⟨by omega,hp.pl.fit,by omega⟩
 have hl:=fX hp
 have hl2:=sA hp.leaf
 refine aT Tryz.func256 rfl ?_
 refine zw ?_
 by_cases k1:p.kind=1
 ·have h1:=PropP.right1 hr k1
  have cp:=eK p.pack f1 (PackP.right_leaf h1)
  have hpl:(uw p.pack).length<=1300:=by rw[pI,aL]at hl;omega
  have e:xZ p=[1]++pI p.pack:=cO k1
  refine zt (by rw[k1];rfl) (zp ?_)
  refine aV ?_
  refine cU ?_
  refine ze cp ?_
  refine ze (wd (uw p.pack) p.pack.sig (by omega) (by omega)) ?_
  refine z7 (j:=(xZ p).length) (zs:=(xZ p).map U8) (by show 1+(pI p.pack).length<=_;simp only[maxLen];omega) (by show(1+(pI p.pack).length)*1<=_;omega) (by rw[e];show 1+(pI p.pack).length=_;rw[aL];rfl) (by rw[e,k1];show[U8 1]++(pI p.pack).map U8=_;rw[bM];rfl) ?_
  exact cr
 refine zu (by simp only[zb];exact uO k1) (zq ?_)
 by_cases k2:p.kind=2
 ·have h1:=PropP.right2 hr k1 k2
  have e:xZ p=[2]++xA p.leaf:=by unfold xZ;rw[cQ k1,cO k2]
  refine zt (by rw[k2];rfl) (zp ?_)
  refine cU ?_
  refine ze (qG p.leaf hp.leaf.fit h1) ?_
  refine z7 (j:=(xZ p).length) (zs:=(xZ p).map U8) (by show 1+(xA p.leaf).length<=_;simp only[maxLen];omega) (by show(1+(xA p.leaf).length)*1<=_;omega) (by rw[e];show 1+(xA p.leaf).length=_;rw[aL];rfl) (by rw[e,k2];show[U8 2]++(xA p.leaf).map U8=_;rw[bM];rfl) ?_
  exact cr
 refine zu (by simp only[zb];exact uO k2) (zq ?_)
 obtain⟨k3,h0,h1⟩:=PropP.right3 hr k1 k2
 have e:xZ p=[3]++yg 4 (xy p.at_):=by unfold xZ;rw[cQ k1,cQ k2]
 refine zF (n:=xy p.at_) (by unfold xy;omega) (by unfold xy;omega) ?_
 refine zB (vL [3] 4 (xy p.at_) (by simp) (.inr (.inr (.inl rfl)))) (zk (zf (by rw[k3];rfl)) (zn _)) ?_
 exact zf (by rw[e];rfl)
def xr(c:ComP)(j:Nat):cT:=(c.items.take j).flatMap tw
def qQ(c:ComP)(j:Nat):cT:=xr c j++[2]
def tz(c:ComP)(j:Nat):cT:=xr c j++[1]
theorem kL{c:ComP}(h:c.sml)(j:Nat):(xr c j).length<=105000:=Uk h j
theorem gA{c:ComP}{j:Nat}(h:j<c.items.length):xr c (j+1)=xr c j++tw c.items[j]:=by
 unfold xr
 rw[List.take_add_one,bA h,List.flatMap_append]
 simp
theorem ComP.right_item{c:ComP}(h:c.right=true){i:ItemP}(hi:i∈c.items):i.right=true:=by
 unfold ComP.right at h
 simp only[bB,Bool.not_eq_true',List.any_eq_false]at h
 have:=h.1.2 i hi
 simpa using this
end Go.Proofs.YtkegaaonpekkgaaGreat.Sx
