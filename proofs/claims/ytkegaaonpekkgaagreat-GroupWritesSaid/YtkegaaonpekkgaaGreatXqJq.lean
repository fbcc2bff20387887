import Derived.Test.YtkegaaonpekkgaaGreatXqJp
import Derived.Test.YtkegaaonpekkgaaGreatXqHq
import Derived.Test.YtkegaaonpekkgaaGreatXqBf
import Derived.Test.YtkegaaonpekkgaaGreatXqKa
import Derived.Test.YtkegaaonpekkgaaGreatXqJa
namespace Go.Proofs.YtkegaaonpekkgaaGreat.Sx
open Go.RowKit
set_option maxHeartbeats 2000000
theorem Pe(p:PackP):aG 147 [.ag p.c] (.r (.b (nS p))):=by
 refine aT Tryz.func147 rfl ?_
 refine zh (λk1=>?_) (λk1=>?_)
 ·simp only[zb]at k1
  refine zh (λk2=>?_) (λk2=>?_)
  ·simp only[zb]at k2
   refine cU ?_
   refine ze (mp p.leaf) ?_
   exact zf (by unfold nS;rw[bE (by omega),bE (by omega)];rfl)
  ·simp only[zb]at k2
   exact zf (by unfold nS;rw[bE (by omega),decide_eq_false (p:=p.sig.length<=100) (by omega)];rfl)
 ·simp only[zb]at k1
  exact zf (by unfold nS;rw[decide_eq_false (p:=p.init.length<=100) (by omega)];rfl)
theorem XK(p:PropP):aG 70 [.ag p.c] (.r (.b (pS p))):=by
 have c1:=Pe p.pack
 refine aT Tryz.func70 rfl ?_
 refine cU ?_
 refine z6 c1 (λh=>?_) (λh=>?_)
 ·refine cU ?_
  refine ze (mp p.leaf) ?_
  exact zf (cR RV.b (by unfold pS;rw[h];rfl))
 ·exact zf (cR RV.b (by unfold pS;rw[h];rfl))
theorem Ve{α:Type}{q:α->Bool}{l:List α}{j:Nat}(hj:l.length<=j)(h: ∀x∈l.take j,q x=true):l.all q=true:=by
 rw[bF hj]at h
 exact List.all_eq_true.2 h
theorem Yi{α:Type}{q:α->Bool}{l:List α}{j:Nat}(hj:j<l.length)(h:q l[j]=false):l.all q=false:=by
 rw[<-Bool.not_eq_true,List.all_eq_true]
 intro k
 have:=k _ (bY hj)
 rw[h]at this
 cases this
theorem fq{α:Type}{q:α->Bool}{l:List α}{j:Nat}(hj:j<l.length)(h: ∀x∈l.take j,q x=true)(h2:q l[j]=true): ∀x∈l.take (j+1),q x=true:=by
 intro x hx
 rw[bX hj,List.mem_append]at hx
 rcases hx with hx |hx
 ·exact h x hx
 ·rw[List.mem_singleton.1 hx];exact h2
theorem NM(c:ComP):aG 71 [.ag c.c] (.r (.b (uj c))):=by
 have cl:=mp c.way.leaf
 refine aT Tryz.func71 rfl ?_
 refine zh (λh1=>zp ?_) (λh1=>?_)
 ·simp only[zb]at h1
  exact zf (cR RV.b (by unfold uj;rw[bD (show¬c.items.length<=70 by omega)];rfl))
 simp only[zb]at h1
 have e1:decide (c.items.length<=70)=true:=bE (by omega)
 refine zh (λh2=>zp ?_) (λh2=>?_)
 ·simp only[zb]at h2
  exact zf (cR RV.b (by unfold uj;rw[e1,bD (show¬c.way.steps.length<=20 by omega)];rfl))
 simp only[zb]at h2
 have e2:decide (c.way.steps.length<=20)=true:=bE (by omega)
 refine cU ?_
 refine z6 cl (λh3=>?_) (λh3=>?_)
 rotate_left
 ·refine cY ?_
  exact zf (cR RV.b (by unfold uj;rw[e1,e2,h3];rfl))
 refine cX ?_
 have bad1: ∀{j:Nat} (hj:j<c.items.length),sS c.items[j]=false->uj c=false:=λhj hb=>by
  unfold uj
  rw[Yi hj hb]
  simp
 have bad2: ∀{j:Nat} (hj:j<c.way.steps.length),td c.way.steps[j]=false->uj c=false:=λhj hb=>by
  unfold uj
  rw[Yi hj hb]
  simp
 refine zy (λj:Nat=>⟨[(1,.own 0),(3,.r (I j))],[(0,some (.box (c.c.map .r)))],1⟩) (λj=>j<=c.items.length/\∀x∈c.items.take j,sS x=true) (λj=>c.items.length-j) 0 ⟨by omega,by simp⟩ (zM [(0,0)]) ?_
 rintro j ⟨hj,hq⟩
 refine cZ (λh=>?_) λh=>?_
 ·simp only[zb]at h
  have hj':j<c.items.length:=by omega
  have hbad:=bad1 hj'
  have next:=λhr=>fq (q:=sS) hj' hq hr
  refine cV (vf rfl hj') (zg rfl ?_)
  refine zh (λk1=>zp ?_) (λk1=>?_)
  ·simp only[zb]at k1
   exact zf (cR RV.b (hbad (by unfold sS;rw[bD (show¬c.items[j].ref.length<=100 by omega)];rfl)).symm)
  simp only[zb]at k1
  have e3:decide (c.items[j].ref.length<=100)=true:=bE (by omega)
  refine cV (vf rfl hj') (cU ?_)
  refine z6 (XK c.items[j].prop) (λk2=>?_) (λk2=>?_)
  ·refine cX ?_
   refine zd (m:=((j+1:Nat):Int)) (by omega) (by omega) ?_
   exact⟨j+1,⟨hj',next (by unfold sS;rw[e3,k2];rfl)⟩,by omega,zM [(0,0)]⟩
  ·refine cY ?_
   exact zf (cR RV.b (hbad (by unfold sS;rw[k2];simp)).symm)
 simp only[zb]at h
 have a1:=Ve (q:=sS) (show c.items.length<=j by omega) hq
 refine zy (λj:Nat=>⟨[(1,.own 0),(4,.r (I j))],[(0,some (.box (c.c.map .r)))],1⟩) (λj=>j<=c.way.steps.length/\∀x∈c.way.steps.take j,td x=true) (λj=>c.way.steps.length-j) 0 ⟨by omega,by simp⟩ (zM [(0,0)]) ?_
 rintro i ⟨hi,hp⟩
 refine zh (λh'=>zp ?_) (λh'=>zq ?_)
 ·simp only[zb]at h'
  have hi':i<c.way.steps.length:=by omega
  have hbad:=bad2 hi'
  have next:=λhr=>fq (q:=td) hi' hp hr
  refine cV (vo rfl hi') ?_
  refine cU ?_
  generalize c.way.steps[i]=s at next hbad⊢
  refine zh (λk1=>zp ?_) (λk1=>?_)
  ·simp only[zb]at k1
   exact zf (cR RV.b (hbad (by unfold td;rw[bD (show¬s.box.length<=100 by omega)];rfl)).symm)
  simp only[zb]at k1
  have e3:decide (s.box.length<=100)=true:=bE (by omega)
  refine cZ (λk2=>?_) λk2=>?_
  ·simp only[zb]at k2
   exact zf (cR RV.b (hbad (by unfold td;rw[bD (show¬s.to.length<=20 by omega)];simp)).symm)
  simp only[zb]at k2
  have e4:decide (s.to.length<=20)=true:=bE (by omega)
  refine zy (λk:Nat=>⟨[(1,.own 0),(4,.r (I i)),(5,.own 1),(6,.r (I k))],[(0,some (.box (c.c.map .r))),(1,some (.box (s.c.map .r)))],2⟩) (λk=>k<=s.to.length/\∀x∈s.to.take k,sQ x=true) (λk=>s.to.length-k) 0 ⟨by omega,by simp⟩ (zM [(0,0),(1,1)]) ?_
  rintro k ⟨hk,hr⟩
  refine cZ (λh5=>?_) λh5=>?_
  ·simp only[zb]at h5
   have hk':k<s.to.length:=by omega
   have nx:=λhr'=>fq (q:=sQ) hk' hr hr'
   have no:sQ s.to[k]=false->uj c=false:=λhb=>hbad (by unfold td;rw[Yi hk' hb];simp)
   refine cV (vJ rfl hk') (zg rfl ?_)
   refine zh (λk3=>zp ?_) (λk3=>?_)
   ·simp only[zb]at k3
    exact zf (cR RV.b (no (by unfold sQ;rw[bD (show¬s.to[k].enc.length<=100 by omega)];rfl)).symm)
   simp only[zb]at k3
   refine cV (vJ rfl hk') (zg rfl ?_)
   refine cZ (λk4=>?_) λk4=>?_
   ·simp only[zb]at k4
    exact zf (cR RV.b (no (by unfold sQ;rw[bD (show¬s.to[k].box.length<=100 by omega)];simp)).symm)
   simp only[zb]at k4
   refine zd (m:=((k+1:Nat):Int)) (by omega) (by omega) ?_
   exact⟨k+1,⟨hk',nx (by unfold sQ;rw[bE (show s.to[k].enc.length<=100 by omega),bE (show s.to[k].box.length<=100 by omega)];rfl)⟩,by omega,zM [(0,0),(1,1)]⟩
  ·simp only[zb]at h5
   have a3:=Ve (q:=sQ) (show s.to.length<=k by omega) hr
   refine zd (m:=((i+1:Nat):Int)) (by omega) (by omega) ?_
   exact⟨i+1,⟨hi',next (by unfold td;rw[e3,e4,a3];rfl)⟩,by omega,zM [(0,0)]⟩
 simp only[zb]at h'
 have a2:=Ve (q:=td) (show c.way.steps.length<=i by omega) hp
 exact zf (cR RV.b (by unfold uj;rw[e1,e2,h3,a1,a2];rfl))
theorem XJ(m:MesP):aG 18 [.ag m.c] (.r (.b (sU m))):=by
 have c1:=XK m.prop
 have c2:=NM m.com
 refine aT Tryz.func18 rfl ?_
 refine zh (λh1=>?_) (λh1=>?_)
 rotate_left
 ·simp only[zb]at h1
  exact zf (cR RV.b (by unfold sU;rw[bD (show¬m.group.length<=200 by omega)];rfl))
 simp only[zb]at h1
 have e1:decide (m.group.length<=200)=true:=bE (by omega)
 refine cU ?_
 refine z6 c1 (λh2=>?_) (λh2=>?_)
 rotate_left
 ·exact zf (cR RV.b (by unfold sU;rw[e1,h2];rfl))
 refine cU ?_
 refine z6 c2 (λh3=>?_) (λh3=>?_)
 rotate_left
 ·exact zf (cR RV.b (by unfold sU;rw[e1,h2,h3];rfl))
 refine zh (λh4=>?_) (λh4=>?_)
 rotate_left
 ·simp only[zb]at h4
  exact zf (cR RV.b (by unfold sU;rw[bD (show¬m.sig.length<=100 by omega)];simp))
 simp only[zb]at h4
 refine zh (λh5=>?_) (λh5=>?_)
 rotate_left
 ·simp only[zb]at h5
  exact zf (cR RV.b (by unfold sU;rw[bD (show¬m.tag.length<=100 by omega)];simp))
 simp only[zb]at h5
 refine zG (m:=decide (m.mem.length<=100)) (by rw[cD];simp only[zb];omega) ?_
 exact zf (cR RV.b (by unfold sU;rw[e1,h2,h3,bE (show m.sig.length<=100 by omega),bE (show m.tag.length<=100 by omega)];rfl))
def jd(x:CtxP):Bool:=decide (x.group.length<=200)&&decide (x.tree.length<=200)&&decide (x.trans.length<=200)
theorem NN(x:CtxP):aG 19 [.ag x.c] (.r (.b (jd x))):=by
 refine aT Tryz.func19 rfl ?_
 refine zh (λh1=>?_) (λh1=>?_)
 rotate_left
 ·simp only[zb]at h1
  exact zf (cR RV.b (by unfold jd;rw[bD (show¬x.group.length<=200 by omega)];rfl))
 simp only[zb]at h1
 refine zh (λh2=>?_) (λh2=>?_)
 rotate_left
 ·simp only[zb]at h2
  exact zf (cR RV.b (by unfold jd;rw[bD (show¬x.tree.length<=200 by omega)];simp))
 simp only[zb]at h2
 refine zG (m:=decide (x.trans.length<=200)) (by rw[cD];simp only[zb];omega) ?_
 exact zf (cR RV.b (by unfold jd;rw[bE (show x.group.length<=200 by omega),bE (show x.tree.length<=200 by omega)];rfl))
theorem dw(l:Leaf):aG 95 [.ag l.c,.ag l.c] (.r (.b true)):=by
 have h:=Zi l l
 rw[bE rfl]at h
 exact h
theorem LW(p:PackP):aG 94 [.ag p.c,.ag p.c] (.r (.b true)):=by
 refine aT Tryz.func94 rfl ?_
 refine ze (wn p.init) ?_
 refine cU ?_
 refine cU ?_
 refine ze (dw p.leaf) ?_
 refine ze (wn p.sig) ?_
 exact cr
theorem jG(p:PropP):aG 32 [.ag p.c,.ag p.c] (.r (.b true)):=by
 refine aT Tryz.func32 rfl ?_
 refine zt (by simp only[zb]) ?_
 refine cU ?_
 refine cU ?_
 refine ze (LW p.pack) ?_
 refine cU ?_
 refine cU ?_
 refine ze (dw p.leaf) ?_
 refine zt (by simp only[zb]) ?_
 exact cr
theorem Ge(c:ComP)(hl:c.items.length<=1000000)(hl1:c.way.steps.length<=1000000)(hl2: ∀s∈c.way.steps,s.to.length<=1000000):aG 160 [.ag c.c,.ag c.c] (.r (.b true)):=by
 refine aT Tryz.func160 rfl ?_
 refine zu (by simp only[zb]) ?_
 refine zu (by simp only[zb]) ?_
 refine cU ?_
 refine cU ?_
 refine ze (dw c.way.leaf) ?_
 refine zu rfl ?_
 refine zu (by simp only[zb]) (zq ?_)
 refine zy (λj:Nat=>⟨[(2,.own 0),(3,.own 1),(5,.r (I j))],[(0,some (.box (c.c.map .r))),(1,some (.box (c.c.map .r)))],2⟩) (λj=>j<=c.items.length) (λj=>c.items.length-j) 0 (by omega) (zM [(0,0),(1,1)]) ?_
 intro j hj
 refine cZ (λh=>?_) λh=>?_
 ·simp only[zb]at h
  have hj':j<c.items.length:=by omega
  refine aV ?_
  refine cV (vf rfl hj') (zg rfl ?_)
  refine cV (vf rfl hj') (zg rfl ?_)
  refine ze (wn c.items[j].ref) ?_
  refine zu rfl ?_
  refine cV (vf rfl hj') (cU ?_)
  refine cV (vf rfl hj') (cU ?_)
  refine ze (jG c.items[j].prop) ?_
  refine cX ?_
  refine zd (m:=((j+1:Nat):Int)) (by omega) (by omega) ?_
  exact⟨j+1,hj',by omega,zM [(0,0),(1,1)]⟩
 refine zy (λj:Nat=>⟨[(2,.own 0),(3,.own 1),(6,.r (I j))],[(0,some (.box (c.c.map .r))),(1,some (.box (c.c.map .r)))],2⟩) (λj=>j<=c.way.steps.length) (λj=>c.way.steps.length-j) 0 (by omega) (zM [(0,0),(1,1)]) ?_
 intro i hi
 refine zh (λh'=>zp ?_) (λh'=>zq ?_)
 ·simp only[zb]at h'
  have hi':i<c.way.steps.length:=by omega
  have ht:=hl2 _ (bY hi')
  refine aV ?_
  refine cV (vo rfl hi') (cU ?_)
  refine cV (vo rfl hi') (cU ?_)
  generalize c.way.steps[i]=s at ht⊢
  refine ze (wn s.box) ?_
  refine zu rfl ?_
  refine zu (by simp only[zb]) (zq ?_)
  refine zy (λk:Nat=>⟨[(2,.own 0),(3,.own 1),(6,.r (I i)),(7,.own 2),(8,.own 3),(9,.r (I k))],[(0,some (.box (c.c.map .r))),(1,some (.box (c.c.map .r))),(2,some (.box (s.c.map .r))),(3,some (.box (s.c.map .r)))],4⟩) (λk=>k<=s.to.length) (λk=>s.to.length-k) 0 (by omega) (zM [(0,0),(1,1),(2,2),(3,3)]) ?_
  intro k hk
  refine cZ (λh5=>?_) λh5=>?_
  ·simp only[zb]at h5
   have hk':k<s.to.length:=by omega
   refine aV ?_
   refine cV (vJ rfl hk') (zg rfl ?_)
   refine cV (vJ rfl hk') (zg rfl ?_)
   refine ze (wn s.to[k].enc) ?_
   refine zu rfl ?_
   refine cV (vJ rfl hk') (zg rfl ?_)
   refine cV (vJ rfl hk') (zg rfl ?_)
   refine ze (wn s.to[k].box) ?_
   refine cX ?_
   refine zd (m:=((k+1:Nat):Int)) (by omega) (by omega) ?_
   exact⟨k+1,hk',by omega,zM [(0,0),(1,1),(2,2),(3,3)]⟩
  ·refine zd (m:=((i+1:Nat):Int)) (by omega) (by omega) ?_
   exact⟨i+1,hi',by omega,zM [(0,0),(1,1)]⟩
 exact cr
theorem Se(m:MesP)(hl:m.com.items.length<=1000000)(hl1:m.com.way.steps.length<=1000000)(hl2: ∀s∈m.com.way.steps,s.to.length<=1000000):aG 81 [.ag m.c,.ag m.c] (.r (.b true)):=by
 have cc:=Ge m.com hl hl1 hl2
 refine aT Tryz.func81 rfl ?_
 refine ze (wn m.group) ?_
 refine zt (by simp only[zb]) ?_
 refine zt (by simp only[zb]) ?_
 refine zt (by simp only[zb]) ?_
 refine cU ?_
 refine cU ?_
 refine ze (jG m.prop) ?_
 refine cU ?_
 refine cU ?_
 refine ze cc ?_
 exact cr
theorem Gg(m:MesP)(hl:m.com.items.length<=1000000)(hl1:m.com.way.steps.length<=1000000)(hl2: ∀s∈m.com.way.steps,s.to.length<=1000000):aG 23 [.ag m.c,.ag m.c] (.r (.b true)):=by
 have cc:=Se m hl hl1 hl2
 refine aT Tryz.func23 rfl ?_
 refine cU ?_
 refine cU ?_
 refine ze cc ?_
 refine ze (wn m.sig) ?_
 refine ze (wn m.tag) ?_
 refine ze (wn m.mem) ?_
 exact cr
abbrev DN:ByteArray:=⟨#[77,76,83,32,49,46,48,32,80,114,111,112,111,115,97,108,32,82,101,102,101,114,101,110,99,101]⟩
def mY(b:cT):cT:=vk (zZ (sB DN)++zZ b)
theorem ED(label:ByteArray)(b:cT)(hl:label.size<=1000000)(hb:b.length<=10000000):aG 82 [vd label,bs b] (.r (bs (vk (zZ (sB label)++zZ b)))):=by
 have v1:=yf (sB label)
 have v2:=yf b
 have e0:(sB label).length=label.size:=by simp[sB]
 have c1:=x5 [] (sB label) (by simp) (by omega)
 rw[cG]at c1
 have c2:=x5 (zZ (sB label)) b (by omega) (by omega)
 have h:=jD [zZ (sB label)++zZ b] (by simp;omega)
 have e:([zZ (sB label)++zZ b]:List cT).flatMap id=zZ (sB label)++zZ b:=by simp
 rw[e]at h
 refine aT Tryz.func82 rfl ?_
 refine⟨by omega,?_⟩
 refine zB c1 (zk (z8 1) (zk (cr) zA)) ?_
 refine ze c2 ?_
 refine zw ?_
 refine ze h ?_
 exact cr
theorem G2(label:ByteArray)(b:cT)(hl:label.size<=1000000)(hb:b.length<=10000000):aG 89 [vd label,bs b] (.r (bs (vk (zZ (sB label)++zZ b)))):=by
 have v1:=yf (sB label)
 have v2:=yf b
 have e0:(sB label).length=label.size:=by simp[sB]
 refine aT Tryz.func89 rfl ?_
 refine⟨by omega,?_⟩
 refine ze (w9 (sB label) (by omega)) ?_
 refine ze (w9 b (by omega)) ?_
 refine z7 (j:=(zZ (sB label)++zZ b).length) (zs:=(zZ (sB label)++zZ b).map U8) (by simp only[maxLen,aL];omega) (by show((zZ (sB label)).length+(zZ b).length)*1<=_;omega) (by rw[aL]) (by rw[bM]) ?_
 refine ze (pw (zZ (sB label)++zZ b) (by rw[aL];omega)) ?_
 exact cr
theorem Rc(b:cT)(hb:b.length<=10000000):aG 25 [bs b] (.r (bs (mY b))):=by
 refine aT Tryz.func25 rfl ?_
 refine ze (ED DN b (by decide) hb) ?_
 exact cr
structure MesP.fine (m:MesP):Prop where
 sml:m.sml
 ints:m.ints
 right:m.right=true
theorem Nm(m:MesP)(hm:m.fine):aG 167 [.ag m.c] (.r (bs (mY (tT m)))):=by
 have hl:=YV hm.sml
 have c1:=Nu m hm.sml
 unfold uy at c1
 rw[hm.right]at c1
 refine aT Tryz.func167 rfl ?_
 refine cU ?_
 refine ze c1 ?_
 refine ze (Rc (tT m) (by omega)) ?_
 exact cr
theorem VR(m:MesP)(hs:m.sml)(hi:m.ints):aG 27 [.ag m.c] (.r (bs (mY (tT m)))):=by
 have hl:=YV hs
 refine aT Tryz.func27 rfl ?_
 refine cU ?_
 refine ze (XB m hs hi) ?_
 refine ze (G2 DN (tT m) (by decide) (by omega)) ?_
 exact cr
abbrev P4(m:MesP):RV:= .ag m.c
def qU(l:List MesP):RV:= .sl 32 l.length (l.flatMap MesP.c)
theorem pB{l:List MesP}{i:Int}{j:Nat}(h:i=j)(hj:j<l.length):((l.flatMap MesP.c).drop (i.toNat*32)).take 32=l[j].c:=uK (f:=MesP.c) (sz:=32) (λ_=>rfl) h hj
theorem Q9(l:List MesP)(D:MesP->Prop)(q:MesP->Bool)(hl:l.length<=1000000000)(hD: ∀x∈l,D x):aG 165 [qU l,.s (um aP P4 D q)] (.r (I (wP q 0 l))):=by
 refine aT Tryz.func165 rfl ?_
 refine zy (λj:Nat=>{F:=[(0,.r (qU l)),(1,.r (.s (um aP P4 D q))),(7,.r (I l.length)),(8,.r (I j))],O:=[],nx:=0}) (λj=>j<=l.length/\wP q 0 l=wP q j (l.drop j)) (λj=>l.length-j) 0 ⟨by omega,by simp⟩ (zM []) ?_
 rintro j ⟨hj,he⟩
 refine cZ (λh=>?_) λh=>?_
 ·simp only[zb]at h
  have hj':j<l.length:=by omega
  rw[cI hj']at he
  simp only[wP]at he
  refine cV (pB rfl hj') ?_
  refine cU ?_
  refine Vstep.cloB l[j] rfl rfl rfl rfl (cr) (hD _ (bY hj')) (λhq=>zp ?_) (λhq=>zq ?_)
  ·rw[hq]at he
   exact zf (by rw[he];simp)
  ·rw[hq]at he
   refine zd (m:=((j+1:Nat):Int)) (by omega) (by omega) ?_
   exact⟨j+1,⟨hj',by rw[he];simp⟩,by omega,zM []⟩
 ·simp only[zb]at h
  rw[List.drop_eq_nil_of_le (by omega)]at he
  exact zf (by rw[he];rfl)
theorem XP{α:Type}(q:α->Bool): ∀(l:List α) (j:Nat),(wP q j l= -1/\l.find? q=none)\/∃k,∃h:k<l.length,wP q j l=((j+k:Nat):Int)/\l.find? q=some l[k]
 |[],j=> .inl ⟨rfl,rfl⟩
 |x::r,j=>by
  by_cases hq:q x=true
  ·exact .inr ⟨0,by simp,by rw[wP,cO hq];rfl,by rw[List.find?_cons,hq];rfl⟩
  ·rcases XP q r (j+1)with⟨h1,h2⟩ |⟨k,h,h1,h2⟩
   ·exact .inl ⟨by rw[wP,cQ hq,h1],by rw[List.find?_cons,Bool.eq_false_iff.2 hq,h2]⟩
   ·exact .inr ⟨k+1,by simp only[bJ];omega,by rw[wP,cQ hq,h1];congr 1;omega,by rw[List.find?_cons,Bool.eq_false_iff.2 hq,h2];rfl⟩
def kJ(name:cT)(m:MesP):Bool:=decide (mY (tT m)=name)
theorem Pf(name:cT)(m:MesP)(hm:m.fine):aG 166 [P4 m,.ptr [bs name]] (.r (.b (kJ name m))):=by
 refine aT Tryz.func166 rfl ?_
 refine aV ?_
 refine cU ?_
 refine ze (Nm m hm) ?_
 refine zg rfl ?_
 refine ze (sn (mY (tT m)) name) ?_
 exact cr
def zMes:MesP:=⟨[],0,0,0,⟨0,⟨[],zl,[]⟩,zl,0⟩,⟨[],false,⟨zl,[]⟩⟩,[],[],[]⟩
def BG(o:Option MesP):RV:= .tu [.ag (o.getD zMes).c,.b o.isSome]
theorem NQ(wait:List MesP)(name:cT)(hw:wait.length<=1000000)(hf: ∀m∈wait,m.fine):aG 93 [qU wait,bs name] (.r (BG (wait.find? (kJ name)))):=by
 refine aT Tryz.func93 rfl ?_
 refine zJ (xO (t:=3) [bs name] rfl rfl) (Vstep.mkfun P4 (λm=>m.fine) (kJ name) rfl rfl (λm hm=>Pf name m hm) ?_)
 refine ze (Q9 wait (λm=>m.fine) (kJ name) (by omega) hf) ?_
 rcases XP (kJ name) wait 0 with⟨h1,h2⟩ |⟨k,h,h1,h2⟩
 ·rw[h1,h2]
  refine cY ?_
  refine cU ?_
  exact⟨_,rfl,Cv.tu (zk (Cv.ag (by repeat' (first|exact zA|exact zn _|refine zk ?_ ?_|exact cr|exact z8 _))) (zn _))⟩
 ·rw[h1,h2]
  refine cX ?_ (by simp only[zb];omega)
  refine cV (pB (by omega) h) ?_
  refine cU ?_
  refine cU ?_
  exact⟨_,rfl,cr⟩
structure OffP where
 frm:Int
 prop:PropP
abbrev OffP.c(o:OffP):List RV:=[I o.frm,U8 o.prop.kind,bs o.prop.pack.init,bs o.prop.pack.leaf.box,bs o.prop.pack.leaf.sign,bs o.prop.pack.leaf.ident,U8 o.prop.pack.leaf.src,bs o.prop.pack.leaf.parent,bs o.prop.pack.leaf.sig,bs o.prop.pack.sig,bs o.prop.leaf.box,bs o.prop.leaf.sign,bs o.prop.leaf.ident,U8 o.prop.leaf.src,bs o.prop.leaf.parent,bs o.prop.leaf.sig,I o.prop.at_]
def oq(l:List OffP):RV:= .sl 17 l.length (l.flatMap OffP.c)
theorem qm{l:List OffP}{i:Int}{j:Nat}(h:i=j)(hj:j<l.length):((l.flatMap OffP.c).drop (i.toNat*17)).take 17=l[j].c:=uK (f:=OffP.c) (sz:=17) (λ_=>rfl) h hj
def tZ(wait:List MesP)(frm:Int)(i:ItemP):Option OffP:=if i.ref.length=0 then some ⟨frm,i.prop⟩else(wait.find? (kJ i.ref)).map λw=>⟨w.frm,w.prop⟩
def xD(wait:List MesP)(frm:Int):List ItemP->Option (List OffP)
 |[]=>some []
 |i::r=>match tZ wait frm i with
  |none=>none
  |some o=>(xD wait frm r).map (o:: ·)
theorem lS{wait:List MesP}{frm:Int}{i:ItemP}: ∀{l:List ItemP} {acc:List OffP} {o:OffP},xD wait frm l=some acc->tZ wait frm i=some o->xD wait frm (l++[i])=some (acc++[o])
 |[],acc,o,h,ho=>by
  simp only[xD,bT]at h
  subst h
  simp only[cG,xD,ho,Option.map_some]
 |x::r,acc,o,h,ho=>by
  simp only[xD]at h
  simp only[List.cons_append,xD]
  cases hx:tZ wait frm x with
  |none=>rw[hx]at h;cases h
  |some y=>
   rw[hx]at h
   simp only at h⊢
   cases hr:xD wait frm r with
   |none=>rw[hr]at h;cases h
   |some a=>
    rw[hr]at h
    simp only[Option.map_some,bT]at h
    rw[lS hr ho,<-h]
    rfl
theorem lR{wait:List MesP}{frm:Int}{i:ItemP}: ∀{l r:List ItemP} {acc:List OffP},xD wait frm l=some acc->tZ wait frm i=none->xD wait frm (l++i::r)=none
 |[],r,acc,h,ho=>by simp only[cG,xD,ho]
 |x::l,r,acc,h,ho=>by
  simp only[xD]at h
  simp only[List.cons_append,xD]
  cases hx:tZ wait frm x with
  |none=>rfl
  |some y=>
   rw[hx]at h
   simp only at h⊢
   cases hr:xD wait frm l with
   |none=>rw[hr]at h;cases h
   |some a=>rw[lR hr ho];rfl
theorem n9{wait:List MesP}{frm:Int}: ∀{l:List ItemP} {acc:List OffP},xD wait frm l=some acc->acc.length=l.length
 |[],acc,h=>by simp only[xD,bT]at h;rw[<-h];rfl
 |x::l,acc,h=>by
  simp only[xD]at h
  cases hx:tZ wait frm x with
  |none=>rw[hx]at h;cases h
  |some y=>
   rw[hx]at h
   simp only at h
   cases hr:xD wait frm l with
   |none=>rw[hr]at h;cases h
   |some a=>
    rw[hr]at h
    simp only[Option.map_some,bT]at h
    rw[<-h,bJ,bJ,n9 hr]
abbrev KO(l:List OffP):Ow:= .ch 94 17 l.length (l.flatMap OffP.c) true
def JP(o:Option (List OffP)):RV:=match o with
 |some l=> .tu [oq l,Er 0]
 |none=> .tu [oq [],Er 14]
theorem Nn(wait:List MesP)(m:MesP)(hw:wait.length<=1000000)(hf: ∀x∈wait,x.fine)(hm:m.com.items.length<=1000000):
  aG 30 [qU wait,.ag m.c] (.r (JP (xD wait m.frm m.com.items))):=by
 refine aT Tryz.func30 rfl ?_
 refine zy (λp:Nat×List OffP=>⟨[(0,.r (qU wait)),(3,.own 0),(6,.own 1),(14,.r (uo m.com.items)),(15,.r (I m.com.items.length)),(16,.r (I p.1))],[(0,some (.box (m.c.map .r))),(1,some (KO p.2))],2⟩) (λp=>p.1<=m.com.items.length/\xD wait m.frm (m.com.items.take p.1)=some p.2) (λp=>m.com.items.length-p.1) (0,[]) ⟨by simp,rfl⟩
  (Sub.trans (uh 6 94 17 rfl) (zN [(0,0),(1,1)] ⟨(aE (aE aZ)),⟨rfl,rfl,rfl,rfl,zn _⟩,trivial⟩)) ?_
 rintro⟨j,acc⟩ ⟨hj,hacc⟩
 simp only at hj hacc
 have hal:=n9 hacc
 rw[bL]at hal
 refine cZ (λh=>?_) λh=>?_
 ·simp only[zb]at h
  have hj':j<m.com.items.length:=by omega
  have next: ∀{o},tZ wait m.frm m.com.items[j]=some o->xD wait m.frm (m.com.items.take (j+1))=some (acc++[o]):=λho=>by
   rw[bX hj']
   exact lS hacc ho
  have bad:tZ wait m.frm m.com.items[j]=none->xD wait m.frm m.com.items=none:=λho=>by
   rw[<-List.take_append_drop j m.com.items,cI hj']
   exact lR hacc ho
  refine cV (vf rfl hj') ?_
  refine cU ?_
  generalize m.com.items[j]=it at next bad⊢
  refine cU ?_
  refine cZ (λh2=>?_) λh2=>?_
  ·simp only[zb]at h2
   have hne: ¬it.ref.length=0:=by omega
   have eo:tZ wait m.frm it=(wait.find? (kJ it.ref)).map λw=>⟨w.frm,w.prop⟩:=cQ hne
   have cw:=NQ wait it.ref hw hf
   cases hfd:wait.find? (kJ it.ref)with
   |none=>
    rw[hfd]at eo cw
    refine ze cw ?_
    refine cY ?_
    rw[bad eo]
    exact⟨_,rfl,Cv.tu (zk (z8 17) (zn _))⟩
   |some w=>
    rw[hfd]at eo cw
    refine ze cw ?_
    refine cX ?_
    refine cU ?_
    refine cU ?_
    refine zw ?_
    refine z7 (j:=(acc++[(⟨w.frm,w.prop⟩:OffP)]).length) (zs:=(acc++[(⟨w.frm,w.prop⟩:OffP)]).flatMap OffP.c) (by simp only[maxLen,aL,bJ,bO];omega) (by show(acc.length+1)*328<=_;omega) (by rw[aL];rfl) (by rw[List.flatMap_append];rfl) ?_
    refine zd (m:=((j+1:Nat):Int)) (by omega) (by omega) ?_
    exact⟨(j+1,acc++[(⟨w.frm,w.prop⟩:OffP)]),⟨hj',next eo⟩,by show _-(j+1)<_-j;omega,zX [(0,0),(1,_)] rfl ⟨cr,rfl,rfl,cr,cr,cr,trivial⟩ ⟨(aE (aE aZ)),⟨rfl,rfl,rfl,rfl,zn _⟩,trivial⟩⟩
  ·simp only[zb]at h2
   have hze:it.ref.length=0:=by omega
   have eo:tZ wait m.frm it=some ⟨m.frm,it.prop⟩:=cO hze
   refine cU ?_
   refine zw ?_
   refine z7 (j:=(acc++[(⟨m.frm,it.prop⟩:OffP)]).length) (zs:=(acc++[(⟨m.frm,it.prop⟩:OffP)]).flatMap OffP.c) (by simp only[maxLen,aL,bJ,bO];omega) (by show(acc.length+1)*328<=_;omega) (by rw[aL];rfl) (by rw[List.flatMap_append];rfl) ?_
   refine zd (m:=((j+1:Nat):Int)) (by omega) (by omega) ?_
   exact⟨(j+1,acc++[(⟨m.frm,it.prop⟩:OffP)]),⟨hj',next eo⟩,by show _-(j+1)<_-j;omega,zX [(0,0),(1,_)] rfl ⟨cr,rfl,rfl,cr,cr,cr,trivial⟩ ⟨(aE (aE aZ)),⟨rfl,rfl,rfl,rfl,zn _⟩,trivial⟩⟩
 ·simp only[zb]at h
  rw[bF (by omega)]at hacc
  rw[hacc]
  exact⟨_,rfl,cr⟩
theorem OK(l:cT)(hl:l.length<=140737488355328):aG 42 [bs l] (xJ l):=x4 l hl
theorem Z7:aG 13 [] (.r (bs z32)):=by
 have key: ∀z:cT,32=z.length->(List.replicate ((32:Int).toNat) ([Value.int .u8 0].map xT)).flatten=z.map U8->aG 13 [] (.r (bs z)):=λz hz hzm=>by
  refine aT Tryz.func13 rfl ?_
  refine⟨rfl,by decide,by decide,by decide,z.length,z.map U8,hz,hzm,zw ?_⟩
  exact cr
 exact key z32 rfl rfl
end Go.Proofs.YtkegaaonpekkgaaGreat.Sx
