import Derived.Test.YtkegaaonpekkgaaGreatXqBd
import Derived.Test.YtkegaaonpekkgaaGreatXqTl
import Derived.Test.YtkegaaonpekkgaaGreatXqEt
import Derived.Test.YtkegaaonpekkgaaGreatXqJa
import Derived.Test.YtkegaaonpekkgaaGreatXqBf
import Derived.Test.YtkegaaonpekkgaaGreatXqHq
namespace Go.Proofs.YtkegaaonpekkgaaGreat.Sx
open Go.RowKit
set_option maxHeartbeats 4000000
theorem qK(l:Leaf):aG 150 [.ag l.c] (.r (.b (tY l))):=by
 refine aT Tryz.func150 rfl ?_
 refine cU ?_
 refine zB (Zi l zl) (zk (cr) (zk (Cv.ag (by repeat' (first|exact zA|exact zn _|refine zk ?_ ?_|exact cr|exact z8 _))) zA)) ?_
 exact cr
theorem Z0(p:PackP):aG 149 [.ag p.c] (.r (.b p.none)):=by
 refine aT Tryz.func149 rfl ?_
 refine zh (λh=>?_) (λh=>?_)
 rotate_left
 ·simp only[zb]at h
  exact zf (cR RV.b (by unfold PackP.none;rw[bD (show¬p.init.length=0 by omega)];rfl))
 simp only[zb]at h
 refine cU ?_
 refine z6 (qK p.leaf) (λh4=>?_) (λh4=>?_)
 rotate_left
 ·exact zf (cR RV.b (by unfold PackP.none;rw[h4];simp))
 refine zG (m:=decide (p.sig.length=0)) (by rw[cD];simp only[zb];omega) ?_
 exact zf (cR RV.b (by unfold PackP.none;rw[h4,bE (show p.init.length=0 by omega)];rfl))
theorem Z1(p:PropP):aG 74 [.ag p.c] (.r (.b p.none)):=by
 refine aT Tryz.func74 rfl ?_
 by_cases hk:p.kind=0
 rotate_left
 ·refine zu (by simp only[zb];exact uO hk) ?_
  exact zf (cR RV.b (by unfold PropP.none;rw[bD hk];rfl))
 refine zt (by rw[hk];rfl) ?_
 refine cU ?_
 refine z6 (Z0 p.pack) (λh3=>?_) (λh3=>?_)
 rotate_left
 ·exact zf (cR RV.b (by unfold PropP.none;rw[h3];simp))
 refine cU ?_
 refine z6 (qK p.leaf) (λh4=>?_) (λh4=>?_)
 rotate_left
 ·exact zf (cR RV.b (by unfold PropP.none;rw[h4];simp))
 refine zG (m:=decide (p.at_=0)) (by rw[cD];simp only[zb]) ?_
 exact zf (cR RV.b (by unfold PropP.none;rw[h3,h4,bE hk];simp))
theorem VX(p:PropP):aG 72 [.ag p.c] (.r (.b p.right)):=by
 have ca:=Z0 p.pack
 have cb:=qK p.leaf
 have c1:=Sn p.pack
 have c2:=dE p.leaf 2
 have hk:p.kind=1\/p.kind=2\/p.kind=3\/(¬p.kind=1/\¬p.kind=2/\¬p.kind=3):=by
  by_cases a:p.kind=1
  ·exact .inl a
  by_cases b:p.kind=2
  ·exact .inr (.inl b)
  by_cases c:p.kind=3
  ·exact .inr (.inr (.inl c))
  ·exact .inr (.inr (.inr ⟨a,b,c⟩))
 refine aT Tryz.func72 rfl ?_
 obtain⟨kd,pk,lf,at_⟩:=p
 simp only at ca cb c1 c2 hk
 refine aV ?_
 refine cU ?_
 rcases hk with rfl |rfl |rfl |⟨n1,n2,n3⟩
 ·cases ha:pk.none<;>rw[ha]at ca<;>cases hb:tY lf<;>rw[hb]at cb<;>cases hc:pk.right<;>rw[hc]at c1
  all_goals
   refine ze ca ?_
   refine cU ?_
   refine ze cb ?_
   refine zh (λh=>?_) (λh=>?_)
   all_goals
    simp only[zb]at h
    repeat' ((conv=>whnf);first|refine zt rfl ?_|refine zu rfl ?_|refine za rfl rfl ?_|refine ze c1 ?_)
    exact zf (cR RV.b (by simp[PropP.right,hb,hc,h]))
 ·cases ha:pk.none<;>rw[ha]at ca<;>cases hb:tY lf<;>rw[hb]at cb<;>cases hc:(lf.right&&decide (lf.src=2))<;>rw[hc]at c2
  all_goals
   refine ze ca ?_
   refine cU ?_
   refine ze cb ?_
   refine zh (λh=>?_) (λh=>?_)
   all_goals
    simp only[zb]at h
    repeat' ((conv=>whnf);first|refine zt rfl ?_|refine zu rfl ?_|refine za rfl rfl ?_|refine ze c2 ?_)
    exact zf (cR RV.b (by unfold PropP.right;dsimp only;rw[cQ (show¬(2:UInt8)=1 by decide),cO rfl,ha,hc];simp[h]))
 ·cases ha:pk.none<;>rw[ha]at ca<;>cases hb:tY lf<;>rw[hb]at cb
  all_goals
   refine ze ca ?_
   refine cU ?_
   refine ze cb ?_
   refine zh (λh=>?_) (λh=>?_)
   all_goals
    simp only[zb]at h
    repeat' ((conv=>whnf);first|refine zt rfl ?_|refine zu rfl ?_|refine za rfl rfl ?_|refine zh (λh2=>?_) (λh2=>?_))
    all_goals
     refine zf (cR RV.b ?_)
     unfold PropP.right
     dsimp only
     rw[cQ (show¬(3:UInt8)=1 by decide),cQ (show¬(3:UInt8)=2 by decide),cO rfl,ha,hb]
     first
      |rfl
      |(try simp only[zb]at h)
       (try simp only[zb]at h2)
       simp
       try ((try simp only[zb]at*);omega)
      |(try simp only[zb]at h)
       (try simp only[zb]at h2)
       omega
 ·all_goals
   refine ze ca ?_
   refine cU ?_
   refine ze cb ?_
   refine zh (λh=>?_) (λh=>?_)
   all_goals
    refine zu (by simp only[zb];exact uO n1) ?_
    refine zu (by simp only[zb];exact uO n2) ?_
    refine zu (by simp only[zb];exact uO n3) ?_
    exact zf (cR RV.b (by unfold PropP.right;rw[cQ n1,cQ n2,cQ n3]))
theorem lE{α:Type}{q:α->Bool}{l:List α}{j:Nat}(hj:j<l.length)(h: ∀x∈l.take j,q x=false)(h2:q l[j]=false): ∀x∈l.take (j+1),q x=false:=by
 intro x hx
 rw[bX hj,List.mem_append]at hx
 rcases hx with hx |hx
 ·exact h x hx
 ·rw[List.mem_singleton.1 hx];exact h2
theorem di{α:Type}{q:α->Bool}{l:List α}{j:Nat}(hj:l.length<=j)(h: ∀x∈l.take j,q x=false):l.any q=false:=by
 rw[bF hj]at h
 rw[List.any_eq_false]
 intro x hx
 rw[h x hx]
 simp
theorem dj{α:Type}{q:α->Bool}{l:List α}{j:Nat}(hj:j<l.length)(h:q l[j]=true):l.any q=true:=List.any_eq_true.2 ⟨l[j],bY hj,h⟩
theorem GE(w:WayP)(hl:w.steps.length<=1000000)(hl2: ∀s∈w.steps,s.to.length<=1000000):aG 153 [.ag w.c] (.r (.b w.right)):=by
 refine aT Tryz.func153 rfl ?_
 refine za rfl rfl ?_
 refine z6 (dE w.leaf 3) (λh4=>?_) (λh4=>?_)
 rotate_left
 ·refine zt rfl (zp ?_)
  exact zf (cR RV.b (by unfold WayP.right;rw[h4];rfl))
 refine zu rfl ?_
 refine zh (λh=>zp ?_) (λh=>zq ?_)
 ·simp only[zb]at h
  exact zf (cR RV.b (by unfold WayP.right;rw[h4,bD (show¬w.steps.length<=16 by omega)];rfl))
 simp only[zb]at h
 have bad: ∀{j:Nat} (hj:j<w.steps.length),lK w.steps[j]=true->w.right=false:=λhj hb=>by
  unfold WayP.right
  rw[dj hj hb]
  simp
 refine zy (λj:Nat=>⟨[(1,.own 0),(3,.r (I j))],[(0,some (.box (w.c.map .r)))],1⟩) (λj=>j<=w.steps.length/\∀x∈w.steps.take j,lK x=false) (λj=>w.steps.length-j) 0 ⟨by omega,by simp⟩ (zX [(0,0)] rfl ⟨rfl,cr,trivial⟩ ⟨(aC (aB (aA aZ))),trivial⟩) ?_
 rintro j ⟨hj,hq⟩
 refine zh (λh1=>zp ?_) (λh1=>zq ?_)
 ·simp only[zb]at h1
  have hj':j<w.steps.length:=by omega
  have ht:=hl2 _ (bY hj')
  refine zm (by omega) (by omega) (vo rfl hj') (zg rfl ?_)
  refine zh (λh2=>zp ?_) (λh2=>zq ?_)
  ·simp only[zb]at h2
   exact zf (cR RV.b (Eq.symm (bad hj' (by unfold lK;rw[bE (show w.steps[j].box.length≠32 by omega)];rfl))))
  simp only[zb]at h2
  have h2':w.steps[j].box.length=32:=by omega
  refine zy (λk:Nat=>⟨[(1,.own 0),(3,.r (I j)),(4,.r (I k))],[(0,some (.box (w.c.map .r)))],1⟩) (λk=>k<=w.steps[j].to.length/\∀x∈w.steps[j].to.take k,jq x=false) (λk=>w.steps[j].to.length-k) 0 ⟨by omega,by simp⟩ (zX [(0,0)] rfl ⟨rfl,cr,cr,trivial⟩ ⟨(aC (aB (aA aZ))),trivial⟩) ?_
  rintro k ⟨hk,hqk⟩
  refine zm (by omega) (by omega) (vo rfl hj') (zg rfl ?_)
  refine zh (λh3=>zp ?_) (λh3=>zq ?_)
  ·simp only[zb]at h3
   have hk':k<w.steps[j].to.length:=by omega
   have bb:jq w.steps[j].to[k]=true->w.right=false:=λhb=>bad hj' (by unfold lK;rw[dj hk' hb];simp)
   refine zm (by omega) (by omega) (vo rfl hj') (zg rfl ?_)
   refine zm (by omega) (by omega) (vJ rfl hk') (zg rfl ?_)
   refine zh (λh5=>zp ?_) (λh5=>?_)
   ·simp only[zb]at h5
    exact zf (cR RV.b (Eq.symm (bb (by unfold jq;rw[bE (show w.steps[j].to[k].enc.length≠32 by omega)];rfl))))
   simp only[zb]at h5
   refine zm (by omega) (by omega) (vo rfl hj') (zg rfl ?_)
   refine zm (by omega) (by omega) (vJ rfl hk') (zg rfl ?_)
   refine zh (λh6=>zp ?_) (λh6=>zq ?_)
   ·simp only[zb]at h6
    exact zf (cR RV.b (Eq.symm (bb (by unfold jq;rw[bE (show w.steps[j].to[k].box.length≠48 by omega)];simp))))
   simp only[zb]at h6
   refine zd (m:=((k+1:Nat):Int)) (by omega) (by omega) ?_
   exact⟨k+1,⟨hk',lE hk' hqk (by unfold jq;rw[bD (show¬w.steps[j].to[k].enc.length≠32 by omega),bD (show¬w.steps[j].to[k].box.length≠48 by omega)];rfl)⟩,by omega,zX [(0,0)] rfl ⟨rfl,cr,cr,trivial⟩ ⟨(aC (aB (aA aZ))),trivial⟩⟩
  ·simp only[zb]at h3
   have hn:=di (by omega) hqk
   refine zd (m:=((j+1:Nat):Int)) (by omega) (by omega) ?_
   exact⟨j+1,⟨hj',lE hj' hq (by unfold lK;rw[hn,bD (show¬w.steps[j].box.length≠32 by omega)];rfl)⟩,by omega,zX [(0,0)] rfl ⟨rfl,cr,trivial⟩ ⟨(aC (aB (aA aZ))),trivial⟩⟩
 simp only[zb]at h1
 exact zf (cR RV.b (by unfold WayP.right;rw[h4,bE (show w.steps.length<=16 by omega),di (by omega) hq];rfl))
theorem Gc(c:ComP)(hl:c.items.length<=1000000)(hl1:c.way.steps.length<=1000000)(hl2: ∀s∈c.way.steps,s.to.length<=1000000):aG 75 [.ag c.c] (.r (.b c.right)):=by
 refine aT Tryz.func75 rfl ?_
 refine cZ (λh=>?_) λh=>?_
 ·simp only[zb]at h
  exact zf (cR RV.b (by unfold ComP.right;rw[bD (show¬c.items.length<=64 by omega)];rfl))
 simp only[zb]at h
 have bad: ∀{j:Nat} (hj:j<c.items.length),c.items[j].right=false->c.right=false:=λhj hb=>by
  unfold ComP.right
  rw[dj (q:=λi:ItemP=> !i.right) hj (by rw[hb];rfl)]
  simp
 refine zy (λj:Nat=>⟨[(1,.own 0),(3,.r (I j))],[(0,some (.box (c.c.map .r)))],1⟩) (λj=>j<=c.items.length/\∀x∈c.items.take j,(!x.right)=false) (λj=>c.items.length-j) 0 ⟨by omega,by simp⟩ (zM [(0,0)]) ?_
 rintro j ⟨hj,hq⟩
 refine cZ (λh1=>?_) λh1=>?_
 ·simp only[zb]at h1
  have hj':j<c.items.length:=by omega
  have next:c.items[j].right=true->∀x∈c.items.take (j+1),(!x.right)=false:=λhr=>lE hj' hq (by rw[hr];rfl)
  have hbad:=bad hj'
  refine cV (vf rfl hj') ?_
  refine cU ?_
  generalize c.items[j]=i at next hbad⊢
  refine zh (λh2=>?_) (λh2=>?_)
  ·simp only[zb]at h2
   have e:i.right=i.prop.none:=by unfold ItemP.right;rw[cQ (by omega),bE (by omega)];rfl
   refine cU ?_
   refine z6 (Z1 i.prop) (λh3=>?_) (λh3=>?_)
   ·refine cX ?_
    refine zd (m:=((j+1:Nat):Int)) (by omega) (by omega) ?_
    exact⟨j+1,⟨hj',next (by rw[e,h3])⟩,by omega,zM [(0,0)]⟩
   ·refine zu (by simp only[zb];omega) ?_
    refine cY ?_
    exact zf (cR RV.b (Eq.symm (hbad (by rw[e,h3]))))
  simp only[zb]at h2
  refine zh (λh3=>?_) (λh3=>?_)
  ·simp only[zb]at h3
   have e:i.right=i.prop.right:=by unfold ItemP.right;rw[cO (by omega)]
   refine cU ?_
   refine z6 (VX i.prop) (λh4=>?_) (λh4=>?_)
   ·refine cX ?_
    refine zd (m:=((j+1:Nat):Int)) (by omega) (by omega) ?_
    exact⟨j+1,⟨hj',next (by rw[e,h4])⟩,by omega,zM [(0,0)]⟩
   ·refine cY ?_
    exact zf (cR RV.b (Eq.symm (hbad (by rw[e,h4]))))
  ·simp only[zb]at h3
   refine cY ?_
   exact zf (cR RV.b (Eq.symm (hbad (by unfold ItemP.right;rw[cQ (by omega),bD (by omega)];rfl))))
 simp only[zb]at h1
 have e1:decide (c.items.length<=64)=true:=bE (by omega)
 have e2:(c.items.any λi=> !i.right)=false:=di (q:=λi:ItemP=> !i.right) (by omega) hq
 have cw:=GE c.way hl1 hl2
 have cn:=qK c.way.leaf
 obtain⟨its,has,w⟩:=c
 simp only at e1 e2 cw cn hl1 hl2
 cases has
 ·refine zt rfl ?_
  refine cU ?_
  refine z6 cn (λh3=>?_) (λh3=>?_)
  ·refine zG (m:=decide (w.steps.length=0)) (by rw[cD];simp only[zb];omega) ?_
   exact zf (cR RV.b (by unfold ComP.right;simp only;rw[e1,e2,h3];rfl))
  ·exact zf (cR RV.b (by unfold ComP.right;simp only;rw[e1,e2,h3];rfl))
 ·refine cU ?_
  refine z6 cw (λh3=>?_) (λh3=>?_)
  ·exact zf (cR RV.b (by unfold ComP.right;simp only;rw[e1,e2,cO trivial,h3];rfl))
  ·refine zu rfl ?_
   exact zf (cR RV.b (by unfold ComP.right;simp only;rw[e1,e2,cO trivial,h3];rfl))
theorem N3(c:ComP)(hl:c.items.length<=1000000)(hl1:c.way.steps.length<=1000000):aG 73 [.ag c.c] (.r (.b c.none)):=by
 refine aT Tryz.func73 rfl ?_
 have cn:=qK c.way.leaf
 obtain⟨its,has,w⟩:=c
 simp only at cn hl1
 refine zh (λh=>?_) (λh=>?_)
 rotate_left
 ·simp only[zb]at h
  exact zf (cR RV.b (by unfold ComP.none;simp only;rw[bD (show¬its.length=0 by omega)];rfl))
 simp only[zb]at h
 have e:decide (its.length=0)=true:=bE (by omega)
 cases has
 ·refine zt rfl ?_
  refine cU ?_
  refine z6 cn (λh3=>?_) (λh3=>?_)
  ·refine zG (m:=decide (w.steps.length=0)) (by rw[cD];simp only[zb];omega) ?_
   exact zf (cR RV.b (by unfold ComP.none;simp only;rw[e,h3];rfl))
  ·exact zf (cR RV.b (by unfold ComP.none;simp only;rw[e,h3];rfl))
 ·refine zu rfl ?_
  exact zf (cR RV.b (by unfold ComP.none;simp only;rw[e];rfl))
def MesP.ahead(m:MesP):Bool:=decide (m.group.length<=64)&&decide (0<=m.frm/\m.frm<65536)&&decide (m.sig.length=64)&&decide (m.mem.length=32)
theorem qh(m:MesP)(hl:m.com.items.length<=1000000)(hl1:m.com.way.steps.length<=1000000)(hl2: ∀s∈m.com.way.steps,s.to.length<=1000000):aG 20 [.ag m.c] (.r (.b m.right)):=by
 refine aT Tryz.func20 rfl ?_
 have n1:=VX m.prop
 have n2:=Z1 m.prop
 have n3:=Gc m.com hl hl1 hl2
 have n4:=N3 m.com hl hl1
 have no:m.ahead=false->m.right=false:=λh=>by
  unfold MesP.right
  unfold MesP.ahead at h
  rw[h]
  rfl
 refine zh (λh1=>?_) (λh1=>?_)
 rotate_left
 ·simp only[zb]at h1
  exact zf (cR RV.b (Eq.symm (no (by unfold MesP.ahead;rw[bD (show¬m.group.length<=64 by omega)];rfl))))
 refine zh (λh2=>?_) (λh2=>?_)
 rotate_left
 ·simp only[zb]at h2
  exact zf (cR RV.b (Eq.symm (no (by unfold MesP.ahead;rw[bD (show¬(0<=m.frm/\m.frm<65536)by omega)];simp))))
 refine zh (λh3=>?_) (λh3=>?_)
 rotate_left
 ·simp only[zb]at h3
  exact zf (cR RV.b (Eq.symm (no (by unfold MesP.ahead;rw[bD (show¬(0<=m.frm/\m.frm<65536)by omega)];simp))))
 refine zh (λh4=>?_) (λh4=>?_)
 rotate_left
 ·simp only[zb]at h4
  exact zf (cR RV.b (Eq.symm (no (by unfold MesP.ahead;rw[bD (show¬m.sig.length=64 by omega)];simp))))
 refine zh (λh5=>?_) (λh5=>?_)
 rotate_left
 ·simp only[zb]at h5
  exact zf (cR RV.b (Eq.symm (no (by unfold MesP.ahead;rw[bD (show¬m.mem.length=32 by omega)];simp))))
 simp only[zb]at h1 h2 h3 h4 h5
 have e0:m.ahead=true:=by
  unfold MesP.ahead
  rw[bE (show m.group.length<=64 by omega),bE (show 0<=m.frm/\m.frm<65536 by omega),bE (show m.sig.length=64 by omega),bE (show m.mem.length=32 by omega)]
  rfl
 have e:m.right=(if m.kind=2 then m.prop.right&&m.com.none&&decide (m.tag.length=0)else if m.kind=3 then m.prop.none&&m.com.right&&decide (m.tag.length=32)else false):=by
  unfold MesP.right
  unfold MesP.ahead at e0
  rw[e0]
  rfl
 rw[e]
 by_cases k2:m.kind=2
 ·rw[cO k2]
  refine zt (by rw[k2];rfl) ?_
  refine cU ?_
  refine z6 n1 (λa=>?_) (λa=>?_)
  ·refine cU ?_
   refine z6 n4 (λb=>?_) (λb=>?_)
   ·refine zh (λh=>?_) (λh=>?_)
    ·simp only[zb]at h
     exact zf (cR RV.b (by rw[a,b,bE (show m.tag.length=0 by omega)];rfl))
    ·simp only[zb]at h
     refine zu (by rw[k2];rfl) ?_
     exact zf (cR RV.b (by rw[bD (show¬m.tag.length=0 by omega)];simp))
   ·refine zu (by rw[k2];rfl) ?_
    exact zf (cR RV.b (by rw[b];simp))
  ·refine zu (by rw[k2];rfl) ?_
   exact zf (cR RV.b (by rw[a];simp))
 rw[cQ k2]
 refine zu (by simp only[zb];exact uO k2) ?_
 by_cases k3:m.kind=3
 ·rw[cO k3]
  refine zt (by rw[k3];rfl) ?_
  refine cU ?_
  refine z6 n2 (λa=>?_) (λa=>?_)
  ·refine cU ?_
   refine z6 n3 (λb=>?_) (λb=>?_)
   ·refine zG (m:=decide (m.tag.length=32)) (by rw[cD];simp only[zb];omega) ?_
    exact zf (cR RV.b (by rw[a,b];rfl))
   ·exact zf (cR RV.b (by rw[b];simp))
  ·exact zf (cR RV.b (by rw[a];simp))
 rw[cQ k3]
 refine zu (by simp only[zb];exact uO k3) ?_
 exact zf (cR RV.b rfl)
theorem VM(a b:cT)(h:a.length+b.length<=100000000000):aG 67 [bs a,bs b] (.r (bs (a++b))):=by
 refine aT Tryz.func67 rfl ?_
 refine zw ?_
 refine z7 (j:=a.length) (zs:=a.map U8) (by simp only[maxLen];omega) (by show _*1<=_;omega) (by omega) (by simp) ?_
 refine z7 (j:=(a++b).length) (zs:=(a++b).map U8) (by simp only[maxLen];omega) (by show _*1<=_;omega) (by simp) (by simp) ?_
 exact cr
theorem YE(x:CtxP)(hx:x.fit):aG 59 [.ag x.c] (.r (bs (yV x))):=by
 obtain⟨h1,h2,h3,h4⟩:=hx
 have v1:=yf x.group
 have v2:=yf x.tree
 have v3:=yf x.trans
 have b2:(yg 2 1).length=2:=yj _ _
 have b8:(yg 8 x.epoch).length=8:=yj _ _
 refine aT Tryz.func59 rfl ?_
 refine aV ?_
 refine ze (fN 1 (by decide)) ?_
 refine ze (fN 1 (by decide)) ?_
 refine ze (fO x.group (by omega)) ?_
 refine ze (gx (yg 2 1) (yg 2 1) (zZ x.group) (by omega) (by omega) (by omega)) ?_
 refine ze (rZ 8 x.epoch (by decide) h2) ?_
 refine ze (mj (yg 2 1++yg 2 1++zZ x.group) (yg 8 x.epoch) (by simp only[aL];omega) (by omega)) ?_
 refine ze (fO x.tree (by omega)) ?_
 refine ze (fO x.trans (by omega)) ?_
 refine zw ?_
 refine ze (gx (zZ x.tree) (zZ x.trans) [0] (by omega) (by omega) (by simp)) ?_
 refine ze (mj (yg 2 1++yg 2 1++zZ x.group++yg 8 x.epoch) (zZ x.tree++zZ x.trans++[0]) (by simp only[aL];omega) (by simp only[aL,bJ,bO];omega)) ?_
 exact zf (by simp only[yV,List.append_assoc];rfl)
theorem vv(s:cT)(label:ByteArray)(hs:s.length<=1000000000)(hl:label.size<=1000000):aG 56 [bs s,vd label] (.r (bs (xU s (sB label) [] 32))):=by
 refine aT Tryz.func56 rfl ?_
 refine zB (gl s label [] 32 (by omega) hs (by omega) (by decide)) (zk (cr) (zk (cr) (zk (z8 1) (zn _)))) ?_
 exact cr
theorem WB(j z:cT)(hz:32=z.length)(hzm:(List.replicate ((32:Int).toNat) ([Value.int .u8 0].map xT)).flatten=z.map U8)(hj:j.length<=1000000000):aG 57 [bs j] (.r (bs (wh j z))):=by
 refine aT Tryz.func57 rfl ?_
 refine⟨rfl,by decide,by decide,by decide,z.length,z.map U8,hz,hzm,zw ?_⟩
 refine ze (Y9 j z hj (by omega)) ?_
 exact cr
theorem QS(j:cT)(hj:j.length<=1000000000):aG 57 [bs j] (.r (bs (wh j z32))):=WB j z32 rfl rfl hj
theorem VH(j m cx:cT)(x:CtxP)(hm:m.length<=1000000)(hcx:cx.length<=1048576)(c1:aG 57 [bs j] (.r (bs m)))(c2:aG 59 [.ag x.c] (.r (bs cx))):
  aG 55 [bs j,.ag x.c] (.r (bs (xU m (sB hU) cx 32))):=by
 refine aT Tryz.func55 rfl ?_
 refine aV ?_
 refine ze c1 ?_
 refine cU ?_
 refine ze c2 ?_
 refine ze (gl m hU cx 32 (by omega) (by omega) (by decide) hcx) ?_
 exact cr
theorem QN(init commit:cT)(x:CtxP)(hx:x.fit)(hs:x.group.length+x.tree.length+x.trans.length<=1000000)(hi:init.length<=1000000000)(hc:commit.length<=1000000000):aG 11 [bs init,bs commit,.ag x.c] (.r (bs (rF init commit (yV x)))):=by
 have hb:=tI x
 have hm:=x8 init commit
 refine aT Tryz.func11 rfl ?_
 refine aV ?_
 refine ze (Y9 init commit (by omega) (by omega)) ?_
 refine cU ?_
 refine ze (YE x hx) ?_
 refine ze (gl (wh init commit) Pr (yV x) 32 (by omega) (by omega) (by decide) (by omega)) ?_
 exact cr
theorem N5(j m ep:cT)(x:CtxP)(hm:m.length<=1000000)(he:ep.length<=1000000)(c1:aG 57 [bs j] (.r (bs m)))(c2:aG 55 [bs j,.ag x.c] (.r (bs ep))):
  aG 10 [bs j,.ag x.c] (.r (.ag (Ts j (xU m (sB TD) [] 32) ep).c)):=by
 refine aT Tryz.func10 rfl ?_
 refine cU ?_
 refine ze c2 ?_
 refine ze c1 ?_
 refine ze (vv m TD (by omega) (by decide)) ?_
 refine ze (vv ep Jo (by omega) (by decide)) ?_
 refine ze (vv ep Lz (by omega) (by decide)) ?_
 refine ze (vv ep L7 (by omega) (by decide)) ?_
 refine ze (vv ep Lq (by omega) (by decide)) ?_
 refine ze (vv ep JE (by omega) (by decide)) ?_
 refine ze (vv ep Lx (by omega) (by decide)) ?_
 refine ze (vv ep KI (by omega) (by decide)) ?_
 refine ze (vv ep Je (by omega) (by decide)) ?_
 refine ze (vv ep K5 (by omega) (by decide)) ?_
 refine cU ?_
 exact cr
theorem EK(j:cT)(x:CtxP)(hx:x.fit)(hs:x.group.length+x.tree.length+x.trans.length<=1000000)(hj:j.length<=1000000000):aG 10 [bs j,.ag x.c] (.r (.ag (iw j (yV x)).c)):=by
 have hb:=tI x
 have hm:=x8 j z32
 have c1:=QS j hj
 have c2:=YE x hx
 unfold iw
 generalize wh j z32=m at c1 hm
 have c3:=VH j m (yV x) x (by omega) (by omega) c1 c2
 have he:(xU m (sB hU) (yV x) 32).length=32:=x7 _ _ _ (n:=32) (by omega)
 generalize xU m (sB hU) (yV x) 32=ep at c3 he
 exact N5 j m ep x (by omega) (by omega) c1 c3
theorem Si(c tag:cT)(hc:c.length<=1000000)(ht:tag.length<=1000000):aG 15 [bs c,bs tag] (.r (bs (gz c tag))):=by
 have v:=yf tag
 refine aT Tryz.func15 rfl ?_
 refine ze (w9 tag (by omega)) ?_
 refine ze (VM c (zZ tag) (by omega)) ?_
 refine ze (pw (c++zZ tag) (by rw[aL];omega)) ?_
 exact cr
structure ComP.ints (c:ComP):Prop where
 item: ∀i∈c.items,i64 i.prop.at_
structure MesP.ints (m:MesP):Prop where
 epoch:m.epoch<18446744073709551616
 frm:i64 m.frm
 at_:i64 m.prop.at_
 com:m.com.ints
theorem wq(l m:cT)(hl:l.length<=1000000000000)(hm:m.length<=1000000000000):aG 83 [bs l,bs m] (.r (bs (l++m))):=by
 refine aT Tryz.func83 rfl ?_
 refine zw ?_
 refine z7 (j:=l.length) (zs:=l.map U8) (by simp only[maxLen];omega) (by show(0+l.length)*1<=_;omega) (by omega) rfl ?_
 refine z7 (j:=(l++m).length) (zs:=(l++m).map U8) (by simp only[maxLen];omega) (by show(l.length+m.length)*1<=_;omega) (by rw[aL]) (by rw[bM]) ?_
 exact cr
theorem uE(l m n:cT)(hl:l.length<=10000000000)(hm:m.length<=10000000000)(hn:n.length<=10000000000):aG 84 [bs l,bs m,bs n] (.r (bs (l++m++n))):=by
 refine aT Tryz.func84 rfl ?_
 refine ze (wq l m (by omega) (by omega)) ?_
 refine ze (wq (l++m) n (by rw[aL];omega) (by omega)) ?_
 exact cr
theorem vq(m:cT)(hm:m.length<=1000000000):aG 88 [bs m] (.r (bs (zZ m))):=by
 refine aT Tryz.func88 rfl ?_
 refine ze (w9 m (by omega)) ?_
 exact cr
theorem kX(m:Nat)(hm:m<18446744073709551616):aG 85 [.i .u64 m] (.r (bs (yg 2 m))):=by
 refine aT Tryz.func85 rfl ?_
 refine ze (rZ 2 m (by omega) hm) ?_
 exact cr
theorem Tc(x:Int)(hx:i64 x):aG 161 [I x] (.r (bs (yg 4 (xy x)))):=by
 refine aT Tryz.func161 rfl ?_
 refine Vint.n ((xy x:Nat):Int) (Ww x hx).symm ?_
 refine ze (rZ 4 (xy x) (by omega) (by unfold xy;omega)) ?_
 exact cr
theorem WD(p:PropP)(hp:p.sml):aG 250 [.ag p.pack.c] (.r (bs (pI p.pack))):=by
 have hi:=hp.init
 have hs:=hp.sig
 have f1:p.pack.fit:=⟨by omega,hp.pl.fit,by omega⟩
 have hl:=fX hp
 have hpl:(uw p.pack).length<=1300:=by rw[pI,aL]at hl;omega
 have hv:=yf p.pack.sig
 refine aT Tryz.func250 rfl ?_
 refine aV ?_
 refine cU ?_
 refine ze (VU p.pack f1) ?_
 refine ze (vq p.pack.sig (by omega)) ?_
 refine ze (wq (uw p.pack) (zZ p.pack.sig) (by omega) (by omega)) ?_
 exact cr
theorem XI(p:PropP)(hp:p.sml)(ha:i64 p.at_):aG 162 [.ag p.c] (.r (bs (xZ p))):=by
 have hl:=fX hp
 have hl2:=sA hp.leaf
 refine aT Tryz.func162 rfl ?_
 by_cases k1:p.kind=1
 ·have e:xZ p=[1]++pI p.pack:=cO k1
  refine zt (by rw[k1];rfl) (zp ?_)
  refine zw ?_
  refine cU ?_
  refine ze (WD p hp) ?_
  refine ze (wq [1] (pI p.pack) (by simp) (by omega)) ?_
  exact zf (by rw[e])
 refine zu (by simp only[zb];exact uO k1) (zq ?_)
 by_cases k2:p.kind=2
 ·have e:xZ p=[2]++xA p.leaf:=by unfold xZ;rw[cQ k1,cO k2]
  refine zt (by rw[k2];rfl) (zp ?_)
  refine zw ?_
  refine cU ?_
  refine ze (rC p.leaf hp.leaf.fit) ?_
  refine ze (wq [2] (xA p.leaf) (by simp) (by omega)) ?_
  exact zf (by rw[e])
 refine zu (by simp only[zb];exact uO k2) (zq ?_)
 have e:xZ p=[3]++yg 4 (xy p.at_):=by unfold xZ;rw[cQ k1,cQ k2]
 refine zw ?_
 refine ze (Tc p.at_ ha) ?_
 refine ze (wq [3] (yg 4 (xy p.at_)) (by simp) (by rw[yj];omega)) ?_
 exact zf (by rw[e])
theorem LT(c:ComP)(hc:c.sml)(hi64:c.ints):aG 163 [.ag c.c] (.r (bs (vT c))):=by
 have k1:=hc.items
 have k2:=hc.steps
 have hA:=OB hc
 refine aT Tryz.func163 rfl ?_
 refine zy (λj:Nat=>⟨[(1,.own 0),(3,.r (bs (xr c j))),(4,.r (I j))],[(0,some (.box (c.c.map .r)))],1⟩) (λj=>j<=c.items.length) (λj=>c.items.length-j) 0 (by omega)
  (zO [(0,0)] ⟨rfl,z8 1,cr,trivial⟩) ?_
 intro j hj
 refine cZ (λh=>?_) λh=>?_
 ·simp only[zb]at h
  have hj':j<c.items.length:=by omega
  have hL:=kL hc j
  have hi:=hc.item _ (bY hj')
  have hii:=hi64.item _ (bY hj')
  have hs:=gA hj'
  refine cV (vf rfl hj') (zg rfl ?_)
  refine cZ (λh2=>?_) λh2=>?_
  ·simp only[zb]at h2
   have hne: ¬c.items[j].ref.length=0:=by omega
   have hv:=yf c.items[j].ref
   have h1:=hi.1
   refine zw ?_
   refine cV (vf rfl hj') (zg rfl ?_)
   refine ze (vq c.items[j].ref (by omega)) ?_
   refine ze (uE (xr c j) [2] (zZ c.items[j].ref) (by omega) (by simp) (by omega)) ?_
   refine zd (m:=((j+1:Nat):Int)) (by omega) (by omega) ?_
   exact⟨j+1,hj',by omega,zO [(0,0)] ⟨rfl,zf (cR bs (by rw[hs,tw,cQ hne,List.append_assoc])),cr,trivial⟩⟩
  ·simp only[zb]at h2
   have hze:c.items[j].ref.length=0:=by omega
   have hpl:=pJ hi.2
   refine zw ?_
   refine cV (vf rfl hj') (cU ?_)
   refine ze (XI c.items[j].prop hi.2 hii) ?_
   refine ze (uE (xr c j) [1] (xZ c.items[j].prop) (by omega) (by simp) (by omega)) ?_
   refine zd (m:=((j+1:Nat):Int)) (by omega) (by omega) ?_
   exact⟨j+1,hj',by omega,zO [(0,0)] ⟨rfl,zf (cR bs (by rw[hs,tw,cO hze,List.append_assoc])),cr,trivial⟩⟩
 simp only[zb]at h
 obtain rfl:j=c.items.length:=by omega
 have hL:=kL hc c.items.length
 have hv:=yf (xr c c.items.length)
 have hx:xr c c.items.length=c.items.flatMap tw:=by unfold xr;rw[List.take_length]
 cases hh:c.has with
 |false=>
  refine zt (by rw[hh];rfl) (zp ?_)
  have e:vT c=u6 c++[0]:=by unfold vT;rw[hh,cQ (by simp),u6,hx]
  refine ze (vq (xr c c.items.length) (by omega)) ?_
  refine zw ?_
  refine ze (wq (zZ (xr c c.items.length)) [0] (by omega) (by simp)) ?_
  exact zf (cR bs (by rw[e,u6]))
 |true=>
  have e:vT c=mN c++zZ (vr c c.way.steps.length):=by
   have hy:vr c c.way.steps.length=c.way.steps.flatMap rz:=by unfold vr;rw[List.take_length]
   unfold vT
   rw[hh,cO rfl,hy,mN,oH,u6,hx]
  have hll:=sA hc.leaf
  refine zu (by rw[hh];rfl) (zq ?_)
  refine zy (λj:Nat=>⟨[(1,.own 0),(3,.r (bs (xr c c.items.length))),(5,.r (bs (vr c j))),(6,.r (I j))],[(0,some (.box (c.c.map .r)))],1⟩) (λj=>j<=c.way.steps.length) (λj=>c.way.steps.length-j) 0 (by omega)
   (zO [(0,0)] ⟨rfl,cr,z8 1,cr,trivial⟩) ?_
  intro j hj
  refine cZ (λh=>?_) λh=>?_
  ·simp only[zb]at h
   have hj':j<c.way.steps.length:=by omega
   have hs:=hc.step _ (bY hj')
   have hS:=eu hc j
   have hsucc:=Wu hj'
   have hb:=hs.box
   have ht:=hs.to
   refine zy (λk:Nat=>⟨[(1,.own 0),(3,.r (bs (xr c c.items.length))),(5,.r (bs (vr c j))),(6,.r (I j)),(7,.r (bs (rJ c.way.steps[j] k))),(8,.r (I k))],[(0,some (.box (c.c.map .r)))],1⟩) (λk=>k<=c.way.steps[j].to.length) (λk=>c.way.steps[j].to.length-k) 0 (by omega)
    (zO [(0,0)] ⟨rfl,cr,cr,cr,z8 1,cr,trivial⟩) ?_
   intro k hk
   have hB:=SK hs k
   refine cV (vo rfl hj') (zg rfl ?_)
   refine cZ (λh2=>?_) λh2=>?_
   ·simp only[zb]at h2
    have hk':k<c.way.steps[j].to.length:=by omega
    have hbx:=hs.all _ (bY hk')
    have v1:=yf c.way.steps[j].to[k].enc
    have v2:=yf c.way.steps[j].to[k].box
    refine aV ?_
    refine cV (vo rfl hj') (zg rfl ?_)
    refine cV (vJ rfl hk') (zg rfl ?_)
    refine ze (vq c.way.steps[j].to[k].enc (by omega)) ?_
    refine cV (vo rfl hj') (zg rfl ?_)
    refine cV (vJ rfl hk') (zg rfl ?_)
    refine ze (vq c.way.steps[j].to[k].box (by omega)) ?_
    refine ze (uE (rJ c.way.steps[j] k) (zZ c.way.steps[j].to[k].enc) (zZ c.way.steps[j].to[k].box) (by omega) (by omega) (by omega)) ?_
    refine zd (m:=((k+1:Nat):Int)) (by omega) (by omega) ?_
    exact⟨k+1,hk',by omega,zO [(0,0)] ⟨rfl,cr,cr,cr,zf (cR bs (Xq hk')),cr,trivial⟩⟩
   ·simp only[zb]at h2
    obtain rfl:k=c.way.steps[j].to.length:=by omega
    have v1:=yf c.way.steps[j].box
    have v2:=yf (rJ c.way.steps[j] c.way.steps[j].to.length)
    refine cV (vo rfl hj') (zg rfl ?_)
    refine ze (vq c.way.steps[j].box (by omega)) ?_
    refine ze (vq (rJ c.way.steps[j] c.way.steps[j].to.length) (by omega)) ?_
    refine ze (uE (vr c j) (zZ c.way.steps[j].box) (zZ (rJ c.way.steps[j] c.way.steps[j].to.length)) (by omega) (by omega) (by omega)) ?_
    refine zd (m:=((j+1:Nat):Int)) (by omega) (by omega) ?_
    exact⟨j+1,hj',by omega,zO [(0,0)] ⟨rfl,cr,zf (cR bs hsucc),cr,trivial⟩⟩
  simp only[zb]at h
  obtain rfl:j=c.way.steps.length:=by omega
  have hS:=eu hc c.way.steps.length
  have v3:=yf (vr c c.way.steps.length)
  refine aV ?_
  refine ze (vq (xr c c.items.length) (by omega)) ?_
  refine zw ?_
  refine cU ?_
  refine ze (rC c.way.leaf hc.leaf.fit) ?_
  refine ze (uE (zZ (xr c c.items.length)) [1] (xA c.way.leaf) (by omega) (by simp) (by omega)) ?_
  refine ze (vq (vr c c.way.steps.length) (by omega)) ?_
  refine ze (wq (zZ (xr c c.items.length)++[1]++xA c.way.leaf) (zZ (vr c c.way.steps.length)) (by simp only[aL,bJ,bO];omega) (by omega)) ?_
  exact zf (cR bs (by rw[e,mN,oH,u6]))
theorem jH(m:MesP)(hm:m.sml)(hi:m.ints):aG 86 [.ag m.c] (.r (bs (xQ m))):=by
 have h1:=yf m.group
 have h2:=pJ hm.prop
 have h3:=dv hm.com
 have h4:=hm.group
 have b8:(yg 8 m.epoch).length=8:=yj _ _
 have b4:(yg 4 (xy m.frm)).length=4:=yj _ _
 refine aT Tryz.func86 rfl ?_
 refine aV ?_
 refine ze (vq m.group (by omega)) ?_
 refine ze (rZ 8 m.epoch (by decide) hi.epoch) ?_
 refine zw ?_
 refine ze (uE (zZ m.group) (yg 8 m.epoch) [1] (by omega) (by omega) (by simp)) ?_
 refine ze (Tc m.frm hi.frm) ?_
 refine zw ?_
 refine ze (wq (yg 4 (xy m.frm)) [m.kind] (by omega) (by simp)) ?_
 refine ze (wq (zZ m.group++yg 8 m.epoch++[1]) (yg 4 (xy m.frm)++[m.kind]) (by simp only[aL,bJ,bO];omega) (by simp only[aL,bJ,bO];omega)) ?_
 by_cases k2:m.kind=2
 ·refine zt (by rw[k2];rfl) (zp ?_)
  refine cU ?_
  refine ze (XI m.prop hm.prop hi.at_) ?_
  refine ze (wq (zZ m.group++yg 8 m.epoch++[1]++(yg 4 (xy m.frm)++[m.kind])) (xZ m.prop) (by simp only[aL,bJ,bO];omega) (by omega)) ?_
  exact zf (cR bs (by unfold xQ;rw[cO k2]))
 ·refine zu (by simp only[zb];exact uO k2) (zq ?_)
  refine cU ?_
  refine ze (LT m.com hm.com hi.com) ?_
  refine ze (wq (zZ m.group++yg 8 m.epoch++[1]++(yg 4 (xy m.frm)++[m.kind])) (vT m.com) (by simp only[aL,bJ,bO];omega) (by omega)) ?_
  exact zf (cR bs (by unfold xQ;rw[cQ k2]))
theorem Rh(m:MesP)(hm:m.sml):aG 87 [.ag m.c] (.r (bs (pQ m))):=by
 have h1:=hm.sig
 have h2:=hm.tag
 have v1:=yf m.sig
 have v2:=yf m.tag
 refine aT Tryz.func87 rfl ?_
 by_cases k3:m.kind=3
 ·refine zt (by rw[k3];rfl) (zp ?_)
  refine aV ?_
  refine ze (vq m.sig (by omega)) ?_
  refine ze (vq m.tag (by omega)) ?_
  refine ze (wq (zZ m.sig) (zZ m.tag) (by omega) (by omega)) ?_
  exact zf (cR bs (by unfold pQ;rw[cO k3]))
 ·refine zu (by simp only[zb];exact uO k3) (zq ?_)
  refine ze (vq m.sig (by omega)) ?_
  exact zf (cR bs (by unfold pQ;rw[cQ k3]))
theorem VF(m:MesP)(F S:cT)(hF:F.length<=1000000)(hS:S.length<=1000000)(hm:m.mem.length<=100)
  (c1:aG 86 [.ag m.c] (.r (bs F))) (c2:aG 87 [.ag m.c] (.r (bs S))):
  aG 26 [.ag m.c] (.r (bs (yg 2 1++yg 2 1++F++(S++zZ m.mem)))):=by
 have v1:=yf m.mem
 have b2:(yg 2 1).length=2:=yj _ _
 refine aT Tryz.func26 rfl ?_
 refine aV ?_
 refine ze (kX 1 (by decide)) ?_
 refine ze (kX 1 (by decide)) ?_
 refine cU ?_
 refine ze c1 ?_
 refine ze (uE (yg 2 1) (yg 2 1) F (by omega) (by omega) (by omega)) ?_
 refine cU ?_
 refine ze c2 ?_
 refine ze (vq m.mem (by omega)) ?_
 refine ze (wq S (zZ m.mem) (by omega) (by omega)) ?_
 refine ze (wq (yg 2 1++yg 2 1++F) (S++zZ m.mem) (by simp only[aL];omega) (by simp only[aL];omega)) ?_
 exact cr
theorem XB(m:MesP)(hm:m.sml)(hi:m.ints):aG 26 [.ag m.c] (.r (bs (tT m))):=by
 have h1:=rK hm
 have h2:=nR hm
 exact VF m (xQ m) (pQ m) (by omega) (by omega) hm.mem (jH m hm hi) (Rh m hm)
theorem WE(m:MesP)(x:CtxP)(F C:cT)(hF:F.length<=1000000)(hC:C.length<=1000000)
  (c1:aG 86 [.ag m.c] (.r (bs F))) (c2:aG 59 [.ag x.c] (.r (bs C))):
  aG 79 [.ag m.c,.ag x.c] (.r (bs (yg 2 1++yg 2 1++F++C))):=by
 have b2:(yg 2 1).length=2:=yj _ _
 refine aT Tryz.func79 rfl ?_
 refine aV ?_
 refine ze (kX 1 (by decide)) ?_
 refine ze (kX 1 (by decide)) ?_
 refine cU ?_
 refine ze c1 ?_
 refine ze (uE (yg 2 1) (yg 2 1) F (by omega) (by omega) (by omega)) ?_
 refine cU ?_
 refine ze c2 ?_
 refine ze (wq (yg 2 1++yg 2 1++F) C (by simp only[aL];omega) (by omega)) ?_
 exact cr
theorem qL(m:MesP)(hm:m.sml)(hi:m.ints)(x:CtxP)(hx:x.fit)(hx2:(yV x).length<=1000000):aG 79 [.ag m.c,.ag x.c] (.r (bs (xh m x))):=by
 have h1:=rK hm
 exact WE m x (xQ m) (yV x) (by omega) hx2 (jH m hm hi) (YE x hx)
theorem WG(m:MesP)(x:CtxP)(F S:cT)(hF:F.length<=10000000)(hS:S.length<=1000000)
  (c1:aG 79 [.ag m.c,.ag x.c] (.r (bs F))) (c2:aG 87 [.ag m.c] (.r (bs S))):
  aG 80 [.ag m.c,.ag x.c] (.r (bs (F++S))):=by
 refine aT Tryz.func80 rfl ?_
 refine aV ?_
 refine cU ?_
 refine cU ?_
 refine ze c1 ?_
 refine cU ?_
 refine ze c2 ?_
 refine ze (wq F S (by omega) (by omega)) ?_
 exact cr
theorem ny(m:MesP)(hm:m.sml)(hi:m.ints)(x:CtxP)(hx:x.fit)(hx2:(yV x).length<=1000000):aG 80 [.ag m.c,.ag x.c] (.r (bs (vG m x))):=by
 have h1:=sv hm
 have h2:=nR hm
 exact WG m x (xh m x) (pQ m) (by rw[xh,aL];omega) (by omega) (qL m hm hi x hx hx2) (Rh m hm)
theorem dA(m:MesP)(F:cT)(hF:F.length<=1000000)(hs:m.sig.length<=100)
  (c1:aG 86 [.ag m.c] (.r (bs F))):
  aG 102 [.ag m.c] (.r (bs (yg 2 1++F++zZ m.sig))):=by
 have v1:=yf m.sig
 have b2:(yg 2 1).length=2:=yj _ _
 refine aT Tryz.func102 rfl ?_
 refine aV ?_
 refine ze (kX 1 (by decide)) ?_
 refine cU ?_
 refine ze c1 ?_
 refine ze (vq m.sig (by omega)) ?_
 refine ze (uE (yg 2 1) F (zZ m.sig) (by omega) (by omega) (by omega)) ?_
 exact cr
theorem W5(m:MesP)(hm:m.sml)(hi:m.ints):aG 102 [.ag m.c] (.r (bs (np m))):=by
 have h1:=rK hm
 exact dA m (xQ m) (by omega) hm.sig (jH m hm hi)
theorem wn(l:cT):aG 24 [bs l,bs l] (.r (.b true)):=by
 have h:=pA l l
 rw[bE rfl]at h
 exact h
theorem Gf(x:CtxP):aG 96 [.ag x.c,.ag x.c] (.r (.b true)):=by
 refine aT Tryz.func96 rfl ?_
 refine ze (wn x.group) ?_
 refine zt (by simp only[zb]) ?_
 refine ze (wn x.tree) ?_
 refine ze (wn x.trans) ?_
 exact cr
theorem Nj(L:List cT)(hL:L.length<=1000000):aG 168 [tk L,tk L] (.r (.b true)):=by
 have h:=Sr L L hL hL
 rw[bE rfl]at h
 exact h
theorem LX(s:SecP):aG 97 [.ag s.c,.ag s.c] (.r (.b true)):=by
 refine aT Tryz.func97 rfl ?_
 refine zw ?_
 refine zw ?_
 refine ze (Nj [s.jn,s.wl,s.ep,s.sd,s.en,s.ex,s.au,s.xt,s.cf,s.mb,s.rs,s.it] (by simp)) ?_
 exact cr
end Go.Proofs.YtkegaaonpekkgaaGreat.Sx
