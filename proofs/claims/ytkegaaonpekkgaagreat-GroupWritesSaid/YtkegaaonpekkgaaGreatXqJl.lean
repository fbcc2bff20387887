import Derived.Test.YtkegaaonpekkgaaGreatXqJa
import Derived.Test.YtkegaaonpekkgaaGreatXqSxMg
import Derived.Test.YtkegaaonpekkgaaGreatXqSxBr
import Derived.Test.YtkegaaonpekkgaaGreatXqTl
import Derived.Test.YtkegaaonpekkgaaGreatXqBn
import Derived.Test.YtkegaaonpekkgaaGreatXqHq
import Derived.Test.YtkegaaonpekkgaaGreatXqSxTu
namespace Go.Proofs.YtkegaaonpekkgaaGreat.Sx
open Go.RowKit
set_option maxHeartbeats 8000000
theorem Sb(leaves own:Int)(hl:i64 leaves)(ho:i64 own)(O:List Spot)(H:List Stub)(only:Bool)(hOn:O.length<=1000000)(hHn:H.length<=1000000)(hOf: ∀s∈O,s.node.fit)(hOi: ∀s∈O,i64 s.at_)(hHi: ∀s∈H,i64 s.at_)(hHl: ∀s∈H,s.hash.length<=1000000000)(hso: ∀(d:Nat) (r:V3) (p0:Value),leaves=((2^d:Nat):Int)->r=rU O own only d 0 0 []->yz aP 372 1 [(0,va leaves own O H)] [.r (I leaves),.r (I own),.r (.b only),.r (.x (.func (.func 508) #[] #[p0]))] [(0,p0)] 11 [(0,va leaves own O H)] (.r (.tu [is r.1,is r.2.1,.b r.2.2]))):
  aG 457 [UQ leaves own O H,.b only] (.r (.b (tb leaves own O H only))):=by
 refine aT Tryz.func457 rfl ?_
 refine z6 (Zf leaves) (λhf=>zu rfl ?_) (λhf=>zt rfl (zp ?_))
 rotate_left
 ·exact zf (by simp[tb,hf,xT])
 have hn:=kp hf
 refine zh (λh0=>zp ?_) (λh0=>?_)
 ·simp only[zb]at h0
  refine zf (cR RV.b (Eq.symm ?_))
  have: ¬0<=own:=by omega
  simp[tb,this]
 simp only[zb]at h0
 have h0':0<=own:=by omega
 refine zh (λh1=>zp ?_) (λh1=>?_)
 ·simp only[zb]at h1
  refine zf (cR RV.b (Eq.symm ?_))
  have: ¬own<leaves:=by omega
  simp[tb,this]
 simp only[zb]at h1
 have h1':own<leaves:=by omega
 refine zd rfl (by omega) ?_
 refine Vstep.node1 rfl rfl rfl (λm hm=>?_) (λhm=>?_)
 rotate_left
 ·refine Vsem.field Tab_ok rfl rfl rfl rfl rfl rfl rfl rfl ?_
  refine zt rfl (zp ?_)
  exact zf (by simp[tb,mt,hm,xT])
 refine Vsem.field Tab_ok rfl rfl rfl rfl rfl rfl rfl rfl ?_
 refine zh (λhk=>zp ?_) (λhk=>zq ?_)
 ·simp only[zb]at hk
  refine zf (cR RV.b (Eq.symm ?_))
  have: ¬m.kind.toNat=1:=by omega
  simp[tb,mt,hm,this]
 simp only[zb]at hk
 have hleaf:mt O (2*own)=true:=by simp only[mt,hm,decide_eq_true_eq];omega
 refine Vstep.range rfl rfl jh ?_
 refine Vloop.mkx (λdn:List Nat=>⟨[(1,.r (.b only)),(2,.own 0),(40,.own 1)],[(0,some (va leaves own O H)),(1,some (.gen (kK (wm O) dn none)))],2⟩) (λdn=>dn.Nodup/\∀j∈dn,∃s,O[j]?=some s/\sJ s.at_ s.node=true) (λdn=>O.length-dn.length) [] ⟨List.nodup_nil,by simp⟩ (zX [(0,0),(1,1)] rfl ⟨cr,rfl,rfl,trivial⟩ ⟨(aC aZ),λ_ _ _ hh=>hh,trivial⟩) ?_
 rintro dn ⟨hnd,hdn⟩
 refine Vstep.next rfl rfl rfl (λhall=>?_) (λj x hj hjn=>?_)
 rotate_left
 ·have hjO: ∃s,O[j]?=some s/\x=(s.at_,.ag s.node.c):=by
   simp only[wm,bR,Option.map_eq_some_iff]at hj
   obtain⟨s,hs,rfl⟩:=hj
   exact⟨s,hs,rfl⟩
  obtain⟨s,hs,rfl⟩:=hjO
  have hsm:=cH hs
  refine zp ?_
  refine Vstep.entry rfl rfl rfl hj ?_
  refine za rfl rfl ?_
  refine z6 (LG s.at_ s.node (hOf s hsm)) (λhp=>zu rfl (zq ?_)) (λhp=>zt rfl (zp ?_))
  ·have hlen:(dn++[j]).length<=O.length:=lg _ (by
    rw[List.nodup_append]
    exact⟨hnd,by simp,λy hy z hz e=>hjn (by rw[List.mem_singleton.1 hz]at e;exact e▸hy)⟩) λy hy=>by
     rcases List.mem_append.1 hy with hy |hy
     ·obtain⟨s',h',_⟩:=hdn y hy
      exact(List.getElem?_eq_some_iff.1 h').1
     ·rw[List.mem_singleton.1 hy];exact(List.getElem?_eq_some_iff.1 hs).1
   rw[aL]at hlen
   refine⟨dn++[j],⟨?_,λy hy=>?_⟩,by simp only[aL,bJ,bO]at*;omega,zX [(0,0),(1,1)] rfl ⟨cr,rfl,rfl,trivial⟩ ⟨(aC aZ),Z9,trivial⟩⟩
   ·rw[List.nodup_append]
    exact⟨hnd,by simp,λy hy z hz e=>hjn (by rw[List.mem_singleton.1 hz]at e;exact e▸hy)⟩
   ·rcases List.mem_append.1 hy with hy |hy
    ·exact hdn y hy
    ·rw[List.mem_singleton.1 hy];exact⟨s,hs,hp⟩
  ·refine⟨_,zo _,zf (cR RV.b (Eq.symm ?_))⟩
   have:O.all (λs=>sJ s.at_ s.node)=false:=Xn hsm hp
   simp[tb,this]
 ·have hallO:O.all (λs=>sJ s.at_ s.node)=true:=SG λj hjl x hx=>by
   obtain⟨s,hs,hp⟩:=hdn j (hall j (by simpa[wm]using hjl))
   rw[hx]at hs
   cases hs
   exact hp
  refine zq ?_
  refine⟨_,zo _,?_⟩
  refine Vstep.range rfl rfl bj ?_
  refine Vloop.mkx (λdn:List Nat=>⟨[(1,.r (.b only)),(2,.own 0),(52,.own 1)],[(0,some (va leaves own O H)),(1,some (.gen (kK (wx H) dn none)))],2⟩) (λdn=>dn.Nodup/\∀j∈dn,∃s,H[j]?=some s/\s.hash.length=32) (λdn=>H.length-dn.length) [] ⟨List.nodup_nil,by simp⟩ (zX [(0,0),(1,2)] rfl ⟨cr,rfl,rfl,trivial⟩ ⟨(aC aZ),λ_ _ _ hh=>hh,trivial⟩) ?_
  clear hnd hdn hall
  rintro dn ⟨hnd,hdn⟩
  refine Vstep.next rfl rfl rfl (λhall=>?_) (λj x hj hjn=>?_)
  rotate_left
  ·have hjH: ∃s,H[j]?=some s/\x=(s.at_,bs s.hash):=by
    simp only[wx,bR,Option.map_eq_some_iff]at hj
    obtain⟨s,hs,rfl⟩:=hj
    exact⟨s,hs,rfl⟩
   obtain⟨s,hs,rfl⟩:=hjH
   have hsm:=cH hs
   have hsl:=hHl s hsm
   refine zp ?_
   refine Vstep.entry rfl rfl rfl hj ?_
   refine zh (λh3=>zp ?_) (λh3=>zq ?_)
   ·simp only[zb]at h3
    refine⟨_,zo _,zf (cR RV.b (Eq.symm ?_))⟩
    have:H.all (λs=>decide (s.hash.length=32))=false:=Xn hsm (by simp;omega)
    simp[tb,this]
   ·simp only[zb]at h3
    have hlen:(dn++[j]).length<=H.length:=lg _ (by
     rw[List.nodup_append]
     exact⟨hnd,by simp,λy hy z hz e=>hjn (by rw[List.mem_singleton.1 hz]at e;exact e▸hy)⟩) λy hy=>by
      rcases List.mem_append.1 hy with hy |hy
      ·obtain⟨s',h',_⟩:=hdn y hy
       exact(List.getElem?_eq_some_iff.1 h').1
      ·rw[List.mem_singleton.1 hy];exact(List.getElem?_eq_some_iff.1 hs).1
    rw[aL]at hlen
    refine⟨dn++[j],⟨?_,λy hy=>?_⟩,by simp only[aL,bJ,bO]at*;omega,zX [(0,0),(1,1)] rfl ⟨cr,rfl,rfl,trivial⟩ ⟨(aC aZ),Z9,trivial⟩⟩
    ·rw[List.nodup_append]
     exact⟨hnd,by simp,λy hy z hz e=>hjn (by rw[List.mem_singleton.1 hz]at e;exact e▸hy)⟩
    ·rcases List.mem_append.1 hy with hy |hy
     ·exact hdn y hy
     ·rw[List.mem_singleton.1 hy];exact⟨s,hs,by omega⟩
  ·have hallH:H.all (λs=>decide (s.hash.length=32))=true:=SG λj hjl x hx=>by
    obtain⟨s,hs,hp⟩:=hdn j (hall j (by simpa[wx]using hjl))
    rw[hx]at hs
    cases hs
    simpa using hp
   refine zq ?_
   refine⟨_,zo _,?_⟩
   obtain⟨d,hd,hd2⟩:=mc hf
   have hdl:leaves.toNat.log2=d:=by rw[hd2,cF,Nat.log2_two_pow]
   obtain⟨r,hr⟩: ∃r,r=rU O own only d 0 0 []:=⟨_,rfl⟩
   have hrl:=T9 O own only d 0 0 []
   rw[<-hr]at hrl
   have hp17:2^(d+1)<=131072:=Nat.pow_le_pow_right (n:=2) (by omega) (show d+1<=17 by omega)
   have hfin:tb leaves own O H only=(r.2.2&&(decide (r.1=xS (O.map (·.at_)))&&decide (r.2.1=xS (H.map (·.at_))))):=by
    simp[tb,hf,h0',h1',hleaf,hallO,hallH,hdl,<-hr]
   rw[hfin]
   have hop:=λp0=>hso d r p0 hd2 hr
   obtain⟨A,B,okv⟩:=r
   simp only at hop hrl⊢
   refine Vstep.nm 0 1000000 rfl λp0=>Vstep.mkfunX [p0] rfl ⟨_,_,rfl,⟨0,1000000,rfl,rfl⟩,rfl⟩ ?_
   refine zj [(0,0)] [0] (λvs hv=>oC (by simp only[List.map];rw[hv 0 0 1000000 _ rfl rfl]) (hop p0)) (zi rfl ⟨_,_,rfl,cr,_,_,rfl,cr,_,_,rfl,cr,_,_,rfl,cr,rfl⟩) rfl ⟨(aC aZ),trivial⟩ ⟨zY,trivial⟩ ?_
   have hsn:(xS (O.map (·.at_))).length<=1000000:=by unfold xS;rw[List.length_mergeSort,bC];exact hOn
   have hsh:(xS (H.map (·.at_))).length<=1000000:=by unfold xS;rw[List.length_mergeSort,bC];exact hHn
   have kN:=X6 (wm O) (by simpa[wm]using hOn) (λx hx=>by
    simp only[wm,List.mem_map]at hx
    obtain⟨s,hs,rfl⟩:=hx
    exact hOi s hs)
   have kH:=X5 (wx H) (by simpa[wx]using hHn) (λx hx=>by
    simp only[wx,List.mem_map]at hx
    obtain⟨s,hs,rfl⟩:=hx
    exact hHi s hs)
   rw[ic]at kN
   rw[jM]at kH
   cases okv with
   |false=>exact zf rfl
   |true=>
    refine ze (SW (wm O)) ?_
    refine ze kN ?_
    refine z6 (jB A (xS (O.map λs:Spot=>s.at_)) (by omega) (by omega)) (λhe=>?_) (λhe=>?_)
    ·refine ze (SV (wx H)) ?_
     refine ze kH ?_
     refine ze (jB B (xS (H.map λs:Stub=>s.at_)) (by omega) (by omega)) ?_
     exact zf (cR RV.b (by rw[he];simp))
    ·exact zf (cR RV.b (by rw[he];simp))
theorem Bu(pv:Value)(lf:Leaf):yz aP 508 1 [(0,va 1 0 [⟨0,L1 lf⟩] [])] [.r (I 0),.own 0] [(0,pv)] 2 [(0,va 1 0 [⟨0,L1 lf⟩] [])] (.r (.tu [.ag (L1 lf).c,.b true])):=by
 have h:=Ae pv 1 0 [⟨0,L1 lf⟩] [] 0
 have e1:mw [⟨0,L1 lf⟩] 0=L1 lf:=by simp[mw,xP]
 have e2:jA [⟨0,L1 lf⟩] 0=true:=by simp[jA,xP]
 rw[e1,e2]at h
 exact h
structure VE where
 lf:Leaf
 i:Int
 only:Bool
 p0:Value
 p1:Value
 p2:Value
 p3:Value
 p4:Value
 p5:Value
 p6:Value
 p7:Value
 p8:Value
def VE.fat(c:VE):Value:= .func (.func 508) #[] #[c.p0]
def VE.vis(c:VE):Value:= .func (.func 450) #[] #[c.p3,c.p6,c.p8,c.p4]
def VE.chi(c:VE):Value:= .func (.func 448) #[] #[c.p1,c.p7,c.p2,c.p5]
def VE.mem(c:VE)(A B:List Int)(ok:Bool):List (Nat×Ow):=
 [(0,va 1 0 [⟨0,L1 c.lf⟩] []),(1,.box [.r (I c.i)]),(2,.box [.r (.b c.only)]),(3,.box [.r (.x c.fat)]),(4,.box [.own 9]),(5,.box [.own 10]),(6,.box [.r (.b ok)]),(7,.box [.r (.x c.vis)]),(8,.box [.r (.x c.chi)]),
 (9,.ch 3 1 A.length (A.map I) false),(10,.ch 3 1 B.length (B.map I) false)]
def VE.nms(c:VE):List (Nat×Value):=[(0,c.p0),(1,c.p1),(2,c.p2),(3,c.p3),(4,c.p4),(5,c.p5),(6,c.p6),(7,c.p7),(8,c.p8)]
theorem VE.same(c:VE)(A B A' B':List Int)(ok ok':Bool):mZ (c.mem A B ok) (c.mem A' B' ok') c.nms:=
 ⟨⟨_,_,rfl,rfl,ym,ym⟩,⟨_,_,rfl,rfl,ym,ym⟩,⟨_,_,rfl,rfl,ym,ym⟩,⟨_,_,rfl,rfl,ym,ym⟩,⟨_,_,rfl,rfl,ym,ym⟩,⟨_,_,rfl,rfl,ym,ym⟩,⟨_,_,rfl,rfl,ym,ym⟩,⟨_,_,rfl,rfl,ym,ym⟩,⟨_,_,rfl,rfl,ym,ym⟩,trivial⟩
theorem VE.visit(c:VE)(A B:List Int)(ok:Bool)(hlf:c.lf.fit)(hA:A.length<=1000000):
  yz aP 450 11 (c.mem A B ok) [.r (I 0),.r (I 0),.r (is []),.own 3,.own 6,.own 8,.own 4] c.nms 11 (c.mem (A++[(0:Int)]) B ok) (.r (.tu [])):=by
 refine yk (T:=Tab) mixed Tab_ok Tryz.func450 rfl (by kernel_rfl) rfl (c.same _ _ _ _ _ _) ?_
 refine zj [(0,0)] [0] (λvs _=>Bu (vs 0) c.lf) (Handed.clo (fs:=[.r (I _)]) (cs:=[.own 0]) rfl rfl ⟨_,_,rfl,cr,rfl⟩ ⟨_,_,rfl,⟨0,1000000,rfl,rfl⟩,rfl⟩) rfl ⟨(aC aZ),trivial⟩ ⟨zY,trivial⟩ ?_
 refine cX ?_
 refine cX ?_
 refine⟨by decide,_,rfl,?_⟩
 refine cX ?_
 refine zw ?_
 refine z7 (j:=(A++[(0:Int)]).length) (zs:=(A++[(0:Int)]).map I) (by simp only[maxLen,aL];omega) (by simp;omega) (by rw[aL (bs:=[_])];rfl) (List.map_append (f:=I) (l₁:=A) (l₂:=[(0:Int)])).symm ?_
 refine⟨by decide,_,rfl,?_⟩
 refine cX ?_
 exact yr (.inr rfl) [(0,0),(1,1),(2,2),(3,3),(4,4),(5,5),(6,6),(7,7),(8,8),(9,15),(10,10)] [] [] rfl ⟨⟨rfl,rfl⟩,⟨rfl,rfl⟩,⟨rfl,rfl⟩,⟨rfl,rfl⟩,⟨rfl,rfl⟩,⟨rfl,rfl⟩,⟨rfl,rfl⟩,⟨rfl,rfl⟩,⟨rfl,rfl⟩,trivial⟩ ⟨(aC aZ),(aA aZ),(aA aZ),(aA aZ),⟨_,_,rfl,rfl,rfl⟩,⟨_,_,rfl,rfl,rfl⟩,(aA aZ),(aA aZ),(aA aZ),⟨rfl,rfl,rfl,rfl,zn _⟩,⟨rfl,rfl,rfl,rfl,zn _⟩,trivial⟩ ⟨⟨1000000,rfl⟩,⟨1000001,rfl⟩,⟨1000002,rfl⟩,⟨1000003,rfl⟩,⟨1000004,rfl⟩,⟨1000005,rfl⟩,⟨1000006,rfl⟩,⟨1000007,rfl⟩,⟨1000008,rfl⟩,trivial⟩ ⟨_,rfl,cr⟩
theorem Kl(lf:Leaf)(hlf:lf.fit)(p0:Value)(i:Int)(only:Bool):
  yz aP 372 1 [(0,va 1 0 [⟨0,L1 lf⟩] [])] [.r (I 1),.r (I i),.r (.b only),.r (.x (.func (.func 508) #[] #[p0]))] [(0,p0)] 11 [(0,va 1 0 [⟨0,L1 lf⟩] [])] (.r (.tu [is [0],is [],.b true])):=by
 refine yk (T:=Tab) mixed Tab_ok Tryz.func372 rfl (by kernel_rfl) rfl ⟨⟨_,_,rfl,rfl,ym,ym⟩,trivial⟩ ?_
 refine Vstep.nm 1 1000001 rfl λp1=>Vstep.nm 7 1000007 rfl λp7=>Vstep.nm 2 1000002 rfl λp2=>Vstep.nm 5 1000005 rfl λp5=>Vstep.mkfunX [p1,p7,p2,p5] rfl ⟨_,_,rfl,⟨1,1000001,rfl,rfl⟩,_,_,rfl,⟨7,1000007,rfl,rfl⟩,_,_,rfl,⟨2,1000002,rfl,rfl⟩,_,_,rfl,⟨5,1000005,rfl,rfl⟩,rfl⟩ ?_
 refine Vstep.nm 3 1000003 rfl λp3=>Vstep.nm 6 1000006 rfl λp6=>Vstep.nm 8 1000008 rfl λp8=>Vstep.nm 4 1000004 rfl λp4=>Vstep.mkfunX [p3,p6,p8,p4] rfl ⟨_,_,rfl,⟨3,1000003,rfl,rfl⟩,_,_,rfl,⟨6,1000006,rfl,rfl⟩,_,_,rfl,⟨8,1000008,rfl,rfl⟩,_,_,rfl,⟨4,1000004,rfl,rfl⟩,rfl⟩ ?_
 refine Vdraw.cut 3 (by kernel_rfl) ?_
 refine ze (OX 1) ?_
 have hvis:=VE.visit ⟨lf,i,only,p0,p1,p2,p3,p4,p5,p6,p7,p8⟩ [] [] true hlf (by decide)
 simp only[cG]at hvis
 refine zJ (Sub.trans (w8 false 4 0 3 1 rfl rfl) (w8 false 5 0 3 1 rfl rfl)) ?_
 refine zj [(0,0),(1,1),(2,2),(3,3),(4,4),(5,5),(6,6),(7,7),(8,8),(9,9),(10,10)] [0,1,2,3,4,5,6,7,8] (λvs hv=>oC (by simp only[List.map];rw[hv 0 0 1000000 _ rfl rfl,hv 1 1 1000001 _ rfl rfl,hv 2 2 1000002 _ rfl rfl,hv 3 3 1000003 _ rfl rfl,hv 4 4 1000004 _ rfl rfl,hv 5 5 1000005 _ rfl rfl,hv 6 6 1000006 _ rfl rfl,hv 7 7 1000007 _ rfl rfl,hv 8 8 1000008 _ rfl rfl];rfl) hvis) (Handed.clo (fs:=[.r (I _),.r (I _),.r (is [])]) (cs:=[.own 3,.own 6,.own 8,.own 4]) rfl rfl ⟨_,_,rfl,cr,_,_,rfl,cr,_,_,rfl,z8 1,rfl⟩ ⟨_,_,rfl,⟨3,1000003,rfl,rfl⟩,_,_,rfl,⟨6,1000006,rfl,rfl⟩,_,_,rfl,⟨8,1000008,rfl,rfl⟩,_,_,rfl,⟨4,1000004,rfl,rfl⟩,rfl⟩) rfl ⟨(aC aZ),(aA aZ),(aA aZ),(aA aZ),⟨_,_,rfl,rfl,rfl⟩,⟨_,_,rfl,rfl,rfl⟩,(aA aZ),(aA aZ),(aA aZ),⟨rfl,rfl,rfl,rfl,zn _⟩,⟨rfl,rfl,rfl,rfl,zn _⟩,trivial⟩ ⟨zY,zY,zY,zY,zY,zY,zY,zY,zY,jj,jj,trivial⟩ ?_
 refine Vdraw.code (Vcode.float mixed Tab_ok 5 [⟨0,19,.own 9,[]⟩,⟨1,20,.own 10,[]⟩,⟨2,21,.r (.b true),[]⟩] [(3,[0]),(4,[1])] (by kernel_rfl) (F:=[(8,.own 4),(9,.own 5),(10,.own 6),(1000000,.nm 0 p0)]) (O:=[(0,some (va 1 0 [⟨0,L1 lf⟩] [])),(4,some (.box [.own 9])),(5,some (.box [.own 10])),(6,some (.box [.r (.b true)])),(9,some (.ch 3 1 1 [I 0] false)),(10,some (.ch 3 1 0 [] false))]) (nx:=11) (zN [(0,0),(4,4),(5,5),(6,6),(9,20),(10,21)] ⟨(aC aZ),⟨_,_,rfl,rfl,rfl⟩,⟨_,_,rfl,rfl,rfl⟩,(aA aZ),⟨rfl,rfl,rfl,rfl,zn _⟩,⟨rfl,rfl,rfl,rfl,zn _⟩,trivial⟩) ?_)
 refine⟨rfl,⟨λY=>zo _,λY=>zo _,λY=>zo _,trivial⟩,[(8,.own 4),(9,.own 5),(10,.own 6),(1000000,.nm 0 p0)],(4,some (.box [.own 9]))::[(0,some (va 1 0 [⟨0,L1 lf⟩] [])),(4,some (.box [.own 9])),(5,some (.box [.own 10])),(6,some (.box [.r (.b true)])),(9,some (.ch 3 1 1 [I 0] false)),(10,some (.ch 3 1 0 [] false))],11,λY=>zo _,?_⟩
 refine⟨rfl,⟨λY=>zo _,λY=>zo _,λY=>zo _,trivial⟩,[(8,.own 4),(9,.own 5),(10,.own 6),(1000000,.nm 0 p0)],(5,some (.box [.own 10]))::(4,some (.box [.own 9]))::[(0,some (va 1 0 [⟨0,L1 lf⟩] [])),(4,some (.box [.own 9])),(5,some (.box [.own 10])),(6,some (.box [.r (.b true)])),(9,some (.ch 3 1 1 [I 0] false)),(10,some (.ch 3 1 0 [] false))],11,λY=>zo _,?_⟩
 refine⟨rfl,⟨λY=>zo _,λY=>zo _,λY=>zo _,trivial⟩,?_⟩
 refine SQ (Sub.trans (xE (id:=9) rfl) (xE (id:=10) rfl)) ?_
 exact yr (.inl rfl) [(0,0),(4,4),(5,5),(6,6),(9,9),(10,10)] [(8,.own 4),(9,.own 5),(10,.own 6)] [(4,some (.box [.own 9])),(5,some (.box [.own 10])),(6,some (.box [.r (.b true)])),(9,some (.ch 3 1 1 [I 0] true)),(10,some (.ch 3 1 0 [] true))] rfl ⟨rfl,rfl,rfl,⟨rfl,rfl⟩,trivial⟩ ⟨(aC aZ),⟨_,_,rfl,rfl,rfl⟩,⟨_,_,rfl,rfl,rfl⟩,(aA aZ),⟨rfl,rfl,rfl,rfl,zn _⟩,⟨rfl,rfl,rfl,rfl,zn _⟩,trivial⟩ ⟨⟨1000000,rfl⟩,trivial⟩ ⟨_,rfl,cr⟩
theorem A2(lf:Leaf)(only:Bool):rU [⟨0,L1 lf⟩] 0 only 0 0 0 []=([0],[],true):=by
 unfold rU
 have:xP [⟨0,L1 lf⟩] ((nd 0 0:Nat):Int)=some (L1 lf):=by simp[xP,nd]
 rw[this]
 rfl
theorem Fk{d:Nat}(h:(1:Int)=((2^d:Nat):Int)):d=0:=by
 cases d with
 |zero=>rfl
 |succ n=>
  have:1<=2^n:=Nat.one_le_two_pow
  rw[Nat.pow_succ]at h
  omega
section
variable (lf:Leaf) (hlf:lf.fit) (hlr:lf.right=true)
include hlf hlr
omit hlf in
theorem UL:sR (sD (L1 lf))=true:=PE (dc hlr) rfl
theorem ND:aG 457 [(sD (L1 lf)).pr,.b false] (.r (.b true)):=by
 have hR:=UL lf hlr
 unfold sR at hR
 simp only[bB]at hR
 have hb:=R5 (tE hlf)
 have h:=Sb 1 0 hb.nl hb.no (sD (L1 lf)).opn (sD (L1 lf)).shut false hb.lo hb.lh hb.fo hb.ao hb.ah hb.fh (λd r p0 hd hr=>by
  have h0:=Fk hd
  subst h0
  have e:r=([0],[],true):=hr.trans (A2 lf false)
  rw[e]
  exact Kl lf hlf p0 0 false)
 have e:tb 1 0 (sD (L1 lf)).opn (sD (L1 lf)).shut false=true:=hR.2
 rw[e]at h
 exact h
theorem Z3:aG 377 [.ag (sD (L1 lf)).c] (.r (.tu [(sD (L1 lf)).pr,.b true])):=by
 have hb:=R5 (tE hlf)
 have hR:=UL lf hlr
 have hp:=CA hR
 unfold sR at hR
 simp only[bB]at hR
 have c0:=OS (sD (L1 lf)) hb
 rw[hp,hR.1]at c0
 refine aT Tryz.func377 rfl ?_
 refine cU ?_
 refine ze c0 ?_
 refine aV ?_
 refine cU ?_
 refine cU ?_
 refine ze (ND lf hlf hlr) ?_
 refine cU ?_
 exact⟨_,rfl,cr⟩
theorem XM:aG 275 [.ag (sD (L1 lf)).c] (.r (.b true)):=by
 refine aT Tryz.func275 rfl ?_
 refine cU ?_
 refine ze (Z3 lf hlf hlr) ?_
 exact cr
theorem Kv:aG 280 [.ag (sD (L1 lf)).c,I 0] (.r (.tu [.ag (L1 lf).c,.b true])):=by
 refine aT Tryz.func280 rfl ?_
 refine cU ?_
 refine ze (Z3 lf hlf hlr) ?_
 refine Vstep.node2 rfl rfl rfl (λm hm=>?_) (λhm=>?_)
 ·have e:xP [⟨0,L1 lf⟩] 0=some m:=hm
  have e2:xP [⟨0,L1 lf⟩] 0=some (L1 lf):=by simp[xP]
  obtain rfl:L1 lf=m:=by rw[e2]at e;injection e
  refine zu rfl ?_
  refine zu rfl ?_
  refine zq ?_
  refine cU ?_
  refine ze (sL (L1 lf) (tE hlf) (ww _ hlf)) ?_
  refine cU ?_
  exact⟨_,rfl,cr⟩
 ·have e:xP [⟨0,L1 lf⟩] 0=none:=hm
  simp[xP]at e
end
theorem LS:aG 279 [ja [],nl] (.r (.tu [PH [],bs []])):=by
 refine aT Tryz.func279 rfl ?_
 refine⟨rfl,by decide,by decide,by decide,0,[],rfl,rfl,zw ?_⟩
 refine zd (m:= -1) rfl (by decide) ?_
 refine zE 1 (zC mixed Tab_ok ?_)
 refine cX ?_
 exact⟨_,rfl,Cv.tu (zk (cr) (zk (z8 1) zA))⟩
theorem Md(w:World):Calls aP 518 #[.int .u64 1] w λe w'=>e= .returned (.int .i64 1)/\w=w':=by
 go_enter Tryz.func518,Tryz.ntmps518
 go_wp2_with fail
 go_ret
 exact⟨cR (λx=>Ending.returned (.int .i64 x)) (show wrap64 (wrap64 (Lib.len8 1))=1 by decide+kernel),rfl⟩
theorem Gs:aG 518 [.i .u64 1] (.r (I 1)):=
 LM (us:=[.int .u64 1]) (u:= .int .i64 1) (t6 Tryz.func518 rfl (by kernel_rfl)) (λ_ _ _ h=>by
  obtain⟨u,rfl,h1⟩:=UP h
  simp only[RV.at_]at h1
  rw[h1]) (λ_ _=>by simp[RV.at_]) λw=>Md w
theorem Bv:aG 461 [.i .u64 1] (.r (I 1)):=by
 refine aT Tryz.func461 rfl ?_
 refine zq ?_
 refine ze Gs ?_
 exact cr
theorem Kb(k:KeyP):aG 509 [wQ [k],I 0,I 1,.x (.func (.func 382) #[] #[])] (.r (.tu [])):=by
 refine aT Tryz.func509 rfl ?_
 refine zd (m:=1) rfl (by decide) ?_
 refine zE 1 (zC mixed Tab_ok ?_)
 refine cX ?_
 exact⟨_,rfl,cr⟩
theorem EM(k:KeyP):aG 460 [wQ [k],I 0,I 1,I 1,.x (.func (.func 382) #[] #[])] (.r (.tu [])):=by
 refine aT Tryz.func460 rfl ?_
 refine zE 1 (zC mixed Tab_ok ?_)
 refine zd (m:=1) rfl (by decide) ?_
 refine cY ?_
 refine ze (Kb k) ?_
 exact⟨_,rfl,cr⟩
theorem Kw(k:KeyP):aG 381 [wQ [k],.x (.func (.func 382) #[] #[])] (.r (.tu [])):=by
 refine aT Tryz.func381 rfl ?_
 refine zF (n:=1) rfl (by decide) ?_
 refine ze Bv ?_
 refine ze (EM k) ?_
 exact⟨_,rfl,cr⟩
theorem QM(k:KeyP):aG 281 [wQ [k]] (.r (wQ [k])):=by
 refine aT Tryz.func281 rfl ?_
 refine ze (Kw k) ?_
 exact cr
set_option maxRecDepth 20000 in
theorem Pb(lf ol:Leaf)(hlf:lf.fit)(hol:ol.fit):aG 282 [.ag (vg lf).c,ja [],PH [],.ag ol.c] (.r (.ag (vg ol).c)):=by
 refine aT Tryz.func282 rfl ?_
 refine zy (λi:Bool=>{F:=[(1,.r (ja [])),(2,.r (PH [])),(4,.own 0),(7,.own 1),(8,.own 2),(9,.own 3),(22,.r (ZU (vg lf).opn)),(23,.r (I 1)),(24,.r (cond i (I 1) (I 0)))],O:=AL (vg lf) ol (cond i [⟨0,L1 ol⟩] []) [],nx:=6})
  (λ_=>True) (λi=>cond i 0 1) false trivial
  ((w8 true 3 2 241 11 (cells:=[.r (I 1),.r (I 0),.r (.x (.slice none 0 0)),.r (.x (.slice none 0 0))]) rfl rfl).trans ((w8 true 3 3 432 2 (cells:=[.r (I 1),.r (I 0),.own 4,.r (.x (.slice none 0 0))]) rfl rfl).trans (zN [(0,0),(1,1),(2,2),(3,3),(4,4),(5,5)] ⟨(aC aZ),(aC (aB aZ)),yh zero4,ud (xK _) (ud (xK _) (ud rfl (ud rfl rfl))),⟨rfl,rfl,rfl,rfl,zn _⟩,⟨rfl,rfl,rfl,rfl,zn _⟩,trivial⟩))) ?_
 rintro(_ |_) _
 ·refine cY ?_
  refine zm qN qO rfl ?_
  refine cU ?_
  refine cU ?_
  refine ze (sL (L1 lf) (tE hlf) (ww _ hlf)) ?_
  refine zJ (xO (t:=11) (Spot.c ⟨0,L1 lf⟩) rfl rfl) (Vstep.mkfun Va (λ_=>True) (λr=>decide (r.at_=0)) rfl rfl (λr _=>QC r ⟨0,L1 lf⟩) ?_)
  refine ze (OQ [] (λr=>decide (r.at_=0)) (by decide)) ?_
  refine zg rfl ?_
  refine zd (m:=0) rfl (by show(-9223372036854775808:Int)<=0/\(0:Int)<=9223372036854775807;decide) ?_
  refine cY ?_
  refine cU ?_
  refine zB (sL ⟨1,ol,zpr⟩ ⟨hol,eA⟩ (ww _ hol)) (zk (Cv.ag (zk (cr) (zk (cr) (zk (cr) (zk (cr) (zk (cr) (zk (cr) (zk (cr) (zk (z8 1) (zk (z8 1) (zk (z8 1) zA))))))))))) zA) ?_
  refine zg rfl ?_
  refine cU ?_
  refine zw ?_
  refine z7 (j:=1) (zs:=Spot.c ⟨0,L1 ol⟩) (by show 0+1<=maxLen;decide) (by show(0+1)*216<=140737488355328;decide) rfl (by simp[uu,cellsOf]) ?_
  refine zd (m:=1) rfl (by decide) ?_
  exact⟨true,trivial,by decide,zX [(0,0),(1,1),(2,2),(3,3),(4,_),(5,5)] rfl ⟨cr,cr,rfl,rfl,rfl,rfl,cr,cr,cr,trivial⟩ ⟨(aC aZ),(aC (aB aZ)),yh zero4,ud (xK _) (ud (xK _) (ud rfl (ud rfl rfl))),⟨rfl,rfl,rfl,rfl,zn _⟩,⟨rfl,rfl,rfl,rfl,zn _⟩,trivial⟩⟩
 ·refine cX ?_
  refine zE 1 (zC mixed Tab_ok ?_)
  refine cX ?_
  refine cU ?_
  refine cU ?_
  exact cr
set_option maxRecDepth 20000 in
theorem Bw(lf ol:Leaf)(seed sig group com ls pl ql:cT)(hlf:lf.fit)(hlr:lf.right=true)(hol:ol.fit)(hseed:seed.length=32)(hsig:sig.length=32)
  (c1:aG 277 [bs seed,I 0] (.r (tk [com])))
  (c5:aG 45 [bs seed,vd ⟨#[108,101,97,102]⟩] (.r (bs ls)))
  (c6:aG 49 [bs ls] (.r (.tu [bs pl,bs ql])))
  (c7:aG 51 [.ag (ta lf ql []).c,bs sig,bs group,I 0] (.r (.tu [.ag ol.c,Er 0]))):
  aG 183 [.ag (vg lf).c,bs seed,bs sig,bs group] (.r (.tu [.ag (MadeP.c ⟨vg ol,ol,[],[⟨0,pl⟩],[],com⟩),Er 0])):=by
 have c8:=Pb lf ol hlf hol
 refine aT Tryz.func183 rfl ?_
 refine cU ?_
 refine ze (XM lf hlf hlr) ?_
 refine cX ?_
 refine zu (by simp only[zb];omega) ?_
 refine cX ?_ (by simp only[zb];omega)
 refine cU ?_
 refine ze (V7 (sD (L1 lf)) rfl rfl) ?_
 refine ze c1 ?_
 refine aV ?_
 refine⟨by decide,by decide,by show(0:Int)<=1;decide,0,[],rfl,rfl,?_⟩
 refine zm qN qO rfl (zg rfl ?_)
 refine zE 1 (zC mixed Tab_ok ?_)
 refine cX ?_
 refine ze LS ?_
 refine cU ?_
 refine zd (m:=0) rfl (by show(-9223372036854775808:Int)<=0/\(0:Int)<=9223372036854775807;decide) ?_
 refine ze (Kv lf hlf hlr) ?_
 refine cU ?_
 refine ze c5 ?_
 refine ze c6 ?_
 refine cU ?_
 refine zB c7 (zk (cr) (zn _)) ?_
 refine cX ?_
 refine zd (m:=0) rfl (by show(-9223372036854775808:Int)<=0/\(0:Int)<=9223372036854775807;decide) ?_
 refine zw ?_
 refine z7 (j:=1) (zs:=KeyP.c ⟨0,pl⟩) (by decide) (by decide) rfl rfl ?_
 refine ze (QM ⟨0,pl⟩) ?_
 refine cU ?_
 refine cU ?_
 refine ze c8 ?_
 refine cU ?_
 refine zB (sL ⟨1,ol,zpr⟩ ⟨hol,eA⟩ (ww _ hol)) (zk (Cv.ag (zk (cr) (zk (cr) (zk (cr) (zk (cr) (zk (cr) (zk (cr) (zk (cr) (zk (z8 1) (zk (z8 1) (zk (z8 1) zA))))))))))) zA) ?_
 refine Vsem.fieldN Tab_ok rfl rfl rfl rfl rfl rfl rfl (cE rfl) rfl ?_
 refine cU ?_
 refine cU ?_
 exact⟨_,rfl,Cv.tu (zk (Cv.ag (by repeat' (first|exact zA|exact zn _|refine zk ?_ ?_|exact cr|exact z8 _))) (zn _))⟩
theorem Gu(lf:Leaf)(seed sig group:cT)(hlr:lf.right=true)(hseed:seed.length=32)(hsig:sig.length=32)(hg:group.length<=1000):
  ∃(ol:Leaf) (com pl:cT),ol.right=true/\ol.src=3/\ol.parent.length=0/\ol.sign=lf.sign/\com.length=32/\pl.length=32/\
   aG 183 [.ag (vg lf).c,bs seed,bs sig,bs group] (.r (.tu [.ag (MadeP.c ⟨vg ol,ol,[],[⟨0,pl⟩],[],com⟩),Er 0])):=by
 have hlf:=ug hlr
 obtain⟨h1,h2,h3,h5,h6⟩:=oO hlr
 have h30:0<lf.ident.length:=by
  have h:=hlr
  simp only[Leaf.right,decide_eq_true_eq]at h
  omega
 have hf:(L1 lf).fit:=tE hlf
 have hr:(L1 lf).right=true:=dc hlr
 have c1:=NI seed 0 (by rw[hseed];decide) ⟨by omega,by omega⟩
 have c5:=un seed ⟨#[108,101,97,102]⟩ (by rw[hseed];decide) (by decide)
 have el:(xU seed (sB ⟨#[108,101,97,102]⟩) [] 32).length=32:=x7 _ _ _ (by omega)
 generalize xU seed (sB ⟨#[108,101,97,102]⟩) [] 32=ls at c5 el
 have c6:=YF ls (by omega)
 have eq:(oI (nA ls)).length=32:=jz _
 generalize oI (nA ls)=ql at c6 eq
 have ep:=lj ls
 generalize nA ls=pl at c6 ep
 have e1: ∀sd:cT,vz sd ((0:Int).toNat+1)=[sG sd 0]:=λ_=>rfl
 rw[e1]at c1
 have ec:(sG seed 0).length=32:=by exact Tt _ 0
 generalize sG seed 0=com at c1 ec
 have hml:(ta lf ql []).fit:=⟨by show ql.length<=_;omega,by show lf.sign.length<=_;omega,by show lf.ident.length<=_;omega,by show 0<=_;omega,by show lf.sig.length<=_;omega⟩
 have hz:zS64.length=64:=by decide
 have c7:=Z5 (ta lf ql []) sig group 0 hml (by omega) (by show ql.length+lf.sign.length+lf.ident.length+0<=_;omega) (by unfold i64;omega)
 have hwr:((ta lf ql []).with zS64).right=true:=by
  unfold Leaf.right
  refine bE ⟨eq,h2,?_,?_,by show 0< (3:UInt8).toNat;decide,by show(3:UInt8).toNat<4;decide,.inl rfl,hz⟩
  ·show 0<lf.ident.length;omega
  ·show lf.ident.length<=64;omega
 have he:sh (ta lf ql []) sig 0=0:=by
  unfold sh
  rw[cO hwr,cO (by unfold r9;simp),cO hsig]
 have hsr:nF (ta lf ql []) sig group 0= .tu [.ag (tW (ta lf ql []) sig group 0).c,Er 0]:=by unfold nF;rw[cO he]
 rw[hsr]at c7
 have hol:(tW (ta lf ql []) sig group 0).fit:=⟨by show ql.length<=_;omega,by show lf.sign.length<=_;omega,by show lf.ident.length<=_;omega,by show 0<=_;omega,by show(oo _ _ _).length<=_;rw[xg];omega⟩
 have hor:(tW (ta lf ql []) sig group 0).right=true:=by
  unfold Leaf.right
  refine bE ⟨eq,h2,?_,?_,by show 0< (3:UInt8).toNat;decide,by show(3:UInt8).toNat<4;decide,.inl rfl,xg _ _ _⟩
  ·show 0<lf.ident.length;omega
  ·show lf.ident.length<=64;omega
 have hos:(tW (ta lf ql []) sig group 0).src=3/\(tW (ta lf ql []) sig group 0).parent.length=0/\(tW (ta lf ql []) sig group 0).sign=lf.sign:=⟨rfl,rfl,rfl⟩
 generalize tW (ta lf ql []) sig group 0=ol at c7 hol hor hos
 refine⟨ol,com,pl,hor,hos.1,hos.2.1,hos.2.2,ec,ep,?_⟩
 exact Bw lf ol seed sig group com ls pl ql hlf hlr hol hseed hsig c1 c5 c6 c7
theorem G9(ol:Leaf)(ky:List KeyP)(com seed ctx:cT)(hor:ol.right=true):
  aG 185 [.ag (MadeP.c ⟨vg ol,ol,[],ky,[],com⟩),nl,bs seed,bs ctx] (.r (.tu [.ag (J4 ol),Er 0])):=by
 have hof:=ug hor
 have c1:=XM ol hof hor
 have c2:=V7 (vg ol) rfl rfl
 have c3:=sL ⟨0,ol,zpr⟩ ⟨hof,eA⟩ (ww _ hof)
 refine aT Tryz.func185 rfl ?_
 refine cU ?_
 refine ze c1 ?_
 refine cX ?_
 refine cU ?_
 refine ze c2 ?_
 refine zu rfl ?_
 refine zu rfl ?_
 refine zq ?_
 refine cU ?_
 refine zB c3 (zk (Cv.ag (by repeat' (first|exact zA|exact zn _|refine zk ?_ ?_|exact cr|exact z8 _|exact nY _|refine Cv.ag ?_))) zA) ?_
 refine Vsem.fieldN Tab_ok rfl rfl rfl rfl rfl rfl rfl (cE rfl) rfl ?_
 refine zE 1 (zC mixed Tab_ok ?_)
 refine cX ?_
 refine cU ?_
 refine cU ?_
 exact⟨_,rfl,cr⟩
theorem Gq(v:ViewP)(o:Leaf)(sg:cT):aG 106 [.ag (iK v o sg),nl] (.r nl):=by
 refine aT Tryz.func106 rfl ?_
 refine zE 1 (zC mixed Tab_ok ?_)
 refine cX ?_
 refine zE 1 (zC mixed Tab_ok ?_)
 refine cX ?_
 exact cr
abbrev An(own:Int):List RV:=[nl,.i .u64 0,I own,U8 3,U8 0,nl,nl,nl,nl,U8 0,nl,nl,nl,nl,nl,nl,U8 0,nl,nl,I 0,nl,.b false,nl,nl,nl,U8 0,nl,nl,nl,nl,nl,nl]
theorem N6(own:Int):aG 30 [nl,.ag (An own)] (.r (.tu [nl,Er 0])):=by
 refine aT Tryz.func30 rfl ?_
 refine zE 1 (zC mixed Tab_ok ?_)
 refine cX ?_
 exact⟨_,rfl,cr⟩
def J3(x:CtxP)(ol:Leaf):CtxP:=⟨x.group,x.epoch+1,hash1 ol,x.trans⟩
theorem Kz(v:ViewP)(hx:v.ctx.fit)(he:v.ctx.epoch+1<18446744073709551616)(ol:Leaf)(hr:ol.right=true):
  aG 186 [.ag v.c,yS [L1 ol]] (.r (bs (yV (J3 v.ctx ol)))):=by
 have c1:=YO ol (ug hr) hr
 have hl:=mU ol
 have c2:=mm (J3 v.ctx ol) ⟨hx.group,he,by show(hash1 ol).length<=_;omega,hx.trans⟩
 refine aT Tryz.func186 rfl ?_
 refine cU ?_
 refine zF (n:=v.ctx.epoch+1) (by omega) he ?_
 refine ze c1 ?_
 refine cU ?_
 refine ze c2 ?_
 exact cr
theorem Sg(lf:Leaf)(hlf:lf.fit)(hlr:lf.right=true):aG 184 [yS [L1 lf],I 0] (.r nl):=by
 have e1:fV 0 1=[]:=by decide
 have e2:fG 0 1=[]:=by decide
 have cp:=V5 0 1
 have cc:=V1 0 1
 rw[e1]at cp
 rw[e2]at cc
 refine aT Tryz.func184 rfl ?_
 refine ze (mR lf) ?_
 refine ze (mo lf hlf hlr) ?_
 refine zu rfl ?_
 refine zu rfl ?_
 refine cX ?_
 refine zd (m:=0) rfl (by decide) ?_
 refine ze cc ?_
 refine zd (m:=0) rfl (by decide) ?_
 refine ze cp ?_
 refine zE 1 (zC mixed Tab_ok ?_)
 refine cX ?_
 exact cr
abbrev P9(l:List RV)(n:Nat):Ow:= .ch 40 10 n l false
theorem LV(lf:Leaf)(hlf:lf.fit):aG 145 [yS [L1 lf]] (.own 40 10 1 (L1 lf).c):=by
 refine aT Tryz.func145 rfl ?_
 refine zy (λi:Bool=>cond i ⟨[(3,.own 0),(6,.r (yS [L1 lf])),(7,.r (I 1)),(8,.r (I 1))],[(0,some (P9 (L1 lf).c 1))],1⟩ ⟨[(3,.own 0),(6,.r (yS [L1 lf])),(7,.r (I 1)),(8,.r (I 0))],[(0,some (P9 [] 0))],1⟩) (λ_=>True) (λi=>cond i 0 1) false trivial
  ((nH 3 40 10 rfl).trans (zN [(0,0)] ⟨⟨rfl,rfl,rfl,rfl,zn _⟩,trivial⟩)) ?_
 rintro(_ |_) _
 ·refine cY ?_
  refine zm qN qO (oY lf) ?_
  refine cU ?_
  refine cU ?_
  refine ze (sL (L1 lf) (tE hlf) (ww _ hlf)) ?_
  refine zw ?_
  refine z7 (j:=1) (zs:=(L1 lf).c) (by decide) (by decide) rfl rfl ?_
  refine zd (m:=1) rfl (by decide) ?_
  exact⟨true,trivial,by decide,zN [(0,3)] ⟨⟨rfl,rfl,rfl,rfl,zn _⟩,trivial⟩⟩
 ·refine cX ?_
  exact rfl
abbrev Hw(ol:Leaf)(com pl:cT):List RV:=[bs ol.box,bs ol.sign,bs ol.ident,U8 ol.src,bs ol.parent,bs ol.sig,nl,yS [L1 ol],bs com,wQ [⟨0,pl⟩],nl]
abbrev v0(x:CtxP)(it tg:cT)(sc:SecP)(ky:KeyP):ViewP:=⟨x,0,it,tg,sc,ky⟩
abbrev Vm:ByteArray:=⟨#[98,111,120,101,115]⟩
abbrev Be:List TF:=[.r nl,.r nl,.r nl,.r (U8 0),.r nl,.r nl,.r nl,.r nl,.r nl,.r nl,.r nl]
abbrev CN(com pl:cT):List TF:=[.r nl,.r nl,.r nl,.r (U8 0),.r nl,.r nl,.r nl,.own 6,.r (bs com),.r (wQ [⟨0,pl⟩]),.r nl]
set_option maxRecDepth 20000 in
theorem Km(x:CtxP)(it tg:cT)(sc:SecP)(ky:KeyP)(o ol:Leaf)(sg seed com pl s1 s2 cx:cT)(ho:o.right=true)(hol:ol.right=true)
  (c1:aG 182 [yS [L1 o],I 0] (.r (.tu [.ag (vg o).c,Er 0])))
  (c2:aG 45 [bs seed,vd ⟨#[112,97,116,104]⟩] (.r (bs s1)))
  (c3:aG 183 [.ag (vg o).c,bs s1,bs sg,bs x.group] (.r (.tu [.ag (MadeP.c ⟨vg ol,ol,[],[⟨0,pl⟩],[],com⟩),Er 0])))
  (c4:aG 45 [bs seed,vd Vm] (.r (bs s2)))
  (c5:aG 186 [.ag (v0 x it tg sc ky).c,yS [L1 ol]] (.r (bs cx)))
  (c6:aG 185 [.ag (MadeP.c ⟨vg ol,ol,[],[⟨0,pl⟩],[],com⟩),nl,bs s2,bs cx] (.r (.tu [.ag (J4 ol),Er 0]))):
  aG 108 [.ag (iK (v0 x it tg sc ky) o sg),.ag [yS [L1 o],nl,nl,.b true],.b true,bs seed] (.r (.tu [.ag (Hw ol com pl),Er 0])):=by
 have c7:=LV o (ug ho)
 have c8:=Sg o (ug ho) ho
 refine yT (T:=Tab) mixed Tab_ok Tryz.func108 rfl (by kernel_rfl) ?_
 refine cU ?_
 refine cX ?_
 refine ze c1 ?_
 refine Vdraw.mk' rfl ?_
 refine cU ?_
 refine ze c2 ?_
 refine ze c3 ?_
 refine cX ?_
 refine Vdraw.code (Vcode.bar2 mixed Tab_ok 7 [0,1,2,3,4,5,6,8,7,9] [0,1,2,3,4,5,6,8,7,9] [0] [0,1]
  ⟨[(3,.r (bs seed)),(4,.own 0),(5,.own 1),(8,.own 2),(10,.own 3),(13,.own 5),(14,.r (Er 0)),(15,.own 7)],[(0,some (.box ((iK (v0 x it tg sc ky) o sg).map .r))),(1,some (.box [.r (yS [L1 o]),.r nl,.r nl,.r (.b true)])),(2,some (.box Be)),(3,some (.box ((v0 x it tg sc ky).c.map .r))),(5,some (.box ((MadeP.c ⟨vg ol,ol,[],[⟨0,pl⟩],[],com⟩).map .r))),(6,some (P9 (L1 o).c 1)),(7,some (.box (CN com pl)))],8⟩ (by kernel_rfl) ?_ ?_)
 ·refine ze c7 ?_
  refine⟨?_,?_⟩
  ·refine Vstep.nmS 6 1000006 rfl (by decide) λb c=>zJ (je (id:=6) (t:=61) (tn:=1000006) rfl rfl) (Vstep.val Tab_ok ?_)
   refine Sub.trans (lD (id:=7) (j:=6) (tn:=1000006) (i:=7) rfl rfl rfl) (zM [(0,0),(1,1),(2,2),(3,3),(5,5),(6,6),(7,7)])
  ·refine Vstep.nmS 6 1000006 rfl (by decide) λb c=>zJ (je (id:=6) (t:=61) (tn:=1000006) rfl rfl) (Vstep.val Tab_ok ?_)
   refine Sub.trans (lD (id:=8) (j:=6) (tn:=1000006) (i:=7) rfl rfl rfl) (zM [(0,0),(1,1),(2,2),(3,3),(5,5),(6,6),(7,8)])
 refine zy (λi:Bool=>⟨[(3,.r (bs seed)),(4,.own 0),(5,.own 1),(8,.own 2),(10,.own 3),(13,.own 5),(14,.r (Er 0)),(15,.own 7),(69,.r (ZU (vg ol).opn)),(70,.r (I 1)),(71,.r (cond i (I 1) (I 0)))],[(0,some (.box ((iK (v0 x it tg sc ky) o sg).map .r))),(1,some (.box [.r (yS [L1 o]),.r nl,.r nl,.r (.b true)])),(2,some (.box Be)),(3,some (.box ((v0 x it tg sc ky).c.map .r))),(5,some (.box ((MadeP.c ⟨vg ol,ol,[],[⟨0,pl⟩],[],com⟩).map .r))),(6,some (P9 (cond i (L1 ol).c (L1 o).c) 1)),(7,some (.box (CN com pl)))],8⟩) (λ_=>True) (λi=>cond i 0 1) false trivial
  (zM [(0,0),(1,1),(2,2),(3,3),(5,5),(6,6),(7,7)]) ?_
 rintro(_ |_) _
 ·refine cY ?_
  refine zm qN qO rfl ?_
  refine cU ?_
  refine cU ?_
  refine zD 0 rfl (by decide) ?_
  refine⟨(by show 0*10+10<=10;decide),(L1 ol).c,rfl,?_⟩
  refine zd (m:=1) rfl (by decide) ?_
  exact⟨true,trivial,by decide,zM [(0,0),(1,1),(2,2),(3,3),(5,5),(6,6),(7,7)]⟩
 ·refine cX ?_
  refine ze c8 ?_
  refine zy (λ_:Unit=>⟨[(3,.r (bs seed)),(4,.own 0),(5,.own 1),(8,.own 2),(10,.own 3),(13,.own 5),(14,.r (Er 0)),(15,.own 7),(88,.r (I 0)),(89,.r (I 0))],[(0,some (.box ((iK (v0 x it tg sc ky) o sg).map .r))),(1,some (.box [.r (yS [L1 o]),.r nl,.r nl,.r (.b true)])),(2,some (.box Be)),(3,some (.box ((v0 x it tg sc ky).c.map .r))),(5,some (.box ((MadeP.c ⟨vg ol,ol,[],[⟨0,pl⟩],[],com⟩).map .r))),(6,some (.ch 40 10 1 (L1 ol).c true)),(7,some (.box (CN com pl)))],8⟩) (λ_=>True) (λ_=>0) () trivial
   (Sub.trans (xE (id:=6) rfl) (zM [(0,0),(1,1),(2,2),(3,3),(5,5),(6,6),(7,7)])) ?_
  rintro _ _
  refine cX ?_
  refine Vdraw.mk' rfl ?_
  refine cU ?_
  refine ze c4 ?_
  refine cU ?_
  refine ze c5 ?_
  refine ze c6 ?_
  refine cU ?_
  exact⟨_,zo _,za rfl rfl ⟨_,rfl,cr⟩⟩
end Go.Proofs.YtkegaaonpekkgaaGreat.Sx
