import Derived.Test.YtkegaaonpekkgaaGreatZJa
import Derived.Test.YtkegaaonpekkgaaGreatZGh
namespace Go.Proofs.YtkegaaonpekkgaaGreat.Sx
open Go.RowKit
set_option maxHeartbeats 8000000 in
theorem zy2(leaves own:Int)(hl:i64 leaves)(ho:i64 own)(O:List Spot)(H:List Stub)(only:Bool)(hOn:O.length<=1000000)(hHn:H.length<=1000000)(hOf: ∀s∈O,s.node.fit)(hOi: ∀s∈O,i64 s.at_)(hHi: ∀s∈H,i64 s.at_)(hHl: ∀s∈H,s.hash.length<=1000000000)(hso: ∀(d:Nat) (r:V3) (p0:Value),leaves=((2^d:Nat):Int)->r=visV O own only d 0 0 []->Acts aP 372 1 [(0,pbox leaves own O H)] [.r (I leaves), .r (I own), .r (.b only), .r (.x (.func (.func 508) #[] #[p0]))] [(0,p0)] 11 [(0,pbox leaves own O H)] (.r (.tu [is r.1,is r.2.1, .b r.2.2]))):
  aG 457 [zxi leaves own O H, .b only] (.r (.b (zdm leaves own O H only))):=by
 refine aT Tryz.func457 rfl ?_
 refine Vcall.bool (zqa leaves) (λhf=>zu rfl ?_) (λhf=>zt rfl (zp ?_))
 rotate_left
 ·exact zf (by simp[zdm,hf,ofC])
 have hn:=zjr hf
 refine zh (λh0=>zp ?_) (λh0=>?_)
 ·simp only[zb]at h0
  refine zf (congrArg RV.b (Eq.symm ?_))
  have: ¬0<=own:=by omega
  simp[zdm,this]
 simp only[zb]at h0
 have h0':0<=own:=by omega
 refine zh (λh1=>zp ?_) (λh1=>?_)
 ·simp only[zb]at h1
  refine zf (congrArg RV.b (Eq.symm ?_))
  have: ¬own<leaves:=by omega
  simp[zdm,this]
 simp only[zb]at h1
 have h1':own<leaves:=by omega
 refine zd rfl (by omega) ?_
 refine Vstep.node1 rfl rfl rfl (λm hm=>?_) (λhm=>?_)
 rotate_left
 ·refine Vsem.field Tab_ok rfl rfl rfl rfl rfl rfl rfl rfl ?_
  refine zt rfl (zp ?_)
  exact zf (by simp[zdm,zia,hm,ofC])
 refine Vsem.field Tab_ok rfl rfl rfl rfl rfl rfl rfl rfl ?_
 refine zh (λhk=>zp ?_) (λhk=>zq ?_)
 ·simp only[zb]at hk
  refine zf (congrArg RV.b (Eq.symm ?_))
  have: ¬m.kind.toNat=1:=by omega
  simp[zdm,zia,hm,this]
 simp only[zb]at hk
 have hleaf:zia O (2*own)=true:=by simp only[zia,hm,decide_eq_true_eq];omega
 refine Vstep.range rfl rfl zki ?_
 refine Vloop.mkx (λdn:List Nat=>⟨[(1, .r (.b only)),(2, .own 0),(40, .own 1)],[(0,some (pbox leaves own O H)),(1,some (.gen (itO (zbt O) dn none)))],2⟩) (λdn=>dn.Nodup/\∀j∈dn,∃s,O[j]?=some s/\zen s.at_ s.node=true) (λdn=>O.length-dn.length) [] ⟨List.nodup_nil,by simp⟩ (zad [(0,0),(1,1)] rfl ⟨cr,rfl,rfl,trivial⟩ ⟨(aC aZ),λ_ _ _ hh=>hh,trivial⟩) ?_
 rintro dn ⟨hnd,hdn⟩
 refine Vstep.next rfl rfl rfl (λhall=>?_) (λj x hj hjn=>?_)
 rotate_left
 ·have hjO: ∃s,O[j]?=some s/\x=(s.at_, .ag s.node.c):=by
   simp only[zbt,List.getElem?_map,Option.map_eq_some_iff]at hj
   obtain⟨s,hs,rfl⟩:=hj
   exact⟨s,hs,rfl⟩
  obtain⟨s,hs,rfl⟩:=hjO
  have hsm:=List.mem_of_getElem? hs
  refine zp ?_
  refine Vstep.entry rfl rfl rfl hj ?_
  refine za rfl rfl ?_
  refine Vcall.bool (z9a s.at_ s.node (hOf s hsm)) (λhp=>zu rfl (zq ?_)) (λhp=>zt rfl (zp ?_))
  ·have hlen:(dn++[j]).length<=O.length:=zi3 _ (by
    rw[List.nodup_append]
    exact⟨hnd,by simp,λy hy z hz e=>hjn (by rw[List.mem_singleton.1 hz]at e;exact e▸hy)⟩) λy hy=>by
     rcases List.mem_append.1 hy with hy |hy
     ·obtain⟨s',h',_⟩:=hdn y hy
      exact(List.getElem?_eq_some_iff.1 h').1
     ·rw[List.mem_singleton.1 hy];exact(List.getElem?_eq_some_iff.1 hs).1
   rw[aL]at hlen
   refine⟨dn++[j],⟨?_,λy hy=>?_⟩,by simp only[aL,List.length_cons,List.length_nil]at*;omega,zad [(0,0),(1,1)] rfl ⟨cr,rfl,rfl,trivial⟩ ⟨(aC aZ),zqn,trivial⟩⟩
   ·rw[List.nodup_append]
    exact⟨hnd,by simp,λy hy z hz e=>hjn (by rw[List.mem_singleton.1 hz]at e;exact e▸hy)⟩
   ·rcases List.mem_append.1 hy with hy |hy
    ·exact hdn y hy
    ·rw[List.mem_singleton.1 hy];exact⟨s,hs,hp⟩
  ·refine⟨_,zo _,zf (congrArg RV.b (Eq.symm ?_))⟩
   have:O.all (λs=>zen s.at_ s.node)=false:=zsf hsm hp
   simp[zdm,this]
 ·have hallO:O.all (λs=>zen s.at_ s.node)=true:=zzw λj hjl x hx=>by
   obtain⟨s,hs,hp⟩:=hdn j (hall j (by simpa[zbt]using hjl))
   rw[hx]at hs
   cases hs
   exact hp
  refine zq ?_
  refine⟨_,zo _,?_⟩
  refine Vstep.range rfl rfl zpo ?_
  refine Vloop.mkx (λdn:List Nat=>⟨[(1, .r (.b only)),(2, .own 0),(52, .own 1)],[(0,some (pbox leaves own O H)),(1,some (.gen (itO (zby H) dn none)))],2⟩) (λdn=>dn.Nodup/\∀j∈dn,∃s,H[j]?=some s/\s.hash.length=32) (λdn=>H.length-dn.length) [] ⟨List.nodup_nil,by simp⟩ (zad [(0,0),(1,2)] rfl ⟨cr,rfl,rfl,trivial⟩ ⟨(aC aZ),λ_ _ _ hh=>hh,trivial⟩) ?_
  clear hnd hdn hall
  rintro dn ⟨hnd,hdn⟩
  refine Vstep.next rfl rfl rfl (λhall=>?_) (λj x hj hjn=>?_)
  rotate_left
  ·have hjH: ∃s,H[j]?=some s/\x=(s.at_,bs s.hash):=by
    simp only[zby,List.getElem?_map,Option.map_eq_some_iff]at hj
    obtain⟨s,hs,rfl⟩:=hj
    exact⟨s,hs,rfl⟩
   obtain⟨s,hs,rfl⟩:=hjH
   have hsm:=List.mem_of_getElem? hs
   have hsl:=hHl s hsm
   refine zp ?_
   refine Vstep.entry rfl rfl rfl hj ?_
   refine zh (λh3=>zp ?_) (λh3=>zq ?_)
   ·simp only[zb]at h3
    refine⟨_,zo _,zf (congrArg RV.b (Eq.symm ?_))⟩
    have:H.all (λs=>decide (s.hash.length=32))=false:=zsf hsm (by simp;omega)
    simp[zdm,this]
   ·simp only[zb]at h3
    have hlen:(dn++[j]).length<=H.length:=zi3 _ (by
     rw[List.nodup_append]
     exact⟨hnd,by simp,λy hy z hz e=>hjn (by rw[List.mem_singleton.1 hz]at e;exact e▸hy)⟩) λy hy=>by
      rcases List.mem_append.1 hy with hy |hy
      ·obtain⟨s',h',_⟩:=hdn y hy
       exact(List.getElem?_eq_some_iff.1 h').1
      ·rw[List.mem_singleton.1 hy];exact(List.getElem?_eq_some_iff.1 hs).1
    rw[aL]at hlen
    refine⟨dn++[j],⟨?_,λy hy=>?_⟩,by simp only[aL,List.length_cons,List.length_nil]at*;omega,zad [(0,0),(1,1)] rfl ⟨cr,rfl,rfl,trivial⟩ ⟨(aC aZ),zqn,trivial⟩⟩
    ·rw[List.nodup_append]
     exact⟨hnd,by simp,λy hy z hz e=>hjn (by rw[List.mem_singleton.1 hz]at e;exact e▸hy)⟩
    ·rcases List.mem_append.1 hy with hy |hy
     ·exact hdn y hy
     ·rw[List.mem_singleton.1 hy];exact⟨s,hs,by omega⟩
  ·have hallH:H.all (λs=>decide (s.hash.length=32))=true:=zzw λj hjl x hx=>by
    obtain⟨s,hs,hp⟩:=hdn j (hall j (by simpa[zby]using hjl))
    rw[hx]at hs
    cases hs
    simpa using hp
   refine zq ?_
   refine⟨_,zo _,?_⟩
   obtain⟨d,hd,hd2⟩:=zh0 hf
   have hdl:leaves.toNat.log2=d:=by rw[hd2,Int.toNat_natCast,Nat.log2_two_pow]
   obtain⟨r,hr⟩: ∃r,r=visV O own only d 0 0 []:=⟨_,rfl⟩
   have hrl:=zyj O own only d 0 0 []
   rw[<-hr]at hrl
   have hp17:2^(d+1)<=131072:=Nat.pow_le_pow_right (n:=2) (by omega) (show d+1<=17 by omega)
   have hfin:zdm leaves own O H only=(r.2.2&&(decide (r.1=zbl (O.map (·.at_)))&&decide (r.2.1=zbl (H.map (·.at_))))):=by
    simp[zdm,hf,h0',h1',hleaf,hallO,hallH,hdl,<-hr]
   rw[hfin]
   have hop:=λp0=>hso d r p0 hd2 hr
   obtain⟨A,B,okv⟩:=r
   simp only at hop hrl⊢
   refine Vstep.nm 0 1000000 rfl λp0=>Vstep.mkfunX [p0] rfl ⟨_,_,rfl,⟨0,1000000,rfl,rfl⟩,rfl⟩ ?_
   refine zj [(0,0)] [0] (λvs hv=>zgx (by simp only[List.map];rw[hv 0 0 1000000 _ rfl rfl]) (hop p0)) (zi rfl ⟨_,_,rfl,cr,_,_,rfl,cr,_,_,rfl,cr,_,_,rfl,cr,rfl⟩) rfl ⟨(aC aZ),trivial⟩ ⟨zac,trivial⟩ ?_
   have hsn:(zbl (O.map (·.at_))).length<=1000000:=by unfold zbl;rw[List.length_mergeSort,List.length_map];exact hOn
   have hsh:(zbl (H.map (·.at_))).length<=1000000:=by unfold zbl;rw[List.length_mergeSort,List.length_map];exact hHn
   have kN:=zsv (zbt O) (by simpa[zbt]using hOn) (λx hx=>by
    simp only[zbt,List.mem_map]at hx
    obtain⟨s,hs,rfl⟩:=hx
    exact hOi s hs)
   have kH:=zsu (zby H) (by simpa[zby]using hHn) (λx hx=>by
    simp only[zby,List.mem_map]at hx
    obtain⟨s,hs,rfl⟩:=hx
    exact hHi s hs)
   rw[zlf]at kN
   rw[zk4]at kH
   cases okv with
   |false=>exact zf rfl
   |true=>
    refine ze (z0a (zbt O)) ?_
    refine ze kN ?_
    refine Vcall.bool (zo3 A (zbl (O.map λs:Spot=>s.at_)) (by omega) (by omega)) (λhe=>?_) (λhe=>?_)
    ·refine ze (zz9 (zby H)) ?_
     refine ze kH ?_
     refine ze (zo3 B (zbl (H.map λs:Stub=>s.at_)) (by omega) (by omega)) ?_
     exact zf (congrArg RV.b (by rw[he];simp))
    ·exact zf (congrArg RV.b (by rw[he];simp))
theorem zkeb(pv:Value)(lf:Leaf):Acts aP 508 1 [(0,pbox 1 0 [⟨0,L1 lf⟩] [])] [.r (I 0), .own 0] [(0,pv)] 2 [(0,pbox 1 0 [⟨0,L1 lf⟩] [])] (.r (.tu [.ag (L1 lf).c, .b true])):=by
 have h:=g_at pv 1 0 [⟨0,L1 lf⟩] [] 0
 have e1:zie [⟨0,L1 lf⟩] 0=L1 lf:=by simp[zie,zbi]
 have e2:zkx [⟨0,L1 lf⟩] 0=true:=by simp[zkx,zbi]
 rw[e1,e2]at h
 exact h
structure VE where
 lf:Leaf
 i:Int
 only:Bool
 p0:Value
 p1:Value
 p2:Value
 p3:Value
 p4:Value
 p5:Value
 p6:Value
 p7:Value
 p8:Value
def VE.fat(c:VE):Value:= .func (.func 508) #[] #[c.p0]
def VE.vis(c:VE):Value:= .func (.func 450) #[] #[c.p3,c.p6,c.p8,c.p4]
def VE.chi(c:VE):Value:= .func (.func 448) #[] #[c.p1,c.p7,c.p2,c.p5]
def VE.mem(c:VE)(A B:List Int)(ok:Bool):List (Nat×Ow):=
 [(0,pbox 1 0 [⟨0,L1 c.lf⟩] []),(1, .box [.r (I c.i)]),(2, .box [.r (.b c.only)]),(3, .box [.r (.x c.fat)]),(4, .box [.own 9]),(5, .box [.own 10]),(6, .box [.r (.b ok)]),(7, .box [.r (.x c.vis)]),(8, .box [.r (.x c.chi)]),
 (9, .ch 3 1 A.length (A.map I) false),(10, .ch 3 1 B.length (B.map I) false)]
def VE.nms(c:VE):List (Nat×Value):=[(0,c.p0),(1,c.p1),(2,c.p2),(3,c.p3),(4,c.p4),(5,c.p5),(6,c.p6),(7,c.p7),(8,c.p8)]
theorem VE.same(c:VE)(A B A' B':List Int)(ok ok':Bool):zi2 (c.mem A B ok) (c.mem A' B' ok') c.nms:=
 ⟨⟨_,_,rfl,rfl,zah,zah⟩,⟨_,_,rfl,rfl,zah,zah⟩,⟨_,_,rfl,rfl,zah,zah⟩,⟨_,_,rfl,rfl,zah,zah⟩,⟨_,_,rfl,rfl,zah,zah⟩,⟨_,_,rfl,rfl,zah,zah⟩,⟨_,_,rfl,rfl,zah,zah⟩,⟨_,_,rfl,rfl,zah,zah⟩,⟨_,_,rfl,rfl,zah,zah⟩,trivial⟩
set_option maxHeartbeats 2000000 in
theorem VE.visit(c:VE)(A B:List Int)(ok:Bool)(hlf:c.lf.fit)(hA:A.length<=1000000):
  Acts aP 450 11 (c.mem A B ok) [.r (I 0), .r (I 0), .r (is []), .own 3, .own 6, .own 8, .own 4] c.nms 11 (c.mem (A++[(0:Int)]) B ok) (.r (.tu [])):=by
 refine zag (T:=Tab) mixed Tab_ok Tryz.func450 rfl (by kernel_rfl) rfl (c.same _ _ _ _ _ _) ?_
 refine zj [(0,0)] [0] (λvs _=>zkeb (vs 0) c.lf) (Handed.clo (fs:=[.r (I _)]) (cs:=[.own 0]) rfl rfl ⟨_,_,rfl,cr,rfl⟩ ⟨_,_,rfl,⟨0,1000000,rfl,rfl⟩,rfl⟩) rfl ⟨(aC aZ),trivial⟩ ⟨zac,trivial⟩ ?_
 refine zu rfl (zq ?_)
 refine zu rfl (zq ?_)
 refine⟨by decide,_,rfl,?_⟩
 refine zu rfl (zq ?_)
 refine zw ?_
 refine Vapp.mk' (j:=(A++[(0:Int)]).length) (zs:=(A++[(0:Int)]).map I) (by simp only[maxLen,aL];omega) (by simp;omega) (by rw[aL (bs:=[_])];rfl) (List.map_append (f:=I) (l₁:=A) (l₂:=[(0:Int)])).symm ?_
 refine⟨by decide,_,rfl,?_⟩
 refine zu rfl (zq ?_)
 exact zal (.inr rfl) [(0,0),(1,1),(2,2),(3,3),(4,4),(5,5),(6,6),(7,7),(8,8),(9,15),(10,10)] [] [] rfl ⟨⟨rfl,rfl⟩,⟨rfl,rfl⟩,⟨rfl,rfl⟩,⟨rfl,rfl⟩,⟨rfl,rfl⟩,⟨rfl,rfl⟩,⟨rfl,rfl⟩,⟨rfl,rfl⟩,⟨rfl,rfl⟩,trivial⟩ ⟨(aC aZ),(aA aZ),(aA aZ),(aA aZ),⟨_,_,rfl,rfl,rfl⟩,⟨_,_,rfl,rfl,rfl⟩,(aA aZ),(aA aZ),(aA aZ),⟨rfl,rfl,rfl,rfl,zn _⟩,⟨rfl,rfl,rfl,rfl,zn _⟩,trivial⟩ ⟨⟨1000000,rfl⟩,⟨1000001,rfl⟩,⟨1000002,rfl⟩,⟨1000003,rfl⟩,⟨1000004,rfl⟩,⟨1000005,rfl⟩,⟨1000006,rfl⟩,⟨1000007,rfl⟩,⟨1000008,rfl⟩,trivial⟩ ⟨_,rfl,cr⟩
set_option maxHeartbeats 2000000 in
theorem z9y(lf:Leaf)(hlf:lf.fit)(p0:Value)(i:Int)(only:Bool):
  Acts aP 372 1 [(0,pbox 1 0 [⟨0,L1 lf⟩] [])] [.r (I 1), .r (I i), .r (.b only), .r (.x (.func (.func 508) #[] #[p0]))] [(0,p0)] 11 [(0,pbox 1 0 [⟨0,L1 lf⟩] [])] (.r (.tu [is [0],is [], .b true])):=by
 refine zag (T:=Tab) mixed Tab_ok Tryz.func372 rfl (by kernel_rfl) rfl ⟨⟨_,_,rfl,rfl,zah,zah⟩,trivial⟩ ?_
 refine Vstep.nm 1 1000001 rfl λp1=>Vstep.nm 7 1000007 rfl λp7=>Vstep.nm 2 1000002 rfl λp2=>Vstep.nm 5 1000005 rfl λp5=>Vstep.mkfunX [p1,p7,p2,p5] rfl ⟨_,_,rfl,⟨1,1000001,rfl,rfl⟩,_,_,rfl,⟨7,1000007,rfl,rfl⟩,_,_,rfl,⟨2,1000002,rfl,rfl⟩,_,_,rfl,⟨5,1000005,rfl,rfl⟩,rfl⟩ ?_
 refine Vstep.nm 3 1000003 rfl λp3=>Vstep.nm 6 1000006 rfl λp6=>Vstep.nm 8 1000008 rfl λp8=>Vstep.nm 4 1000004 rfl λp4=>Vstep.mkfunX [p3,p6,p8,p4] rfl ⟨_,_,rfl,⟨3,1000003,rfl,rfl⟩,_,_,rfl,⟨6,1000006,rfl,rfl⟩,_,_,rfl,⟨8,1000008,rfl,rfl⟩,_,_,rfl,⟨4,1000004,rfl,rfl⟩,rfl⟩ ?_
 refine Vdraw.cut 3 (by kernel_rfl) ?_
 refine ze (z5i 1) ?_
 have hvis:=VE.visit ⟨lf,i,only,p0,p1,p2,p3,p4,p5,p6,p7,p8⟩ [] [] true hlf (by decide)
 simp only[List.nil_append]at hvis
 refine Vstep.sub (Sub.trans (zb0 false 4 0 3 1 rfl rfl) (zb0 false 5 0 3 1 rfl rfl)) ?_
 refine zj [(0,0),(1,1),(2,2),(3,3),(4,4),(5,5),(6,6),(7,7),(8,8),(9,9),(10,10)] [0,1,2,3,4,5,6,7,8] (λvs hv=>zgx (by simp only[List.map];rw[hv 0 0 1000000 _ rfl rfl,hv 1 1 1000001 _ rfl rfl,hv 2 2 1000002 _ rfl rfl,hv 3 3 1000003 _ rfl rfl,hv 4 4 1000004 _ rfl rfl,hv 5 5 1000005 _ rfl rfl,hv 6 6 1000006 _ rfl rfl,hv 7 7 1000007 _ rfl rfl,hv 8 8 1000008 _ rfl rfl];rfl) hvis) (Handed.clo (fs:=[.r (I _), .r (I _), .r (is [])]) (cs:=[.own 3, .own 6, .own 8, .own 4]) rfl rfl ⟨_,_,rfl,cr,_,_,rfl,cr,_,_,rfl,Cv.nil 1,rfl⟩ ⟨_,_,rfl,⟨3,1000003,rfl,rfl⟩,_,_,rfl,⟨6,1000006,rfl,rfl⟩,_,_,rfl,⟨8,1000008,rfl,rfl⟩,_,_,rfl,⟨4,1000004,rfl,rfl⟩,rfl⟩) rfl ⟨(aC aZ),(aA aZ),(aA aZ),(aA aZ),⟨_,_,rfl,rfl,rfl⟩,⟨_,_,rfl,rfl,rfl⟩,(aA aZ),(aA aZ),(aA aZ),⟨rfl,rfl,rfl,rfl,zn _⟩,⟨rfl,rfl,rfl,rfl,zn _⟩,trivial⟩ ⟨zac,zac,zac,zac,zac,zac,zac,zac,zac,zkl,zkl,trivial⟩ ?_
 refine Vdraw.code (Vcode.float mixed Tab_ok 5 [⟨0,19, .own 9,[]⟩,⟨1,20, .own 10,[]⟩,⟨2,21, .r (.b true),[]⟩] [(3,[0]),(4,[1])] (by kernel_rfl) (F:=[(8, .own 4),(9, .own 5),(10, .own 6),(1000000, .nm 0 p0)]) (O:=[(0,some (pbox 1 0 [⟨0,L1 lf⟩] [])),(4,some (.box [.own 9])),(5,some (.box [.own 10])),(6,some (.box [.r (.b true)])),(9,some (.ch 3 1 1 [I 0] false)),(10,some (.ch 3 1 0 [] false))]) (nx:=11) (zad [(0,0),(4,4),(5,5),(6,6),(9,20),(10,21)] rfl ⟨rfl,rfl,rfl,⟨rfl,rfl⟩,trivial⟩ ⟨(aC aZ),⟨_,_,rfl,rfl,rfl⟩,⟨_,_,rfl,rfl,rfl⟩,(aA aZ),⟨rfl,rfl,rfl,rfl,zn _⟩,⟨rfl,rfl,rfl,rfl,zn _⟩,trivial⟩) ?_)
 refine⟨rfl,⟨λY=>zo _,λY=>zo _,λY=>zo _,trivial⟩,[(8, .own 4),(9, .own 5),(10, .own 6),(1000000, .nm 0 p0)],(4,some (.box [.own 9]))::[(0,some (pbox 1 0 [⟨0,L1 lf⟩] [])),(4,some (.box [.own 9])),(5,some (.box [.own 10])),(6,some (.box [.r (.b true)])),(9,some (.ch 3 1 1 [I 0] false)),(10,some (.ch 3 1 0 [] false))],11,λY=>zo _,?_⟩
 refine⟨rfl,⟨λY=>zo _,λY=>zo _,λY=>zo _,trivial⟩,[(8, .own 4),(9, .own 5),(10, .own 6),(1000000, .nm 0 p0)],(5,some (.box [.own 10]))::(4,some (.box [.own 9]))::[(0,some (pbox 1 0 [⟨0,L1 lf⟩] [])),(4,some (.box [.own 9])),(5,some (.box [.own 10])),(6,some (.box [.r (.b true)])),(9,some (.ch 3 1 1 [I 0] false)),(10,some (.ch 3 1 0 [] false))],11,λY=>zo _,?_⟩
 refine⟨rfl,⟨λY=>zo _,λY=>zo _,λY=>zo _,trivial⟩,?_⟩
 refine zz5 (Sub.trans (zbb (id:=9) rfl) (zbb (id:=10) rfl)) ?_
 exact zal (.inl rfl) [(0,0),(4,4),(5,5),(6,6),(9,9),(10,10)] [(8, .own 4),(9, .own 5),(10, .own 6)] [(4,some (.box [.own 9])),(5,some (.box [.own 10])),(6,some (.box [.r (.b true)])),(9,some (.ch 3 1 1 [I 0] true)),(10,some (.ch 3 1 0 [] true))] rfl ⟨rfl,rfl,rfl,⟨rfl,rfl⟩,trivial⟩ ⟨(aC aZ),⟨_,_,rfl,rfl,rfl⟩,⟨_,_,rfl,rfl,rfl⟩,(aA aZ),⟨rfl,rfl,rfl,rfl,zn _⟩,⟨rfl,rfl,rfl,rfl,zn _⟩,trivial⟩ ⟨⟨1000000,rfl⟩,trivial⟩ ⟨_,rfl,cr⟩
theorem vis1(lf:Leaf)(only:Bool):visV [⟨0,L1 lf⟩] 0 only 0 0 0 []=([0],[],true):=by
 unfold visV
 have:zbi [⟨0,L1 lf⟩] ((nd 0 0:Nat):Int)=some (L1 lf):=by simp[zbi,nd]
 rw[this]
 rfl
theorem ze0b{d:Nat}(h:(1:Int)=((2^d:Nat):Int)):d=0:=by
 cases d with
 |zero=>rfl
 |succ n=>
  have:1<=2^n:=Nat.one_le_two_pow
  rw[Nat.pow_succ]at h
  omega
section
variable (lf:Leaf) (hlf:lf.fit) (hlr:lf.right=true)
include hlf hlr
omit hlf in
theorem zxe:sR (oneS (L1 lf))=true:=z3s (zou hlr) rfl
theorem z6c:aG 457 [(oneS (L1 lf)).pr, .b false] (.r (.b true)):=by
 have hR:=zxe lf hlr
 unfold sR at hR
 simp only[Bool.and_eq_true]at hR
 have hb:=z0y (zd0 hlf)
 have h:=zy2 1 0 hb.nl hb.no (oneS (L1 lf)).opn (oneS (L1 lf)).shut false hb.lo hb.lh hb.fo hb.ao hb.ah hb.fh (λd r p0 hd hr=>by
  have h0:=ze0b hd
  subst h0
  have e:r=([0],[],true):=hr.trans (vis1 lf false)
  rw[e]
  exact z9y lf hlf p0 0 false)
 have e:zdm 1 0 (oneS (L1 lf)).opn (oneS (L1 lf)).shut false=true:=hR.2
 rw[e]at h
 exact h
theorem zqh:aG 377 [.ag (oneS (L1 lf)).c] (.r (.tu [(oneS (L1 lf)).pr, .b true])):=by
 have hb:=z0y (zd0 hlf)
 have hR:=zxe lf hlr
 have hp:=zjpb hR
 unfold sR at hR
 simp only[Bool.and_eq_true]at hR
 have c0:=z5e (oneS (L1 lf)) hb
 rw[hp,hR.1]at c0
 refine aT Tryz.func377 rfl ?_
 refine za rfl rfl ?_
 refine ze c0 ?_
 refine aV ?_
 refine za rfl rfl ?_
 refine za rfl rfl ?_
 refine ze (z6c lf hlf hlr) ?_
 refine za rfl rfl ?_
 exact⟨_,rfl,cr⟩
theorem zs4:aG 275 [.ag (oneS (L1 lf)).c] (.r (.b true)):=by
 refine aT Tryz.func275 rfl ?_
 refine za rfl rfl ?_
 refine ze (zqh lf hlf hlr) ?_
 exact cr
theorem z95:aG 280 [.ag (oneS (L1 lf)).c,I 0] (.r (.tu [.ag (L1 lf).c, .b true])):=by
 refine aT Tryz.func280 rfl ?_
 refine za rfl rfl ?_
 refine ze (zqh lf hlf hlr) ?_
 refine Vstep.node2 rfl rfl rfl (λm hm=>?_) (λhm=>?_)
 ·have e:zbi [⟨0,L1 lf⟩] 0=some m:=hm
  have e2:zbi [⟨0,L1 lf⟩] 0=some (L1 lf):=by simp[zbi]
  obtain rfl:L1 lf=m:=by rw[e2]at e;injection e
  refine zu rfl ?_
  refine zu rfl ?_
  refine zq ?_
  refine za rfl rfl ?_
  refine ze (zep (L1 lf) (zd0 hlf) (zbx _ hlf)) ?_
  refine za rfl rfl ?_
  exact⟨_,rfl,cr⟩
 ·have e:zbi [⟨0,L1 lf⟩] 0=none:=hm
  simp[zbi]at e
end
theorem z9m:aG 279 [zkd [],nl] (.r (.tu [z3v [],bs []])):=by
 refine aT Tryz.func279 rfl ?_
 refine⟨rfl,by decide,by decide,by decide,0,[],rfl,rfl,zw ?_⟩
 refine zd (m:= -1) rfl (by decide) ?_
 refine Vloop.rounds 1 (Vrounds.step mixed Tab_ok ?_)
 refine zu rfl (zq ?_)
 exact⟨_,rfl,Cv.tu (zk (cr) (zk (Cv.nil 1) Cvs.nil))⟩
theorem z60(w:World):Calls aP 518 #[.int .u64 1] w λe w'=>e= .returned (.int .i64 1)/\w=w':=by
 go_enter Tryz.func518,Tryz.ntmps518
 go_wp2_with fail
 go_ret
 exact⟨congrArg (λx=>Ending.returned (.int .i64 x)) (show wrap64 (wrap64 (Lib.len8 1))=1 by decide+kernel),rfl⟩
theorem zdtb:aG 518 [.i .u64 1] (.r (I 1)):=
 z9g (us:=[.int .u64 1]) (u:= .int .i64 1) (zdu Tryz.func518 rfl (by kernel_rfl)) (λ_ _ _ h=>by
  obtain⟨u,rfl,h1⟩:=zxh h
  simp only[RV.at_]at h1
  rw[h1]) (λ_ _=>by simp[RV.at_]) λw=>z60 w
theorem zkfb:aG 461 [.i .u64 1] (.r (I 1)):=by
 refine aT Tryz.func461 rfl ?_
 refine zq ?_
 refine ze zdtb ?_
 exact cr
theorem z9q(k:KeyP):aG 509 [keyR [k],I 0,I 1, .x (.func (.func 382) #[] #[])] (.r (.tu [])):=by
 refine aT Tryz.func509 rfl ?_
 refine zd (m:=1) rfl (by decide) ?_
 refine Vloop.rounds 1 (Vrounds.step mixed Tab_ok ?_)
 refine zu rfl (zq ?_)
 exact⟨_,rfl,cr⟩
theorem zg1b(k:KeyP):aG 460 [keyR [k],I 0,I 1,I 1, .x (.func (.func 382) #[] #[])] (.r (.tu [])):=by
 refine aT Tryz.func460 rfl ?_
 refine Vloop.rounds 1 (Vrounds.step mixed Tab_ok ?_)
 refine zd (m:=1) rfl (by decide) ?_
 refine zt rfl (zp ?_)
 refine ze (z9q k) ?_
 exact⟨_,rfl,cr⟩
theorem z96(k:KeyP):aG 381 [keyR [k], .x (.func (.func 382) #[] #[])] (.r (.tu [])):=by
 refine aT Tryz.func381 rfl ?_
 refine Vint.u64 (n:=1) rfl (by decide) ?_
 refine ze zkfb ?_
 refine ze (zg1b k) ?_
 exact⟨_,rfl,cr⟩
theorem z2n(k:KeyP):aG 281 [keyR [k]] (.r (keyR [k])):=by
 refine aT Tryz.func281 rfl ?_
 refine ze (z96 k) ?_
 exact cr
set_option maxHeartbeats 4000000 in
set_option maxRecDepth 20000 in
theorem z2x(lf ol:Leaf)(hlf:lf.fit)(hol:ol.fit):aG 282 [.ag (zcd lf).c,zkd [],z3v [], .ag ol.c] (.r (.ag (zcd ol).c)):=by
 refine aT Tryz.func282 rfl ?_
 refine zy (λi:Bool=>{F:=[(1, .r (zkd [])),(2, .r (z3v [])),(4, .own 0),(7, .own 1),(8, .own 2),(9, .own 3),(22, .r (zq6 (zcd lf).opn)),(23, .r (I 1)),(24, .r (cond i (I 1) (I 0)))],O:=rnO (zcd lf) ol (cond i [⟨0,L1 ol⟩] []) [],nx:=6})
  (λ_=>True) (λi=>cond i 0 1) false trivial
  ((zb0 true 3 2 241 11 (cells:=[.r (I 1), .r (I 0), .r (.x (.slice none 0 0)), .r (.x (.slice none 0 0))]) rfl rfl).trans ((zb0 true 3 3 432 2 (cells:=[.r (I 1), .r (I 0), .own 4, .r (.x (.slice none 0 0))]) rfl rfl).trans (zad [(0,0),(1,1),(2,2),(3,3),(4,4),(5,5)] rfl ⟨cr,cr,rfl,rfl,rfl,rfl,cr,cr,cr,trivial⟩ ⟨(aC aZ),(aC (aB aZ)),zae zero4,cvc (zbg _) (cvc (zbg _) (cvc rfl (cvc rfl rfl))),⟨rfl,rfl,rfl,rfl,zn _⟩,⟨rfl,rfl,rfl,rfl,zn _⟩,trivial⟩))) ?_
 rintro(_ |_) _
 ·refine zt rfl (zp ?_)
  refine zm i00 i01 rfl ?_
  refine za rfl rfl ?_
  refine za rfl rfl ?_
  refine ze (zep (L1 lf) (zd0 hlf) (zbx _ hlf)) ?_
  refine Vstep.sub (zci (t:=11) (Spot.c ⟨0,L1 lf⟩) rfl rfl) (Vstep.mkfun zu1 (λ_=>True) (λr=>decide (r.at_=0)) rfl rfl (λr _=>z2b r ⟨0,L1 lf⟩) ?_)
  refine ze (z5d [] (λr=>decide (r.at_=0)) (by decide)) ?_
  refine zg rfl ?_
  refine zd (m:=0) rfl (by show(-9223372036854775808:Int)<=0/\(0:Int)<=9223372036854775807;decide) ?_
  refine zt rfl (zp ?_)
  refine za rfl rfl ?_
  refine Vcall.mk' (zep ⟨1,ol,zpr⟩ ⟨hol,zn9⟩ (zbx _ hol)) (zk (Cv.ag (zk (cr) (zk (cr) (zk (cr) (zk (cr) (zk (cr) (zk (cr) (zk (cr) (zk (Cv.nil 1) (zk (Cv.nil 1) (zk (Cv.nil 1) Cvs.nil))))))))))) Cvs.nil) ?_
  refine zg rfl ?_
  refine za rfl rfl ?_
  refine zw ?_
  refine Vapp.mk' (j:=1) (zs:=Spot.c ⟨0,L1 ol⟩) (by show 0+1<=maxLen;decide) (by show(0+1)*216<=140737488355328;decide) rfl (by simp[zc6,cellsOf]) ?_
  refine zd (m:=1) rfl (by decide) ?_
  exact⟨true,trivial,by decide,zad [(0,0),(1,1),(2,2),(3,3),(4,_),(5,5)] rfl ⟨cr,cr,rfl,rfl,rfl,rfl,cr,cr,cr,trivial⟩ ⟨(aC aZ),(aC (aB aZ)),zae zero4,cvc (zbg _) (cvc (zbg _) (cvc rfl (cvc rfl rfl))),⟨rfl,rfl,rfl,rfl,zn _⟩,⟨rfl,rfl,rfl,rfl,zn _⟩,trivial⟩⟩
 ·refine zu rfl (zq ?_)
  refine Vloop.rounds 1 (Vrounds.step mixed Tab_ok ?_)
  refine zu rfl (zq ?_)
  refine za rfl rfl ?_
  refine za rfl rfl ?_
  exact cr
set_option maxHeartbeats 4000000 in
set_option maxRecDepth 20000 in
theorem zkgb(lf ol:Leaf)(seed sig group com ls pl ql:List UInt8)(hlf:lf.fit)(hlr:lf.right=true)(hol:ol.fit)(hseed:seed.length=32)(hsig:sig.length=32)
  (c1:aG 277 [bs seed,I 0] (.r (bss [com])))
  (c5:aG 45 [bs seed,Str ⟨#[108,101,97,102]⟩] (.r (bs ls)))
  (c6:aG 49 [bs ls] (.r (.tu [bs pl,bs ql])))
  (c7:aG 51 [.ag (zdl lf ql []).c,bs sig,bs group,I 0] (.r (.tu [.ag ol.c,Er 0]))):
  aG 183 [.ag (zcd lf).c,bs seed,bs sig,bs group] (.r (.tu [.ag (MadeP.c ⟨zcd ol,ol,[],[⟨0,pl⟩],[],com⟩),Er 0])):=by
 have c8:=z2x lf ol hlf hol
 refine aT Tryz.func183 rfl ?_
 refine za rfl rfl ?_
 refine ze (zs4 lf hlf hlr) ?_
 refine zu rfl (zq ?_)
 refine zu (by simp only[zb];omega) ?_
 refine zu (by simp only[zb];omega) (zq ?_)
 refine za rfl rfl ?_
 refine ze (zvn (oneS (L1 lf)) rfl rfl) ?_
 refine ze c1 ?_
 refine aV ?_
 refine⟨by decide,by decide,by show(0:Int)<=1;decide,0,[],rfl,rfl,?_⟩
 refine zm i00 i01 rfl (zg rfl ?_)
 refine Vloop.rounds 1 (Vrounds.step mixed Tab_ok ?_)
 refine zu rfl (zq ?_)
 refine ze z9m ?_
 refine za rfl rfl ?_
 refine zd (m:=0) rfl (by show(-9223372036854775808:Int)<=0/\(0:Int)<=9223372036854775807;decide) ?_
 refine ze (z95 lf hlf hlr) ?_
 refine za rfl rfl ?_
 refine ze c5 ?_
 refine ze c6 ?_
 refine za rfl rfl ?_
 refine Vcall.mk' c7 (zk (cr) (zn _)) ?_
 refine zu rfl (zq ?_)
 refine zd (m:=0) rfl (by show(-9223372036854775808:Int)<=0/\(0:Int)<=9223372036854775807;decide) ?_
 refine zw ?_
 refine Vapp.mk' (j:=1) (zs:=KeyP.c ⟨0,pl⟩) (by decide) (by decide) rfl rfl ?_
 refine ze (z2n ⟨0,pl⟩) ?_
 refine za rfl rfl ?_
 refine za rfl rfl ?_
 refine ze c8 ?_
 refine za rfl rfl ?_
 refine Vcall.mk' (zep ⟨1,ol,zpr⟩ ⟨hol,zn9⟩ (zbx _ hol)) (zk (Cv.ag (zk (cr) (zk (cr) (zk (cr) (zk (cr) (zk (cr) (zk (cr) (zk (cr) (zk (Cv.nil 1) (zk (Cv.nil 1) (zk (Cv.nil 1) Cvs.nil))))))))))) Cvs.nil) ?_
 refine Vsem.fieldN Tab_ok rfl rfl rfl rfl rfl rfl rfl (Nat.le_of_ble_eq_true rfl) rfl ?_
 refine za rfl rfl ?_
 refine za rfl rfl ?_
 exact⟨_,rfl,Cv.tu (zk (Cv.ag (by repeat' (first|exact Cvs.nil|exact zn _|refine zk ?_ ?_|exact cr|exact Cv.nil _))) (zn _))⟩
theorem zdvb(lf:Leaf)(seed sig group:List UInt8)(hlr:lf.right=true)(hseed:seed.length=32)(hsig:sig.length=32)(hg:group.length<=1000):
  ∃(ol:Leaf) (com pl:List UInt8),ol.right=true/\ol.src=3/\ol.parent.length=0/\ol.sign=lf.sign/\com.length=32/\pl.length=32/\
   aG 183 [.ag (zcd lf).c,bs seed,bs sig,bs group] (.r (.tu [.ag (MadeP.c ⟨zcd ol,ol,[],[⟨0,pl⟩],[],com⟩),Er 0])):=by
 have hlf:=zcy hlr
 obtain⟨h1,h2,h3,h5,h6⟩:=zg5 hlr
 have h30:0<lf.ident.length:=by
  have h:=hlr
  simp only[Leaf.right,decide_eq_true_eq]at h
  omega
 have hf:(L1 lf).fit:=zd0 hlf
 have hr:(L1 lf).right=true:=zou hlr
 have c1:=z6g seed 0 (by rw[hseed];decide) ⟨by omega,by omega⟩
 have c5:=zc1 seed ⟨#[108,101,97,102]⟩ (by rw[hseed];decide) (by decide)
 have el:(labB seed (sB ⟨#[108,101,97,102]⟩) [] 32).length=32:=zbk _ _ _ (by omega)
 generalize labB seed (sB ⟨#[108,101,97,102]⟩) [] 32=ls at c5 el
 have c6:=zrv ls (by omega)
 have eq:(zg2 (zhh ls)).length=32:=zku _
 generalize zg2 (zhh ls)=ql at c6 eq
 have ep:=zi4 ls
 generalize zhh ls=pl at c6 ep
 have e1: ∀sd:List UInt8,zcl sd ((0:Int).toNat+1)=[secN sd 0]:=λ_=>rfl
 rw[e1]at c1
 have ec:(secN seed 0).length=32:=by exact zx8 _ 0
 generalize secN seed 0=com at c1 ec
 have hml:(zdl lf ql []).fit:=⟨by show ql.length<=_;omega,by show lf.sign.length<=_;omega,by show lf.ident.length<=_;omega,by show 0<=_;omega,by show lf.sig.length<=_;omega⟩
 have hz:zS64.length=64:=by decide
 have c7:=zqj (zdl lf ql []) sig group 0 hml (by omega) (by show ql.length+lf.sign.length+lf.ident.length+0<=_;omega) (by unfold i64;omega)
 have hwr:((zdl lf ql []).with zS64).right=true:=by
  unfold Leaf.right
  refine decide_eq_true ⟨eq,h2,?_,?_,by show 0< (3:UInt8).toNat;decide,by show(3:UInt8).toNat<4;decide, .inl rfl,hz⟩
  ·show 0<lf.ident.length;omega
  ·show lf.ident.length<=64;omega
 have he:zec (zdl lf ql []) sig 0=0:=by
  unfold zec
  rw[if_pos hwr,if_pos (by unfold ze7;simp),if_pos hsig]
 have hsr:zhl (zdl lf ql []) sig group 0= .tu [.ag (slOk (zdl lf ql []) sig group 0).c,Er 0]:=by unfold zhl;rw[if_pos he]
 rw[hsr]at c7
 have hol:(slOk (zdl lf ql []) sig group 0).fit:=⟨by show ql.length<=_;omega,by show lf.sign.length<=_;omega,by show lf.ident.length<=_;omega,by show 0<=_;omega,by show(zhg _ _ _).length<=_;rw[zei];omega⟩
 have hor:(slOk (zdl lf ql []) sig group 0).right=true:=by
  unfold Leaf.right
  refine decide_eq_true ⟨eq,h2,?_,?_,by show 0< (3:UInt8).toNat;decide,by show(3:UInt8).toNat<4;decide, .inl rfl,zei _ _ _⟩
  ·show 0<lf.ident.length;omega
  ·show lf.ident.length<=64;omega
 have hos:(slOk (zdl lf ql []) sig group 0).src=3/\(slOk (zdl lf ql []) sig group 0).parent.length=0/\(slOk (zdl lf ql []) sig group 0).sign=lf.sign:=⟨rfl,rfl,rfl⟩
 generalize slOk (zdl lf ql []) sig group 0=ol at c7 hol hor hos
 refine⟨ol,com,pl,hor,hos.1,hos.2.1,hos.2.2,ec,ep,?_⟩
 exact zkgb lf ol seed sig group com ls pl ql hlf hlr hol hseed hsig c1 c5 c6 c7
theorem zd6b(ol:Leaf)(ky:List KeyP)(com seed ctx:List UInt8)(hor:ol.right=true):
  aG 185 [.ag (MadeP.c ⟨zcd ol,ol,[],ky,[],com⟩),nl,bs seed,bs ctx] (.r (.tu [.ag (wayR ol),Er 0])):=by
 have hof:=zcy hor
 have c1:=zs4 ol hof hor
 have c2:=zvn (zcd ol) rfl rfl
 have c3:=zep ⟨0,ol,zpr⟩ ⟨hof,zn9⟩ (zbx _ hof)
 refine aT Tryz.func185 rfl ?_
 refine za rfl rfl ?_
 refine ze c1 ?_
 refine zu rfl (zq ?_)
 refine za rfl rfl ?_
 refine ze c2 ?_
 refine zu rfl ?_
 refine zu rfl ?_
 refine zq ?_
 refine za rfl rfl ?_
 refine Vcall.mk' c3 (zk (Cv.ag (by repeat' (first|exact Cvs.nil|exact zn _|refine zk ?_ ?_|exact cr|exact Cv.nil _|exact zhy _|refine Cv.ag ?_))) Cvs.nil) ?_
 refine Vsem.fieldN Tab_ok rfl rfl rfl rfl rfl rfl rfl (Nat.le_of_ble_eq_true rfl) rfl ?_
 refine Vloop.rounds 1 (Vrounds.step mixed Tab_ok ?_)
 refine zu rfl (zq ?_)
 refine za rfl rfl ?_
 refine za rfl rfl ?_
 exact⟨_,rfl,cr⟩
end Go.Proofs.YtkegaaonpekkgaaGreat.Sx
