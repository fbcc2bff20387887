import Derived.Test.YtoegdgbghdnnfaaGreatZTm
import Derived.Test.YtoegdgbghdnnfaaGreatZHp
import Derived.Test.YtoegdgbghdnnfaaGreatZTi
import Derived.Test.YtoegdgbghdnnfaaGreatZOnes
import Derived.Test.YtoegdgbghdnnfaaGreatZEq
import Derived.Test.YtoegdgbghdnnfaaGreatZSxPt
namespace Go.Proofs.YtoegdgbghdnnfaaGreat.Sx
open Go.RowKit
theorem zxj(l m:List Int)(hl:l.length<=1000000000)(hm:m.length<=1000000000):bG 168 [is l,is m] (.r (.b (decide (l=m)))):=by
 refine bT Tryz.func168 rfl ?_
 by_cases hlen:l.length=m.length
 ·refine zw (by simp only[zb];omega) (zt ?_)
  refine Vloop.mk' (λi:Nat=>⟨[(0, .r (is l)),(1, .r (is m)),(12, .r (I l.length)),(13, .r (I i))],[],0⟩) (λi=>i<=l.length/\l.take i=m.take i) (λi=>l.length-i) 0 ⟨by omega,by simp⟩ (zac [] rfl ⟨cr,cr,cr,cr,trivial⟩ trivial) ?_
  rintro i ⟨hi,he⟩
  refine zh (λh=>zq ?_) (λh=>zt ?_)
  ·simp only[zb]at h
   have h1:i<l.length:=by omega
   have h2:i<m.length:=by omega
   refine bV ?_
   refine zm (by omega) (by omega) (zaj rfl h1) (zg rfl ?_)
   refine zm (by omega) (by omega) (zaj rfl h2) (zg rfl ?_)
   refine zh (λh3=>zq ?_) (λh3=>zt ?_)
   ·simp only[zb]at h3
    refine zf (congrArg RV.b (Eq.symm ?_))
    rw[decide_eq_false_iff_not]
    intro e
    subst e
    exact h3 rfl
   ·simp only[zb]at h3
    refine zd (m:=((i+1:Nat):Int)) (by omega) (by omega) ?_
    refine⟨i+1,⟨h1,?_⟩,by omega,zac [] rfl ⟨cr,cr,cr,cr,trivial⟩ trivial⟩
    rw[List.take_succ_eq_append_getElem h1,List.take_succ_eq_append_getElem h2,he,h3]
  ·simp only[zb]at h
   refine zf (congrArg RV.b (Eq.symm ?_))
   rw[decide_eq_true_eq,<-List.take_of_length_le (show l.length<=i by omega),he,List.take_of_length_le (by omega)]
 ·refine zu (by simp only[zb];omega) (zq ?_)
  refine zf (congrArg RV.b (Eq.symm ?_))
  rw[decide_eq_false_iff_not]
  exactλe=>hlen (by rw[e])
def zil(O:List Spot)(x:Int):Bool:=match zaf O x with
 |some n=>decide (n.kind.toNat=1)
 |none=>false
def zep(leaves own:Int)(O:List Spot)(H:List Stub)(only:Bool):Bool:=
 zck leaves&&(decide (0<=own)&&(decide (own<leaves)&&(zil O (2*own)&&(O.all (λs=>zcy s.at_ s.node)&&(H.all (λs=>decide (s.hash.length=32))&&
  ((visV O own only leaves.toNat.log2 0 0 []).2.2&&(decide ((visV O own only leaves.toNat.log2 0 0 []).1=zbu (O.map (·.at_)))&&decide ((visV O own only leaves.toNat.log2 0 0 []).2.1=zbu (H.map (·.at_))))))))))
abbrev zy0(leaves own:Int)(O:List Spot)(H:List Stub):RV:= .ag [I leaves,I own, .s (mapS (zby O)), .s (mapS (zbx H))]
theorem zi6(O:List Spot):(zby O).map (·.1)=O.map (·.at_):=by simp[zby]
theorem zi3(H:List Stub):(zbx H).map (·.1)=H.map (·.at_):=by simp[zbx]
theorem z0x{α:Type}{p:α->Bool}{l:List α}(h: ∀j,j<l.length->∀x,l[j]?=some x->p x=true):l.all p=true:=by
 rw[List.all_eq_true]
 intro x hx
 obtain⟨j,hj⟩:=List.getElem?_of_mem hx
 exact h j (List.getElem?_eq_some_iff.1 hj).1 x hj
set_option maxHeartbeats 4000000 in
theorem z90(leaves own:Int)(hl:i64 leaves)(ho:i64 own)(O:List Spot)(H:List Stub)(only:Bool)(hOn:O.length<=1000000)(hHn:H.length<=1000000)(hOf: ∀s∈O,s.node.fit)(hOi: ∀s∈O,i64 s.at_)(hHi: ∀s∈H,i64 s.at_)(hHl: ∀s∈H,s.hash.length<=1000000000):
  bG 117 [zy0 leaves own O H, .b only] (.r (.b (zep leaves own O H only))):=by
 refine bT Tryz.func117 rfl ?_
 refine Vcall.bool (zni leaves) (λhf=>zw rfl ?_) (λhf=>zu rfl (zq ?_))
 rotate_left
 ·exact zf (by simp[zep,hf,ofC])
 have hn:=zdc hf
 refine zh (λh0=>zq ?_) (λh0=>?_)
 ·simp only[zb]at h0
  refine zf (congrArg RV.b (Eq.symm ?_))
  have: ¬0<=own:=by omega
  simp[zep,this]
 simp only[zb]at h0
 have h0':0<=own:=by omega
 refine zh (λh1=>zq ?_) (λh1=>?_)
 ·simp only[zb]at h1
  refine zf (congrArg RV.b (Eq.symm ?_))
  have: ¬own<leaves:=by omega
  simp[zep,this]
 simp only[zb]at h1
 have h1':own<leaves:=by omega
 refine zd rfl (by omega) ?_
 refine Vstep.node1 rfl rfl rfl (λm hm=>?_) (λhm=>?_)
 rotate_left
 ·refine Vsem.field Tab_ok rfl rfl rfl rfl rfl rfl rfl rfl ?_
  refine zu rfl (zq ?_)
  exact zf (by simp[zep,zil,hm,ofC])
 refine Vsem.field Tab_ok rfl rfl rfl rfl rfl rfl rfl rfl ?_
 refine zh (λhk=>zq ?_) (λhk=>zt ?_)
 ·simp only[zb]at hk
  refine zf (congrArg RV.b (Eq.symm ?_))
  have: ¬m.kind.toNat=1:=by omega
  simp[zep,zil,hm,this]
 simp only[zb]at hk
 have hleaf:zil O (2*own)=true:=by simp only[zil,hm,decide_eq_true_eq];omega
 refine Vstep.range rfl rfl zjp ?_
 refine Vloop.mkx (λdn:List Nat=>⟨[(1, .r (.b only)),(2, .own 0),(40, .own 1)],[(0,some (pbox leaves own O H)),(1,some (.gen (itO (zby O) dn none)))],2⟩) (λdn=>dn.Nodup/\∀j∈dn,∃s,O[j]?=some s/\zcy s.at_ s.node=true) (λdn=>O.length-dn.length) [] ⟨List.nodup_nil,by simp⟩ (zac [(0,0),(1,1)] rfl ⟨cr,rfl,rfl,trivial⟩ ⟨(bC bZ),λ_ _ _ hh=>hh,trivial⟩) ?_
 rintro dn ⟨hnd,hdn⟩
 refine Vstep.next rfl rfl rfl (λhall=>?_) (λj x hj hjn=>?_)
 rotate_left
 ·have hjO: ∃s,O[j]?=some s/\x=(s.at_, .ag s.node.c):=by
   simp only[zby,List.getElem?_map,Option.map_eq_some_iff]at hj
   obtain⟨s,hs,rfl⟩:=hj
   exact⟨s,hs,rfl⟩
  obtain⟨s,hs,rfl⟩:=hjO
  have hsm:=List.mem_of_getElem? hs
  refine zq ?_
  refine Vstep.entry rfl rfl rfl hj ?_
  refine za rfl rfl ?_
  refine Vcall.bool (z9z s.at_ s.node (hOf s hsm)) (λhp=>zw rfl (zt ?_)) (λhp=>zu rfl (zq ?_))
  ·have hlen:(dn++[j]).length<=O.length:=zke _ (by
    rw[List.nodup_append]
    exact⟨hnd,by simp,λy hy z hz e=>hjn (by rw[List.mem_singleton.1 hz]at e;exact e▸hy)⟩) λy hy=>by
     rcases List.mem_append.1 hy with hy |hy
     ·obtain⟨s',h',_⟩:=hdn y hy
      exact(List.getElem?_eq_some_iff.1 h').1
     ·rw[List.mem_singleton.1 hy];exact(List.getElem?_eq_some_iff.1 hs).1
   rw[bL]at hlen
   refine⟨dn++[j],⟨?_,λy hy=>?_⟩,by simp only[bL,List.length_cons,List.length_nil]at*;omega,zac [(0,0),(1,1)] rfl ⟨cr,rfl,rfl,trivial⟩ ⟨(bC bZ),zr9,trivial⟩⟩
   ·rw[List.nodup_append]
    exact⟨hnd,by simp,λy hy z hz e=>hjn (by rw[List.mem_singleton.1 hz]at e;exact e▸hy)⟩
   ·rcases List.mem_append.1 hy with hy |hy
    ·exact hdn y hy
    ·rw[List.mem_singleton.1 hy];exact⟨s,hs,hp⟩
  ·refine⟨_,zo _,zf (congrArg RV.b (Eq.symm ?_))⟩
   have:O.all (λs=>zcy s.at_ s.node)=false:=zun hsm hp
   simp[zep,this]
 ·have hallO:O.all (λs=>zcy s.at_ s.node)=true:=z0x λj hjl x hx=>by
   obtain⟨s,hs,hp⟩:=hdn j (hall j (by simpa[zby]using hjl))
   rw[hx]at hs
   cases hs
   exact hp
  refine zt ?_
  refine⟨_,zo _,?_⟩
  refine Vstep.range rfl rfl zmv ?_
  refine Vloop.mkx (λdn:List Nat=>⟨[(1, .r (.b only)),(2, .own 0),(52, .own 1)],[(0,some (pbox leaves own O H)),(1,some (.gen (itO (zbx H) dn none)))],2⟩) (λdn=>dn.Nodup/\∀j∈dn,∃s,H[j]?=some s/\s.hash.length=32) (λdn=>H.length-dn.length) [] ⟨List.nodup_nil,by simp⟩ (zac [(0,0),(1,2)] rfl ⟨cr,rfl,rfl,trivial⟩ ⟨(bC bZ),λ_ _ _ hh=>hh,trivial⟩) ?_
  clear hnd hdn hall
  rintro dn ⟨hnd,hdn⟩
  refine Vstep.next rfl rfl rfl (λhall=>?_) (λj x hj hjn=>?_)
  rotate_left
  ·have hjH: ∃s,H[j]?=some s/\x=(s.at_,bs s.hash):=by
    simp only[zbx,List.getElem?_map,Option.map_eq_some_iff]at hj
    obtain⟨s,hs,rfl⟩:=hj
    exact⟨s,hs,rfl⟩
   obtain⟨s,hs,rfl⟩:=hjH
   have hsm:=List.mem_of_getElem? hs
   have hsl:=hHl s hsm
   refine zq ?_
   refine Vstep.entry rfl rfl rfl hj ?_
   refine zh (λh3=>zq ?_) (λh3=>zt ?_)
   ·simp only[zb]at h3
    refine⟨_,zo _,zf (congrArg RV.b (Eq.symm ?_))⟩
    have:H.all (λs=>decide (s.hash.length=32))=false:=zun hsm (by simp;omega)
    simp[zep,this]
   ·simp only[zb]at h3
    have hlen:(dn++[j]).length<=H.length:=zke _ (by
     rw[List.nodup_append]
     exact⟨hnd,by simp,λy hy z hz e=>hjn (by rw[List.mem_singleton.1 hz]at e;exact e▸hy)⟩) λy hy=>by
      rcases List.mem_append.1 hy with hy |hy
      ·obtain⟨s',h',_⟩:=hdn y hy
       exact(List.getElem?_eq_some_iff.1 h').1
      ·rw[List.mem_singleton.1 hy];exact(List.getElem?_eq_some_iff.1 hs).1
    rw[bL]at hlen
    refine⟨dn++[j],⟨?_,λy hy=>?_⟩,by simp only[bL,List.length_cons,List.length_nil]at*;omega,zac [(0,0),(1,1)] rfl ⟨cr,rfl,rfl,trivial⟩ ⟨(bC bZ),zr9,trivial⟩⟩
    ·rw[List.nodup_append]
     exact⟨hnd,by simp,λy hy z hz e=>hjn (by rw[List.mem_singleton.1 hz]at e;exact e▸hy)⟩
    ·rcases List.mem_append.1 hy with hy |hy
     ·exact hdn y hy
     ·rw[List.mem_singleton.1 hy];exact⟨s,hs,by omega⟩
  ·have hallH:H.all (λs=>decide (s.hash.length=32))=true:=z0x λj hjl x hx=>by
    obtain⟨s,hs,hp⟩:=hdn j (hall j (by simpa[zbx]using hjl))
    rw[hx]at hs
    cases hs
    simpa using hp
   refine zt ?_
   refine⟨_,zo _,?_⟩
   obtain⟨d,hd,hd2⟩:=zet hf
   have hdl:leaves.toNat.log2=d:=by rw[hd2,Int.toNat_natCast,Nat.log2_two_pow]
   have hlate: ∀x n,zaf O x=some n->n.par.late.length<=100000000/\∀u∈n.par.late,za6 u:=λx n hx=>by
    obtain⟨sp,hsp,_,rfl⟩:=zej hx
    have hfi:=List.all_eq_true.1 hallO sp hsp
    simp only[zcy,Bool.and_eq_true]at hfi
    have hfit:=hOf sp hsp
    exact⟨hfit.2.2.2.1,Node.right_late hfi.1⟩
   obtain⟨r,hr⟩: ∃r,r=visV O own only d 0 0 []:=⟨_,rfl⟩
   have hrl:=zfk O own only d 0 0 []
   rw[<-hr]at hrl
   have hp17:2^(d+1)<=131072:=Nat.pow_le_pow_right (n:=2) (by omega) (show d+1<=17 by omega)
   have hfin:zep leaves own O H only=(r.2.2&&(decide (r.1=zbu (O.map (·.at_)))&&decide (r.2.1=zbu (H.map (·.at_))))):=by
    simp[zep,hf,h0',h1',hleaf,hallO,hallH,hdl,<-hr]
   rw[hfin]
   have hop:=λp0=>z97 leaves own O H p0 hlate d hd leaves own hd2 ⟨h0',by omega⟩ only r hr
   obtain⟨A,B,okv⟩:=r
   simp only at hop hrl⊢
   refine Vstep.nm 0 1000000 rfl λp0=>Vstep.mkfunX [p0] rfl ⟨_,_,rfl,⟨0,1000000,rfl,rfl⟩,rfl⟩ ?_
   refine zj [(0,0)] [0] (λvs hv=>za9 (by simp only[List.map];rw[hv 0 0 1000000 _ rfl rfl]) (hop p0)) (zi rfl ⟨_,_,rfl,cr,_,_,rfl,cr,_,_,rfl,cr,_,_,rfl,cr,rfl⟩) rfl ⟨(bC bZ),trivial⟩ ⟨zad,trivial⟩ ?_
   have hsn:(zbu (O.map (·.at_))).length<=1000000:=by unfold zbu;rw[List.length_mergeSort,List.length_map];exact hOn
   have hsh:(zbu (H.map (·.at_))).length<=1000000:=by unfold zbu;rw[List.length_mergeSort,List.length_map];exact hHn
   have kN:=zu2 (zby O) (by simpa[zby]using hOn) (λx hx=>by
    simp only[zby,List.mem_map]at hx
    obtain⟨s,hs,rfl⟩:=hx
    exact hOi s hs)
   have kH:=zu1 (zbx H) (by simpa[zbx]using hHn) (λx hx=>by
    simp only[zbx,List.mem_map]at hx
    obtain⟨s,hs,rfl⟩:=hx
    exact hHi s hs)
   rw[zi6]at kN
   rw[zi3]at kH
   cases okv with
   |false=>exact zf rfl
   |true=>
    refine ze (z1b (zby O)) ?_
    refine ze kN ?_
    refine Vcall.bool (zxj A (zbu (O.map λs:Spot=>s.at_)) (by omega) (by omega)) (λhe=>?_) (λhe=>?_)
    ·refine ze (z1a (zbx H)) ?_
     refine ze kH ?_
     refine ze (zxj B (zbu (H.map λs:Stub=>s.at_)) (by omega) (by omega)) ?_
     exact zf (congrArg RV.b (by rw[he];simp))
    ·exact zf (congrArg RV.b (by rw[he];simp))
def putN(O:List Spot)(x:Int):Spot:=⟨x,(zaf O x).getD Node.zero⟩
def putH(H:List Stub)(x:Int):Stub:=⟨x,zch H x⟩
def zh0(leaves own:Int)(O:List Spot)(H:List Stub):Lean_:=⟨leaves,own,(zbu (O.map λs=>s.at_)).map (putN O),(zbu (H.map λs=>s.at_)).map (putH H)⟩
theorem zv1{l:List Int}{x:Int}:x∈zbu l↔x∈l:=by unfold zbu;exact List.mem_mergeSort
theorem zv0(l:List Int):(zbu l).length=l.length:=by unfold zbu;exact List.length_mergeSort l
theorem z2z{O:List Spot}{x:Int}(h:x∈O.map λs=>s.at_): ∃s∈O,zaf O x=some s.node:=by
 cases hf:zaf O x with
 |none=>
  simp only[zaf,Option.map_eq_none_iff,List.find?_eq_none,decide_eq_true_eq]at hf
  obtain⟨s,hs,e⟩:=List.mem_map.1 h
  exact absurd e (hf s hs)
 |some n=>
  obtain⟨s,hs,_,rfl⟩:=zej hf
  exact⟨s,hs,rfl⟩
theorem z45{H:List Stub}{x:Int}(h:x∈H.map λs=>s.at_): ∃s∈H,ze1 H x=some s.hash:=by
 cases hf:ze1 H x with
 |none=>
  simp only[ze1,Option.map_eq_none_iff,List.find?_eq_none,decide_eq_true_eq]at hf
  obtain⟨s,hs,e⟩:=List.mem_map.1 h
  exact absurd e (hf s hs)
 |some n=>
  obtain⟨_,s,hs,_,rfl⟩:=ze8 hf
  exact⟨s,hs,rfl⟩
set_option maxHeartbeats 4000000 in
theorem zxp(leaves own:Int)(O:List Spot)(H:List Stub)(hOn:O.length<=1000000)(hHn:H.length<=1000000)(hOf: ∀s∈O,s.node.fit)(hOi: ∀s∈O,i64 s.at_)(hHi: ∀s∈H,i64 s.at_)(hHl: ∀s∈H,s.hash.length<=1000000000):
  bG 69 [zy0 leaves own O H] (.r (.ag (zh0 leaves own O H).c)):=by
 refine bT Tryz.func69 rfl ?_
 have kN:=zu2 (zby O) (by simpa[zby]using hOn) (λx hx=>by
  simp only[zby,List.mem_map]at hx
  obtain⟨s,hs,rfl⟩:=hx
  exact hOi s hs)
 have kH:=zu1 (zbx H) (by simpa[zbx]using hHn) (λx hx=>by
  simp only[zbx,List.mem_map]at hx
  obtain⟨s,hs,rfl⟩:=hx
  exact hHi s hs)
 rw[zi6]at kN
 rw[zi3]at kH
 obtain⟨K,hK⟩: ∃K,K=zbu (O.map λs=>s.at_):=⟨_,rfl⟩
 obtain⟨M,hM⟩: ∃M,M=zbu (H.map λs=>s.at_):=⟨_,rfl⟩
 have hKl:K.length<=1000000:=by rw[hK,zv0,List.length_map];exact hOn
 have hMl:M.length<=1000000:=by rw[hM,zv0,List.length_map];exact hHn
 have hKm: ∀x∈K,∃s∈O,zaf O x=some s.node:=λx hx=>z2z (zv1.1 (hK▸hx))
 have hMm: ∀x∈M,∃s∈H,ze1 H x=some s.hash:=λx hx=>z45 (zv1.1 (hM▸hx))
 rw[<-hK]at kN
 rw[<-hM]at kH
 have hL:zh0 leaves own O H=⟨leaves,own,K.map (putN O),M.map (putH H)⟩:=by rw[hK,hM];rfl
 rw[hL]
 clear hL hK hM
 refine ze (z1b (zby O)) ?_
 refine ze kN ?_
 refine Vloop.mk' (λj:Nat=>{F:=[(1, .own 0),(2, .own 1),(3, .own 2),(16, .r (is K)),(17, .r (I K.length)),(18, .r (I j))],O:=[(0,some (pbox leaves own O H)),(1,some (.box (zero4.map .r))),(2,some (.box [.r (I leaves), .r (I own), .own 3, .own 4])),(3,some (zc3 ((K.take j).map (putN O)))),(4,some (zda []))],nx:=5})
  (λj=>j<=K.length) (λj=>K.length-j) 0 (by omega)
  ((zb1 true 2 2 132 11 (cells:=[.r (I leaves), .r (I own), .r (.x (.slice none 0 0)), .r (.x (.slice none 0 0))]) rfl rfl).trans ((zb1 true 2 3 134 2 (cells:=[.r (I leaves), .r (I own), .own 4, .r (.x (.slice none 0 0))]) rfl rfl).trans (zac [(0,0),(1,1),(2,2),(3,4),(4,5)] rfl ⟨rfl,rfl,rfl,cr,cr,cr,trivial⟩ ⟨(bC bZ),zae zero4,cvc (zbk _) (cvc (zbk _) (cvc rfl (cvc rfl rfl))),⟨rfl,rfl,rfl,rfl,zn _⟩,⟨rfl,rfl,rfl,rfl,zn _⟩,trivial⟩))) ?_
 intro j hj
 refine zh (λh=>zq ?_) (λh=>zt ?_)
 ·simp only[zb]at h
  have hj':j<K.length:=by omega
  obtain⟨s,hs,hfs⟩:=hKm K[j] (List.getElem_mem hj')
  refine zm (by omega) (by omega) (zaj rfl hj') (zg rfl ?_)
  refine Vdraw.code (Vcode.float mixed Tab_ok 10 [⟨0,22, .adr 2 2,[]⟩,⟨1,23, .own 3,[0]⟩,⟨2,24, .r (I K[j]),[]⟩,⟨5,27, .r (I K[j]),[]⟩] [(3,[]),(4,[]),(6,[5]),(7,[]),(8,[2]),(9,[])] (by kernel_rfl) (F:=[(1, .own 0),(2, .own 1),(3, .own 2),(5, .r (I K[j])),(16, .r (is K)),(17, .r (I K.length)),(18, .r (I j))]) (O:=[(0,some (pbox leaves own O H)),(1,some (.box (zero4.map .r))),(2,some (.box [.r (I leaves), .r (I own), .own 3, .own 4])),(3,some (zc3 ((K.take j).map (putN O)))),(4,some (zda []))]) (nx:=5) (zac [(0,0),(1,1),(2,2),(3,3),(4,4)] rfl ⟨rfl,rfl,rfl,cr,cr,cr,cr,trivial⟩ ⟨(bC bZ),zae zero4,cvc (zbk _) (cvc (zbk _) (cvc rfl (cvc rfl rfl))),⟨rfl,rfl,rfl,rfl,zn _⟩,⟨rfl,rfl,rfl,rfl,zn _⟩,trivial⟩) ?_)
  refine⟨rfl,⟨λY=>zo _,λY=>zo _,λY=>zo _,λY=>zo _,trivial⟩,(25, .adr 0 2)::[(1, .own 0),(2, .own 1),(3, .own 2),(5, .r (I K[j])),(16, .r (is K)),(17, .r (I K.length)),(18, .r (I j))],[(0,some (pbox leaves own O H)),(1,some (.box (zero4.map .r))),(2,some (.box [.r (I leaves), .r (I own), .own 3, .own 4])),(3,some (zc3 ((K.take j).map (putN O)))),(4,some (zda []))],5,λY=>zo _,?_⟩
  refine⟨rfl,⟨λY=>zo _,λY=>zo _,λY=>zo _,λY=>zo _,trivial⟩,(26, .r (.s (mapS (zby O))))::(25, .adr 0 2)::[(1, .own 0),(2, .own 1),(3, .own 2),(5, .r (I K[j])),(16, .r (is K)),(17, .r (I K.length)),(18, .r (I j))],[(0,some (pbox leaves own O H)),(1,some (.box (zero4.map .r))),(2,some (.box [.r (I leaves), .r (I own), .own 3, .own 4])),(3,some (zc3 ((K.take j).map (putN O)))),(4,some (zda []))],5,λY=>zo _,?_⟩
  refine⟨rfl,⟨λY=>zo _,λY=>zo _,λY=>zo _,λY=>zo _,trivial⟩,(28, .r (.ag s.node.c))::(26, .r (.s (mapS (zby O))))::(25, .adr 0 2)::[(1, .own 0),(2, .own 1),(3, .own 2),(5, .r (I K[j])),(16, .r (is K)),(17, .r (I K.length)),(18, .r (I j))],[(0,some (pbox leaves own O H)),(1,some (.box (zero4.map .r))),(2,some (.box [.r (I leaves), .r (I own), .own 3, .own 4])),(3,some (zc3 ((K.take j).map (putN O)))),(4,some (zda []))],5,λY=>Vstep.node1 rfl rfl rfl (λn hn=>by rw[hfs]at hn;cases hn;exact zo _) (λhn=>by rw[hfs]at hn;cases hn),?_⟩
  refine⟨rfl,⟨λY=>zo _,λY=>zo _,λY=>zo _,λY=>zo _,trivial⟩,(29, .r (.ag s.node.c))::(28, .r (.ag s.node.c))::(26, .r (.s (mapS (zby O))))::(25, .adr 0 2)::[(1, .own 0),(2, .own 1),(3, .own 2),(5, .r (I K[j])),(16, .r (is K)),(17, .r (I K.length)),(18, .r (I j))],[(0,some (pbox leaves own O H)),(1,some (.box (zero4.map .r))),(2,some (.box [.r (I leaves), .r (I own), .own 3, .own 4])),(3,some (zc3 ((K.take j).map (putN O)))),(4,some (zda []))],5,λY=>ze (zk1 s.node (hOf s hs) (zdu _ (hOf s hs).1)) (zo _),?_⟩
  refine⟨rfl,⟨λY=>zo _,λY=>zo _,λY=>zo _,λY=>zo _,trivial⟩,(30, .r (.ag (Spot.c ⟨K[j],s.node⟩)))::(29, .r (.ag s.node.c))::(28, .r (.ag s.node.c))::(26, .r (.s (mapS (zby O))))::(25, .adr 0 2)::[(1, .own 0),(2, .own 1),(3, .own 2),(5, .r (I K[j])),(16, .r (is K)),(17, .r (I K.length)),(18, .r (I j))],[(0,some (pbox leaves own O H)),(1,some (.box (zero4.map .r))),(2,some (.box [.r (I leaves), .r (I own), .own 3, .own 4])),(3,some (zc3 ((K.take j).map (putN O)))),(4,some (zda []))],5,λY=>zo _,?_⟩
  refine⟨rfl,⟨λY=>zo _,λY=>zo _,λY=>zo _,λY=>zo _,trivial⟩,(31, .own 5)::(30, .r (.ag (Spot.c ⟨K[j],s.node⟩)))::(29, .r (.ag s.node.c))::(28, .r (.ag s.node.c))::(26, .r (.s (mapS (zby O))))::(25, .adr 0 2)::[(1, .own 0),(2, .own 1),(3, .own 2),(5, .r (I K[j])),(16, .r (is K)),(17, .r (I K.length)),(18, .r (I j))],(5,some (.ch 132 11 1 (Spot.c ⟨K[j],s.node⟩) true))::[(0,some (pbox leaves own O H)),(1,some (.box (zero4.map .r))),(2,some (.box [.r (I leaves), .r (I own), .own 3, .own 4])),(3,some (zc3 ((K.take j).map (putN O)))),(4,some (zda []))],6,λY=>zy (zo _),?_⟩
  refine⟨rfl,⟨λY=>zo _,λY=>zo _,λY=>zo _,λY=>zo _,trivial⟩,?_⟩
  have hsn:(K.take (j+1)).map (putN O)=(K.take j).map (putN O)++[⟨K[j],s.node⟩]:=by
   rw[List.take_succ_eq_append_getElem hj',List.map_append]
   simp[putN,hfs]
  refine Vapp.mk' (j:=((K.take (j+1)).map (putN O)).length) (zs:=((K.take (j+1)).map (putN O)).flatMap Spot.c) (by simp only[maxLen,List.length_map,List.length_take];omega) (by simp;omega) (by rw[hsn];simp) (by rw[hsn];simp[zbl,cellsOf]) ?_
  refine zd (m:=((j+1:Nat):Int)) (by omega) (by omega) ?_
  exact⟨j+1,hj',by omega,zac [(0,0),(1,1),(2,2),(3,_),(4,4)] rfl ⟨rfl,rfl,rfl,cr,cr,cr,trivial⟩ ⟨(bC bZ),zae zero4,cvc (zbk _) (cvc (zbk _) (cvc rfl (cvc rfl rfl))),⟨rfl,rfl,rfl,rfl,zn _⟩,⟨rfl,rfl,rfl,rfl,zn _⟩,trivial⟩⟩
 simp only[zb]at h
 rw[List.take_of_length_le (by omega)]
 clear h hj
 refine ze (z1a (zbx H)) ?_
 refine ze kH ?_
 refine Vloop.mk' (λj:Nat=>{F:=[(1, .own 0),(2, .own 1),(3, .own 2),(38, .r (is M)),(39, .r (I M.length)),(40, .r (I j))],O:=[(0,some (pbox leaves own O H)),(1,some (.box (zero4.map .r))),(2,some (.box [.r (I leaves), .r (I own), .own 3, .own 4])),(3,some (zc3 (K.map (putN O)))),(4,some (zda ((M.take j).map (putH H))))],nx:=5})
  (λj=>j<=M.length) (λj=>M.length-j) 0 (by omega)
  (zac [(0,0),(1,1),(2,2),(3,3),(4,4)] rfl ⟨rfl,rfl,rfl,cr,cr,cr,trivial⟩ ⟨(bC bZ),zae zero4,cvc (zbk _) (cvc (zbk _) (cvc rfl (cvc rfl rfl))),⟨rfl,rfl,rfl,rfl,zn _⟩,⟨rfl,rfl,rfl,rfl,zn _⟩,trivial⟩) ?_
 intro j hj
 refine zh (λh=>zq ?_) (λh=>zt ?_)
 ·simp only[zb]at h
  have hj':j<M.length:=by omega
  obtain⟨s,hs,hfs⟩:=hMm M[j] (List.getElem_mem hj')
  have hsl:=hHl s hs
  refine zm (by omega) (by omega) (zaj rfl hj') (zg rfl ?_)
  refine Vdraw.code (Vcode.float mixed Tab_ok 10 [⟨0,44, .adr 2 3,[]⟩,⟨1,45, .own 4,[0]⟩,⟨2,46, .r (I M[j]),[]⟩,⟨5,49, .r (I M[j]),[]⟩] [(3,[]),(4,[]),(6,[5]),(7,[]),(8,[2]),(9,[])] (by kernel_rfl) (F:=[(1, .own 0),(2, .own 1),(3, .own 2),(7, .r (I M[j])),(38, .r (is M)),(39, .r (I M.length)),(40, .r (I j))]) (O:=[(0,some (pbox leaves own O H)),(1,some (.box (zero4.map .r))),(2,some (.box [.r (I leaves), .r (I own), .own 3, .own 4])),(3,some (zc3 (K.map (putN O)))),(4,some (zda ((M.take j).map (putH H))))]) (nx:=5) (zac [(0,0),(1,1),(2,2),(3,3),(4,4)] rfl ⟨rfl,rfl,rfl,cr,cr,cr,cr,trivial⟩ ⟨(bC bZ),zae zero4,cvc (zbk _) (cvc (zbk _) (cvc rfl (cvc rfl rfl))),⟨rfl,rfl,rfl,rfl,zn _⟩,⟨rfl,rfl,rfl,rfl,zn _⟩,trivial⟩) ?_)
  refine⟨rfl,⟨λY=>zo _,λY=>zo _,λY=>zo _,λY=>zo _,trivial⟩,(47, .adr 0 3)::[(1, .own 0),(2, .own 1),(3, .own 2),(7, .r (I M[j])),(38, .r (is M)),(39, .r (I M.length)),(40, .r (I j))],[(0,some (pbox leaves own O H)),(1,some (.box (zero4.map .r))),(2,some (.box [.r (I leaves), .r (I own), .own 3, .own 4])),(3,some (zc3 (K.map (putN O)))),(4,some (zda ((M.take j).map (putH H))))],5,λY=>zo _,?_⟩
  refine⟨rfl,⟨λY=>zo _,λY=>zo _,λY=>zo _,λY=>zo _,trivial⟩,(48, .r (.s (mapS (zbx H))))::(47, .adr 0 3)::[(1, .own 0),(2, .own 1),(3, .own 2),(7, .r (I M[j])),(38, .r (is M)),(39, .r (I M.length)),(40, .r (I j))],[(0,some (pbox leaves own O H)),(1,some (.box (zero4.map .r))),(2,some (.box [.r (I leaves), .r (I own), .own 3, .own 4])),(3,some (zc3 (K.map (putN O)))),(4,some (zda ((M.take j).map (putH H))))],5,λY=>zo _,?_⟩
  refine⟨rfl,⟨λY=>zo _,λY=>zo _,λY=>zo _,λY=>zo _,trivial⟩,(50, .r (bs s.hash))::(48, .r (.s (mapS (zbx H))))::(47, .adr 0 3)::[(1, .own 0),(2, .own 1),(3, .own 2),(7, .r (I M[j])),(38, .r (is M)),(39, .r (I M.length)),(40, .r (I j))],[(0,some (pbox leaves own O H)),(1,some (.box (zero4.map .r))),(2,some (.box [.r (I leaves), .r (I own), .own 3, .own 4])),(3,some (zc3 (K.map (putN O)))),(4,some (zda ((M.take j).map (putH H))))],5,λY=>Vstep.hash1 rfl rfl rfl (λn hn=>by rw[hfs]at hn;cases hn;exact zo _) (λhn=>by rw[hfs]at hn;cases hn),?_⟩
  refine⟨rfl,⟨λY=>zo _,λY=>zo _,λY=>zo _,λY=>zo _,trivial⟩,(51, .own 5)::(50, .r (bs s.hash))::(48, .r (.s (mapS (zbx H))))::(47, .adr 0 3)::[(1, .own 0),(2, .own 1),(3, .own 2),(7, .r (I M[j])),(38, .r (is M)),(39, .r (I M.length)),(40, .r (I j))],(5,some (.ch 5 1 s.hash.length (s.hash.map U8) true))::[(0,some (pbox leaves own O H)),(1,some (.box (zero4.map .r))),(2,some (.box [.r (I leaves), .r (I own), .own 3, .own 4])),(3,some (zc3 (K.map (putN O)))),(4,some (zda ((M.take j).map (putH H))))],6,λY=>ze (zcj s.hash (by omega)) (zo _),?_⟩
  refine⟨rfl,⟨λY=>zo _,λY=>zo _,λY=>zo _,λY=>zo _,trivial⟩,(52, .r (.ag (Stub.c ⟨M[j],s.hash⟩)))::(51, .own 5)::(50, .r (bs s.hash))::(48, .r (.s (mapS (zbx H))))::(47, .adr 0 3)::[(1, .own 0),(2, .own 1),(3, .own 2),(7, .r (I M[j])),(38, .r (is M)),(39, .r (I M.length)),(40, .r (I j))],(5,some (.ch 5 1 s.hash.length (s.hash.map U8) true))::[(0,some (pbox leaves own O H)),(1,some (.box (zero4.map .r))),(2,some (.box [.r (I leaves), .r (I own), .own 3, .own 4])),(3,some (zc3 (K.map (putN O)))),(4,some (zda ((M.take j).map (putH H))))],6,λY=>zo _,?_⟩
  refine⟨rfl,⟨λY=>zo _,λY=>zo _,λY=>zo _,λY=>zo _,trivial⟩,(53, .own 6)::(52, .r (.ag (Stub.c ⟨M[j],s.hash⟩)))::(51, .own 5)::(50, .r (bs s.hash))::(48, .r (.s (mapS (zbx H))))::(47, .adr 0 3)::[(1, .own 0),(2, .own 1),(3, .own 2),(7, .r (I M[j])),(38, .r (is M)),(39, .r (I M.length)),(40, .r (I j))],(6,some (.ch 134 2 1 (Stub.c ⟨M[j],s.hash⟩) true))::(5,some (.ch 5 1 s.hash.length (s.hash.map U8) true))::[(0,some (pbox leaves own O H)),(1,some (.box (zero4.map .r))),(2,some (.box [.r (I leaves), .r (I own), .own 3, .own 4])),(3,some (zc3 (K.map (putN O)))),(4,some (zda ((M.take j).map (putH H))))],7,λY=>zy (zo _),?_⟩
  refine⟨rfl,⟨λY=>zo _,λY=>zo _,λY=>zo _,λY=>zo _,trivial⟩,?_⟩
  have hsn:(M.take (j+1)).map (putH H)=(M.take j).map (putH H)++[⟨M[j],s.hash⟩]:=by
   rw[List.take_succ_eq_append_getElem hj',List.map_append]
   simp[putH,(ze8 hfs).1]
  refine Vapp.mk' (j:=((M.take (j+1)).map (putH H)).length) (zs:=((M.take (j+1)).map (putH H)).flatMap Stub.c) (by simp only[maxLen,List.length_map,List.length_take];omega) (by simp;omega) (by rw[hsn];simp) (by rw[hsn];simp[zbl,cellsOf,bs]) ?_
  refine zd (m:=((j+1:Nat):Int)) (by omega) (by omega) ?_
  exact⟨j+1,hj',by omega,zac [(0,0),(1,1),(2,2),(3,3),(4,_)] rfl ⟨rfl,rfl,rfl,cr,cr,cr,trivial⟩ ⟨(bC bZ),zae zero4,cvc (zbk _) (cvc (zbk _) (cvc rfl (cvc rfl rfl))),⟨rfl,rfl,rfl,rfl,zn _⟩,⟨rfl,rfl,rfl,rfl,zn _⟩,trivial⟩⟩
 simp only[zb]at h
 rw[List.take_of_length_le (by omega)]
 clear h hj
 refine za rfl rfl ?_
 refine za rfl rfl ?_
 exact zf rfl
theorem zfs{S:St}{id i im gh:Nat}{m:Value}{ents:List (Int×RV)}{cells:List TF}(ho:oget S.O im=some (.gen (mapO ents)))(hgh:fget S.F gh=some (.nm im m))(hb:oget S.O id=some (.box cells))(hc:cells[i]?=some (.r (.x m)))(hne:id≠im):
  Sub S ⟨S.F,(id,some (.box (cells.set i (.r (.s (mapS ents))))))::(im,none)::S.O,S.nx⟩:=by
 intro B N a w k h0
 obtain⟨k',⟨g,hs⟩,hat,_⟩:=z0p ho hgh h0
 have hid:oget ((im,none)::S.O) id=some (.box cells):=by
  simp only[oget]
  split
  ·rename_i hb;exact absurd (Nat.eq_of_beq_eq_true hb).symm hne
  ·exact hb
 have old: ∀x ox,oget ((id,some (Ow.box (cells.set i (.r (.s (mapS ents))))))::(im,none)::S.O) x=some ox->∃ox',oget ((im,none)::S.O) x=some ox':=λx ox hx=>by
  rcases zav hx with⟨rfl,_⟩ |⟨_,h'⟩
  ·exact⟨_,hid⟩
  ·exact⟨_,h'⟩
 refine⟨k',g,hs.size,hs.defers,hs.keep,hs.kk,hs.facts,λj o' ho'=>?_,λx y ox oy b hx hy hne hb=>?_⟩
 ·rcases zav ho' with⟨rfl,e'⟩ |⟨_,h'⟩
  ·cases e'
   obtain⟨q1,q2,q3,q4⟩:=hs.owns _ _ hid
   refine⟨q1,λf hf=>?_,?_,q4⟩
   ·rcases List.mem_or_eq_of_mem_set hf with hf |rfl
    ·exact q2 f hf
    ·exact True.intro
   ·obtain⟨b,cur,t,e1,e2,e3,e4,e5⟩:=q3
    refine⟨b,cur,t,e1,e2,e3,by simpa using e4,λj f u hf hu=>?_⟩
    rw[List.getElem?_set]at hf
    split at hf
    ·rename_i hij
     subst hij
     split at hf
     ·cases hf
      obtain⟨u1,u2⟩:=e5 i _ u hc hu
      simp only[TF.at_,RV.at_]at u2
      refine⟨u1,?_⟩
      simp only[TF.at_]
      rw[u2]
      exact hat
     ·cases hf
    ·exact e5 j f u hf hu
  ·exact hs.owns j o' h'
 ·obtain⟨ox',hx'⟩:=old x ox hx
  obtain⟨oy',hy'⟩:=old y oy hy
  exact hs.apart x y ox' oy' b hx' hy' hne hb
abbrev zyz:RV:= .ag [I 0,I 0, .x (.map none), .x (.map none)]
def zef(a:Int):List Int->Int
 |[]=>a
 |x::r=>zef x r
def ascL(a:Int):List Int->Bool
 |[]=>true
 |x::r=>decide (a<x)&&ascL x r
theorem zl3(x:Int): ∀(l:List Int) (a:Int),zef a (l++[x])=x
 |[],a=>rfl
 |y::r,a=>by simp only[List.cons_append,zef];exact zl3 x r y
theorem zif(x:Int): ∀(l:List Int) (a:Int),ascL a (l++[x])=(ascL a l&&decide (zef a l<x))
 |[],a=>by show(decide (a<x)&&true)=(true&&decide (a<x));rw[Bool.and_true,Bool.true_and]
 |y::r,a=>by show(decide (a<y)&&ascL y (r++[x]))=((decide (a<y)&&ascL y r)&&decide (zef y r<x));rw[zif x r y,Bool.and_assoc]
theorem zqj: ∀(l m:List Int) (a:Int),ascL a (l++m)=(ascL a l&&ascL (zef a l) m)
 |[],m,a=>by show ascL a m=(true&&ascL a m);rw[Bool.true_and]
 |y::r,m,a=>by show(decide (a<y)&&ascL y (r++m))=((decide (a<y)&&ascL y r)&&ascL (zef y r) m);rw[zqj r m y,Bool.and_assoc]
theorem z0y: ∀(l:List Int) (a:Int),ascL a l=true->a<=zef a l/\∀y∈l,a<y/\y<=zef a l
 |[],a,_=>⟨Int.le_refl _,λy h=>by cases h⟩
 |x::r,a,h=>by
  simp only[ascL,Bool.and_eq_true,decide_eq_true_eq]at h
  obtain⟨h1,h2⟩:=z0y r x h.2
  refine⟨by simp only[zef];omega,λy hy=>?_⟩
  simp only[zef]
  rcases List.mem_cons.1 hy with rfl |hy
  ·exact⟨h.1,h1⟩
  ·have:=h2 y hy
   exact⟨by omega,this.2⟩
theorem zw7{l:List Int}{a x:Int}(h:ascL a l=true)(hx:zef a l<x):x∉l:=λhm=>by
 have:=((z0y l a h).2 x hm).2
 omega
theorem zj0: ∀{ents:List (Int×RV)} {n:Int},n∉ents.map (·.1)->zc6 ents n=none
 |[],n,_=>rfl
 |(m,r)::l,n,h=>by
  simp only[List.map_cons,List.mem_cons,not_or]at h
  simp only[zc6]
  rw[if_neg (λe=>h.1 e.symm)]
  exact zj0 h.2
theorem zgp{α β:Type}(f:α->β){l:List α}{j:Nat}(h:j<l.length):(l.take (j+1)).map f=(l.take j).map f++[f l[j]]:=by
 rw[List.take_succ_eq_append_getElem h,List.map_append];rfl
def atsO(s:Lean_):List Int:=s.opn.map (·.at_)
def atsH(s:Lean_):List Int:=s.shut.map (·.at_)
def ascS(s:Lean_):Bool:=ascL (-1) (atsO s)&&ascL (-1) (atsH s)
def lean0:Lean_:=⟨0,0,[],[]⟩
def pieS(s:Lean_):Lean_:=if ascS s=true then s else lean0
abbrev Lean_.pr(s:Lean_):RV:=zy0 s.leaves s.own s.opn s.shut
theorem z8j:Cv zyz lean0.pr:=Cv.ag (zk (cr) (zk (cr) (zk (λw k v h=>by simp only[RV.at_]at h⊢;exact .inl ⟨h,rfl⟩) (zk (λw k v h=>by simp only[RV.at_]at h⊢;exact .inl ⟨h,rfl⟩) Cvs.nil))))
structure Lean_.bd (s:Lean_):Prop where
 nl:i64 s.leaves
 no:i64 s.own
 lo:s.opn.length<=1000000
 lh:s.shut.length<=1000000
 ao: ∀x∈s.opn,i64 x.at_
 ah: ∀x∈s.shut,i64 x.at_
 fo: ∀x∈s.opn,x.node.fit
 fh: ∀x∈s.shut,x.hash.length<=1000000000
abbrev pmO(b1 b2:Nat)(s:Lean_)(j i:Nat):List (Nat×Option Ow):=[(0,some (.box (s.c.map .r))),(1,some (.box [.r (I 0), .r (I 0), .r (.x (.map none)), .r (.x (.map none))])),(2,some (.gen (mapO (zby (s.opn.take j))))),(3,some (.gen (mapO (zbx (s.shut.take i))))),(4,some (.box [.r (I s.leaves), .r (I s.own), .r (.x (.map (some b1))), .r (.x (.map (some b2)))]))]
set_option maxHeartbeats 4000000 in
theorem z6i(s:Lean_)(hb:s.bd):bG 116 [.ag s.c] (.r (.tu [(pieS s).pr, .b (ascS s)])):=by
 refine zar (T:=Tab) mixed Tab_ok Tryz.func116 rfl (by kernel_rfl) ?_
 have hlo:=hb.lo
 have hlh:=hb.lh
 have bad:ascS s=false->Cv (.tu [zyz, .b false]) (.tu [(pieS s).pr, .b (ascS s)]):=λh=>by
  have:pieS s=lean0:=by unfold pieS;rw[h];simp
  rw[this,h]
  exact Cv.tu (zk z8j (zn _))
 refine Vcode.run Tab_ok ?_
 refine Vstep.mapMk 2000001 rfl λb1=>?_
 refine Vstep.mapMk 2000002 rfl λb2=>?_
 refine Vloop.mkx (λj:Nat=>⟨[(1, .own 0),(2, .own 1),(4, .own 4),(5, .r (I (zef (-1) ((s.opn.take j).map (·.at_))))),(18, .r (zcw s.opn)),(19, .r (I s.opn.length)),(20, .r (I j)),(2000001, .nm 2 (.map (some b1))),(2000002, .nm 3 (.map (some b2)))],pmO b1 b2 s j 0,5⟩) (λj=>j<=s.opn.length/\ascL (-1) ((s.opn.take j).map (·.at_))=true) (λj=>s.opn.length-j) 0 ⟨by omega,rfl⟩ (zac [(0,0),(1,1),(2,2),(3,3),(4,4)] rfl ⟨rfl,rfl,rfl,cr,cr,cr,cr,⟨rfl,rfl⟩,⟨rfl,rfl⟩,trivial⟩ ⟨(bC bZ),(bC bZ),λ_ _ _ hh=>hh,λ_ _ _ hh=>hh,(bC bZ),trivial⟩) ?_
 rintro j ⟨hj,hasc⟩
 refine zh (λh=>zq ?_) (λh=>zt ?_)
 ·simp only[zb]at h
  have hj':j<s.opn.length:=by omega
  have hai:=hb.ao s.opn[j] (List.getElem_mem hj')
  have hsn:=zgp Spot.at_ hj'
  refine zm (by omega) (by omega) (zhp (f:=Spot.c) (λ_=>rfl) rfl hj') ?_
  refine za rfl rfl ?_
  refine zh (λh2=>zq ?_) (λh2=>zt ?_)
  ·simp only[zb]at h2
   refine⟨_,zo _,?_⟩
   refine⟨_,zo _,?_⟩
   refine za rfl rfl ?_
   have hf:ascS s=false:=by
    have e:atsO s=((s.opn.take (j+1)).map (·.at_))++(s.opn.drop (j+1)).map (·.at_):=by unfold atsO;rw[<-List.map_append,List.take_append_drop]
    have h3:decide (zef (-1) ((s.opn.take j).map (·.at_))<s.opn[j].at_)=false:=decide_eq_false (by omega)
    unfold ascS
    rw[e,zqj,hsn,zif,h3]
    simp
   exact⟨_,rfl,bad hf⟩
  ·simp only[zb]at h2
   have hlt:zef (-1) ((s.opn.take j).map (·.at_))<s.opn[j].at_:=by omega
   refine za rfl rfl ?_
   have hk:(zby (s.opn.take j)).map (·.1)=(s.opn.take j).map (·.at_):=zi6 _
   refine Vstep.mapPut 2 2000001 rfl rfl rfl rfl rfl rfl rfl zjp zje (zj0 (by rw[hk];exact zw7 hasc hlt)) ?_
   refine zd (m:=((j+1:Nat):Int)) (by omega) (by omega) ?_
   have hsN:zby (s.opn.take (j+1))=zby (s.opn.take j)++[(s.opn[j].at_, .ag s.opn[j].node.c)]:=zgp _ hj'
   refine⟨j+1,⟨by omega,by rw[hsn,zif,hasc,decide_eq_true hlt];rfl⟩,by omega,zac [(0,0),(1,1),(2,2),(3,3),(4,4)] rfl ⟨rfl,rfl,rfl,zf (by rw[hsn,zl3]),cr,cr,cr,⟨rfl,rfl⟩,⟨rfl,rfl⟩,trivial⟩ ⟨(bC bZ),(bC bZ),λ_ _ _ hh=>by rw[hsN];exact hh,λ_ _ _ hh=>hh,(bC bZ),trivial⟩⟩
 simp only[zb]at h
 rw[List.take_of_length_le (by omega)]at hasc
 refine⟨_,zo _,?_⟩
 refine Vloop.mkx (λi:Nat=>⟨[(1, .own 0),(2, .own 1),(4, .own 4),(5, .r (I (zef (-1) ((s.shut.take i).map (·.at_))))),(39, .r (zcwb s.shut)),(40, .r (I s.shut.length)),(41, .r (I i)),(2000001, .nm 2 (.map (some b1))),(2000002, .nm 3 (.map (some b2)))],pmO b1 b2 s s.opn.length i,5⟩) (λi=>i<=s.shut.length/\ascL (-1) ((s.shut.take i).map (·.at_))=true) (λi=>s.shut.length-i) 0 ⟨by omega,rfl⟩ (zac [(0,0),(1,1),(2,2),(3,3),(4,4)] rfl ⟨rfl,rfl,rfl,cr,cr,cr,cr,⟨rfl,rfl⟩,⟨rfl,rfl⟩,trivial⟩ ⟨(bC bZ),(bC bZ),λ_ _ _ hh=>by rw[List.take_of_length_le (Nat.le_refl _)];rw[List.take_of_length_le (by omega)]at hh;exact hh,λ_ _ _ hh=>hh,(bC bZ),trivial⟩) ?_
 clear h hj
 rintro i ⟨hi,hasc2⟩
 refine zh (λh=>zq ?_) (λh=>zt ?_)
 ·simp only[zb]at h
  have hi':i<s.shut.length:=by omega
  have hsn:=zgp Stub.at_ hi'
  refine zm (by omega) (by omega) (zhp (f:=Stub.c) (λ_=>rfl) rfl hi') ?_
  refine za rfl rfl ?_
  refine zh (λh2=>zq ?_) (λh2=>zt ?_)
  ·simp only[zb]at h2
   refine⟨_,zo _,?_⟩
   refine⟨_,zo _,?_⟩
   refine za rfl rfl ?_
   have hf:ascS s=false:=by
    have e:atsH s=((s.shut.take (i+1)).map (·.at_))++(s.shut.drop (i+1)).map (·.at_):=by unfold atsH;rw[<-List.map_append,List.take_append_drop]
    have h3:decide (zef (-1) ((s.shut.take i).map (·.at_))<s.shut[i].at_)=false:=decide_eq_false (by omega)
    unfold ascS
    rw[e,zqj,hsn,zif,h3]
    simp
   exact⟨_,rfl,bad hf⟩
  ·simp only[zb]at h2
   have hlt:zef (-1) ((s.shut.take i).map (·.at_))<s.shut[i].at_:=by omega
   have hk:(zbx (s.shut.take i)).map (·.1)=(s.shut.take i).map (·.at_):=zi3 _
   refine Vstep.mapPut 3 2000002 rfl rfl rfl rfl rfl rfl rfl zmv zje (zj0 (by rw[hk];exact zw7 hasc2 hlt)) ?_
   refine zd (m:=((i+1:Nat):Int)) (by omega) (by omega) ?_
   have hsN:zbx (s.shut.take (i+1))=zbx (s.shut.take i)++[(s.shut[i].at_,bs s.shut[i].hash)]:=zgp _ hi'
   refine⟨i+1,⟨by omega,by rw[hsn,zif,hasc2,decide_eq_true hlt];rfl⟩,by omega,zac [(0,0),(1,1),(2,2),(3,3),(4,4)] rfl ⟨rfl,rfl,rfl,zf (by rw[hsn,zl3]),cr,cr,cr,⟨rfl,rfl⟩,⟨rfl,rfl⟩,trivial⟩ ⟨(bC bZ),(bC bZ),λ_ _ _ hh=>hh,λ_ _ _ hh=>by rw[hsN];exact hh,(bC bZ),trivial⟩⟩
 simp only[zb]at h
 rw[List.take_of_length_le (by omega)]at hasc2
 refine⟨_,zo _,?_⟩
 refine za rfl rfl ?_
 have hT:ascS s=true:=by unfold ascS atsO atsH;rw[hasc,hasc2];rfl
 have hP:pieS s=s:=if_pos hT
 rw[hT,hP]
 refine⟨_,Sub.trans (zfs (id:=1) (i:=2) (im:=2) (gh:=2000001) rfl rfl rfl rfl (by decide)) (zfs (id:=1) (i:=3) (im:=3) (gh:=2000002) rfl rfl rfl rfl (by decide)),?_⟩
 refine za rfl rfl ?_
 exact⟨_,rfl,zf (by rw[List.take_of_length_le (Nat.le_refl _),List.take_of_length_le (by omega)];rfl)⟩
def sR(s:Lean_):Bool:=ascS s&&zep s.leaves s.own s.opn s.shut false
theorem ze6b{s:Lean_}(hb:s.bd):(pieS s).bd:=by
 unfold pieS
 split
 ·exact hb
 ·exact⟨(by unfold i64 lean0;decide),(by unfold i64 lean0;decide),(by decide),(by decide),λx h=>(by cases h),λx h=>(by cases h),λx h=>(by cases h),λx h=>(by cases h)⟩
set_option maxHeartbeats 1000000 in
theorem zuz(s:Lean_)(hb:s.bd):bG 70 [.ag s.c] (.r (.tu [(pieS s).pr, .b (sR s)])):=by
 refine bT Tryz.func70 rfl ?_
 have hp:=ze6b hb
 have e0:ascS s=false->sR s=false:=λh=>by unfold sR;rw[h];rfl
 have e1:ascS s=true->sR s=zep (pieS s).leaves (pieS s).own (pieS s).opn (pieS s).shut false:=λh=>by unfold sR pieS;rw[h];rfl
 refine za rfl rfl ?_
 refine ze (z6i s hb) ?_
 obtain⟨β,hβ⟩: ∃β,β=ascS s:=⟨_,rfl⟩
 rw[<-hβ]at e0 e1⊢
 generalize pieS s=q at hp e1⊢
 cases β with
 |false=>
  rw[e0 rfl]
  refine bV ?_
  refine za rfl rfl ?_
  refine za rfl rfl ?_
  exact⟨_,rfl,cr⟩
 |true=>
  rw[e1 rfl]
  refine bV ?_
  refine za rfl rfl ?_
  refine za rfl rfl ?_
  refine ze (z90 q.leaves q.own hp.nl hp.no q.opn q.shut false hp.lo hp.lh hp.fo hp.ao hp.ah hp.fh) ?_
  refine za rfl rfl ?_
  exact⟨_,rfl,cr⟩
theorem zihb{s:Lean_}(h:sR s=true):pieS s=s:=by
 unfold sR at h
 simp only[Bool.and_eq_true]at h
 exact if_pos h.1
end Go.Proofs.YtoegdgbghdnnfaaGreat.Sx
