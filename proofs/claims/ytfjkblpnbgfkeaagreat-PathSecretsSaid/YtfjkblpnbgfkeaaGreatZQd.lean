import Derived.Test.YtfjkblpnbgfkeaaGreatZTj
import Derived.Test.YtfjkblpnbgfkeaaGreatZFd
import Derived.Test.YtfjkblpnbgfkeaaGreatZTm
import Derived.Test.YtfjkblpnbgfkeaaGreatZTi
import Derived.Test.YtfjkblpnbgfkeaaGreatZMk
import Derived.Test.YtfjkblpnbgfkeaaGreatZKe
import Derived.Test.YtfjkblpnbgfkeaaGreatZSxSt
import Derived.Shelf.RegionOpenPlain
import Derived.Lib.Walk
import Derived.Lib.SliceRun
import Derived.Lib.Overlaps
import Derived.Laws.Externs
import Derived.Laws.IdiomCopy
import Derived.Lib.AppendZerosOnto
import Derived.Laws.NewBlocks
import Derived.Test.YtfjkblpnbgfkeaaGreatZEc
namespace Go.Proofs.YtfjkblpnbgfkeaaGreat.Sx
open Go.RowKit
set_option linter.unusedVariables false
section
set_option maxHeartbeats 4000000 in
theorem z7a(leaves own:Int)(O:List Spot)(H:List Stub)(p0:Value)(hO: ∀x n,zay O x=some n->n.par.late.length<=100000000/\∀u∈n.par.late,zb9 u)(d:Nat)(hd:d<=16)(n i:Int)(hn:n=((2^d:Nat):Int))(hi0:0<=i/\i<65536)(only:Bool)(r:V3)(hr:r=visV O i only d 0 0 []):
  Acts Tryz.prog 172 1 [(0,pbox leaves own O H)] [.r (I n), .r (I i), .r (.b only), .r (.x (.func (.func 173) #[] #[p0]))] [(0,p0)] 11 [(0,pbox leaves own O H)] (.r (.tu [is r.1,is r.2.1, .b r.2.2])):=by
 refine zb4 (T:=Tab) mixed Tab_ok Tryz.func172 rfl (by kernel_rfl) rfl ⟨⟨_,_,rfl,rfl,zax,zax⟩,trivial⟩ ?_
 have hroot:zlo n=(nd d 0:Int):=by
  have hfit:zbj n=true:=by rw[hn];exact zi1 d hd
  unfold zlo
  rw[if_pos hfit,zr8,hn]
 have hp:2^(d+1)<=131072:=Nat.pow_le_pow_right (n:=2) (by omega) (show d+1<=17 by omega)
 refine Vstep.nm 1 1000001 rfl λp1=>Vstep.nm 7 1000007 rfl λp7=>Vstep.nm 2 1000002 rfl λp2=>Vstep.nm 5 1000005 rfl λp5=>Vstep.mkfunX [p1,p7,p2,p5] rfl ⟨_,_,rfl,⟨1,1000001,rfl,rfl⟩,_,_,rfl,⟨7,1000007,rfl,rfl⟩,_,_,rfl,⟨2,1000002,rfl,rfl⟩,_,_,rfl,⟨5,1000005,rfl,rfl⟩,rfl⟩ ?_
 refine Vstep.nm 3 1000003 rfl λp3=>Vstep.nm 6 1000006 rfl λp6=>Vstep.nm 8 1000008 rfl λp8=>Vstep.nm 4 1000004 rfl λp4=>Vstep.mkfunX [p3,p6,p8,p4] rfl ⟨_,_,rfl,⟨3,1000003,rfl,rfl⟩,_,_,rfl,⟨6,1000006,rfl,rfl⟩,_,_,rfl,⟨8,1000008,rfl,rfl⟩,_,_,rfl,⟨4,1000004,rfl,rfl⟩,rfl⟩ ?_
 obtain⟨c,hc⟩: ∃c:VC,c=⟨leaves,own,O,H,i,only,p0,p1,p2,p3,p4,p5,p6,p7,p8⟩:=⟨_,rfl⟩
 refine Vdraw.cut 3 (by kernel_rfl) ?_
 refine ze (zdlb n) ?_
 rw[hroot]
 have hvis:=(VC.visit ⟨leaves,own,O,H,i,only,p0,p1,p2,p3,p4,p5,p6,p7,p8⟩ hO hi0 d hd) 0 0 [] [] [] true (Nat.pow_pos (by omega)) (by simp) (by simp) (by simp only[List.length_nil];omega) (by simp only[List.length_nil];omega)
 simp only at hvis
 rw[<-hr,List.nil_append,List.nil_append,Bool.true_and]at hvis
 refine Vstep.sub (Sub.trans (zbe false 4 0 3 1 rfl rfl) (zbe false 5 0 3 1 rfl rfl)) ?_
 refine zj [(0,0),(1,1),(2,2),(3,3),(4,4),(5,5),(6,6),(7,7),(8,8),(9,9),(10,10)] [0,1,2,3,4,5,6,7,8] (λvs hv=>zc6 (by simp only[List.map];rw[hv 0 0 1000000 _ rfl rfl,hv 1 1 1000001 _ rfl rfl,hv 2 2 1000002 _ rfl rfl,hv 3 3 1000003 _ rfl rfl,hv 4 4 1000004 _ rfl rfl,hv 5 5 1000005 _ rfl rfl,hv 6 6 1000006 _ rfl rfl,hv 7 7 1000007 _ rfl rfl,hv 8 8 1000008 _ rfl rfl];rfl) hvis) (Handed.clo (fs:=[.r (I _), .r (I _), .r (is [])]) (cs:=[.own 3, .own 6, .own 8, .own 4]) rfl rfl ⟨_,_,rfl,cr,_,_,rfl,cr,_,_,rfl,Cv.nil 1,rfl⟩ ⟨_,_,rfl,⟨3,1000003,rfl,rfl⟩,_,_,rfl,⟨6,1000006,rfl,rfl⟩,_,_,rfl,⟨8,1000008,rfl,rfl⟩,_,_,rfl,⟨4,1000004,rfl,rfl⟩,rfl⟩) rfl ⟨⟨_,_,rfl,cr,_,_,rfl,cr,_,_,rfl,cr,_,_,rfl,cr,rfl⟩,⟨_,_,rfl,cr,rfl⟩,⟨_,_,rfl,cr,rfl⟩,⟨_,_,rfl,cr,rfl⟩,⟨_,_,rfl,rfl,rfl⟩,⟨_,_,rfl,rfl,rfl⟩,⟨_,_,rfl,cr,rfl⟩,⟨_,_,rfl,cr,rfl⟩,⟨_,_,rfl,cr,rfl⟩,⟨rfl,rfl,rfl,rfl,zn _⟩,⟨rfl,rfl,rfl,rfl,zn _⟩,trivial⟩ ⟨zae,zae,zae,zae,zae,zae,zae,zae,zae,zba,zba,trivial⟩ ?_
 refine Vdraw.code (Vcode.float mixed Tab_ok 5 [⟨0,19, .own 9,[]⟩,⟨1,20, .own 10,[]⟩,⟨2,21, .r (.b r.2.2),[]⟩] [(3,[0]),(4,[1])] (by kernel_rfl) (F:=[(8, .own 4),(9, .own 5),(10, .own 6),(1000000, .nm 0 p0)]) (O:=[(0,some (pbox leaves own O H)),(4,some (.box [.own 9])),(5,some (.box [.own 10])),(6,some (.box [.r (.b r.2.2)])),(9,some (.ch 3 1 r.1.length (r.1.map I) false)),(10,some (.ch 3 1 r.2.1.length (r.2.1.map I) false))]) (nx:=11) (zac [(0,0),(4,4),(5,5),(6,6),(9,20),(10,21)] rfl ⟨rfl,rfl,rfl,⟨rfl,rfl⟩,trivial⟩ ⟨⟨_,_,rfl,cr,_,_,rfl,cr,_,_,rfl,cr,_,_,rfl,cr,rfl⟩,⟨_,_,rfl,rfl,rfl⟩,⟨_,_,rfl,rfl,rfl⟩,⟨_,_,rfl,cr,rfl⟩,⟨rfl,rfl,rfl,rfl,zn _⟩,⟨rfl,rfl,rfl,rfl,zn _⟩,trivial⟩) ?_)
 refine⟨rfl,⟨λY=>zo _,λY=>zo _,λY=>zo _,trivial⟩,[(8, .own 4),(9, .own 5),(10, .own 6),(1000000, .nm 0 p0)],(4,some (.box [.own 9]))::[(0,some (pbox leaves own O H)),(4,some (.box [.own 9])),(5,some (.box [.own 10])),(6,some (.box [.r (.b r.2.2)])),(9,some (.ch 3 1 r.1.length (r.1.map I) false)),(10,some (.ch 3 1 r.2.1.length (r.2.1.map I) false))],11,λY=>zo _,?_⟩
 refine⟨rfl,⟨λY=>zo _,λY=>zo _,λY=>zo _,trivial⟩,[(8, .own 4),(9, .own 5),(10, .own 6),(1000000, .nm 0 p0)],(5,some (.box [.own 10]))::(4,some (.box [.own 9]))::[(0,some (pbox leaves own O H)),(4,some (.box [.own 9])),(5,some (.box [.own 10])),(6,some (.box [.r (.b r.2.2)])),(9,some (.ch 3 1 r.1.length (r.1.map I) false)),(10,some (.ch 3 1 r.2.1.length (r.2.1.map I) false))],11,λY=>zo _,?_⟩
 refine⟨rfl,⟨λY=>zo _,λY=>zo _,λY=>zo _,trivial⟩,?_⟩
 refine zalb (Sub.trans (zbw (id:=9) rfl) (zbw (id:=10) rfl)) ?_
 exact zbx (.inl rfl) [(0,0),(4,4),(5,5),(6,6),(9,9),(10,10)] [(8, .own 4),(9, .own 5),(10, .own 6)] [(4,some (.box [.own 9])),(5,some (.box [.own 10])),(6,some (.box [.r (.b r.2.2)])),(9,some (.ch 3 1 r.1.length (r.1.map I) true)),(10,some (.ch 3 1 r.2.1.length (r.2.1.map I) true))] rfl ⟨rfl,rfl,rfl,⟨rfl,rfl⟩,trivial⟩ ⟨⟨_,_,rfl,cr,_,_,rfl,cr,_,_,rfl,cr,_,_,rfl,cr,rfl⟩,⟨_,_,rfl,rfl,rfl⟩,⟨_,_,rfl,rfl,rfl⟩,⟨_,_,rfl,cr,rfl⟩,⟨rfl,rfl,rfl,rfl,zn _⟩,⟨rfl,rfl,rfl,rfl,zn _⟩,trivial⟩ ⟨⟨1000000,rfl⟩,trivial⟩ ⟨_,rfl,cr⟩
end
section
theorem zvh(l m:List Int)(hl:l.length<=1000000000)(hm:m.length<=1000000000):zab Tryz.prog 174 [is l,is m] (.r (.b (decide (l=m)))):=by
 refine zaa (T:=Tab) mixed Tab_ok Tryz.func174 rfl (by kernel_rfl) ?_
 by_cases hlen:l.length=m.length
 ·refine zu (by simp only[zb];omega) (zq ?_)
  refine zx (λi:Nat=>⟨[(0, .r (is l)),(1, .r (is m)),(12, .r (I l.length)),(13, .r (I i))],[],0⟩) (λi=>i<=l.length/\l.take i=m.take i) (λi=>l.length-i) 0 ⟨by omega,by simp⟩ (zac [] rfl ⟨cr,cr,cr,cr,trivial⟩ trivial) ?_
  rintro i ⟨hi,he⟩
  refine zh (λh=>zp ?_) (λh=>zq ?_)
  ·simp only[zb]at h
   have h1:i<l.length:=by omega
   have h2:i<m.length:=by omega
   refine Vdraw.mk' (by kernel_rfl) ?_
   refine zm (by omega) (by omega) (zak rfl h1) (zg rfl ?_)
   refine zm (by omega) (by omega) (zak rfl h2) (zg rfl ?_)
   refine zh (λh3=>zp ?_) (λh3=>zq ?_)
   ·simp only[zb]at h3
    refine zf (congrArg RV.b (Eq.symm ?_))
    rw[decide_eq_false_iff_not]
    intro e
    subst e
    exact h3 rfl
   ·simp only[zb]at h3
    refine zd (m:=((i+1:Nat):Int)) (by omega) (by omega) ?_
    refine⟨i+1,⟨h1,?_⟩,by omega,zac [] rfl ⟨cr,cr,cr,cr,trivial⟩ trivial⟩
    rw[List.take_succ_eq_append_getElem h1,List.take_succ_eq_append_getElem h2,he,h3]
  ·simp only[zb]at h
   refine zf (congrArg RV.b (Eq.symm ?_))
   rw[decide_eq_true_eq,<-List.take_of_length_le (show l.length<=i by omega),he,List.take_of_length_le (by omega)]
 ·refine zt (by simp only[zb];omega) (zp ?_)
  refine zf (congrArg RV.b (Eq.symm ?_))
  rw[decide_eq_false_iff_not]
  exactλe=>hlen (by rw[e])
def ziv(O:List Spot)(x:Int):Bool:=match zay O x with
 |some n=>decide (n.kind.toNat=1)
 |none=>false
def zee(leaves own:Int)(O:List Spot)(H:List Stub)(only:Bool):Bool:=
 zbj leaves&&(decide (0<=own)&&(decide (own<leaves)&&(ziv O (2*own)&&(O.all (λs=>zes s.at_ s.node)&&(H.all (λs=>decide (s.hash.length=32))&&
  ((visV O own only leaves.toNat.log2 0 0 []).2.2&&(decide ((visV O own only leaves.toNat.log2 0 0 []).1=zcw (O.map (·.at_)))&&decide ((visV O own only leaves.toNat.log2 0 0 []).2.1=zcw (H.map (·.at_))))))))))
abbrev z5e(leaves own:Int)(O:List Spot)(H:List Stub):RV:= .ag [I leaves,I own, .s (mapS (zdi O)), .s (mapS (zeg H))]
theorem zqo(O:List Spot):(zdi O).map (·.1)=O.map (·.at_):=by simp[zdi]
theorem zqb(H:List Stub):(zeg H).map (·.1)=H.map (·.at_):=by simp[zeg]
theorem zyn{α:Type}{p:α->Bool}{l:List α}(h: ∀j,j<l.length->∀x,l[j]?=some x->p x=true):l.all p=true:=by
 rw[List.all_eq_true]
 intro x hx
 obtain⟨j,hj⟩:=List.getElem?_of_mem hx
 exact h j (List.getElem?_eq_some_iff.1 hj).1 x hj
set_option maxHeartbeats 4000000 in
theorem z67(leaves own:Int)(hl:i64 leaves)(ho:i64 own)(O:List Spot)(H:List Stub)(only:Bool)(hOn:O.length<=1000000)(hHn:H.length<=1000000)(hOf: ∀s∈O,s.node.fit)(hOi: ∀s∈O,i64 s.at_)(hHi: ∀s∈H,i64 s.at_)(hHl: ∀s∈H,s.hash.length<=1000000000):
  zab Tryz.prog 114 [z5e leaves own O H, .b only] (.r (.b (zee leaves own O H only))):=by
 refine zaa (T:=Tab) mixed Tab_ok Tryz.func114 rfl (by kernel_rfl) ?_
 refine zy (zdjb leaves) (λhf=>zu rfl ?_) (λhf=>zt rfl (zp ?_))
 rotate_left
 ·exact zf (by simp[zee,hf,ofC])
 have hn:=ze8 hf
 refine zh (λh0=>zp ?_) (λh0=>?_)
 ·simp only[zb]at h0
  refine zf (congrArg RV.b (Eq.symm ?_))
  have: ¬0<=own:=by omega
  simp[zee,this]
 simp only[zb]at h0
 have h0':0<=own:=by omega
 refine zh (λh1=>zp ?_) (λh1=>?_)
 ·simp only[zb]at h1
  refine zf (congrArg RV.b (Eq.symm ?_))
  have: ¬own<leaves:=by omega
  simp[zee,this]
 simp only[zb]at h1
 have h1':own<leaves:=by omega
 refine zd rfl (by omega) ?_
 refine Vstep.node1 rfl rfl rfl (λm hm=>?_) (λhm=>?_)
 rotate_left
 ·refine Vsem.field Tab_ok rfl rfl rfl rfl rfl rfl rfl rfl ?_
  refine zt rfl (zp ?_)
  exact zf (by simp[zee,ziv,hm,ofC])
 refine Vsem.field Tab_ok rfl rfl rfl rfl rfl rfl rfl rfl ?_
 refine zh (λhk=>zp ?_) (λhk=>zq ?_)
 ·simp only[zb]at hk
  refine zf (congrArg RV.b (Eq.symm ?_))
  have: ¬m.kind.toNat=1:=by omega
  simp[zee,ziv,hm,this]
 simp only[zb]at hk
 have hleaf:ziv O (2*own)=true:=by simp only[ziv,hm,decide_eq_true_eq];omega
 refine Vstep.range rfl rfl znz ?_
 refine Vloop.mkx (λdn:List Nat=>⟨[(1, .r (.b only)),(2, .own 0),(40, .own 1)],[(0,some (pbox leaves own O H)),(1,some (.gen (itO (zdi O) dn none)))],2⟩) (λdn=>dn.Nodup/\∀j∈dn,∃s,O[j]?=some s/\zes s.at_ s.node=true) (λdn=>O.length-dn.length) [] ⟨List.nodup_nil,by simp⟩ (zac [(0,0),(1,1)] rfl ⟨cr,rfl,rfl,trivial⟩ ⟨⟨_,_,rfl,cr,_,_,rfl,cr,_,_,rfl,cr,_,_,rfl,cr,rfl⟩,λ_ _ _ hh=>hh,trivial⟩) ?_
 rintro dn ⟨hnd,hdn⟩
 refine Vstep.next rfl rfl rfl (λhall=>?_) (λj x hj hjn=>?_)
 rotate_left
 ·have hjO: ∃s,O[j]?=some s/\x=(s.at_, .ag s.node.c):=by
   simp only[zdi,List.getElem?_map,Option.map_eq_some_iff]at hj
   obtain⟨s,hs,rfl⟩:=hj
   exact⟨s,hs,rfl⟩
  obtain⟨s,hs,rfl⟩:=hjO
  have hsm:=List.mem_of_getElem? hs
  refine zp ?_
  refine Vstep.entry rfl rfl rfl hj ?_
  refine za rfl rfl ?_
  refine zy (z65 s.at_ s.node (hOf s hsm)) (λhp=>zu rfl (zq ?_)) (λhp=>zt rfl (zp ?_))
  ·have hlen:(dn++[j]).length<=O.length:=zjd _ (by
    rw[List.nodup_append]
    exact⟨hnd,by simp,λy hy z hz e=>hjn (by rw[List.mem_singleton.1 hz]at e;exact e▸hy)⟩) λy hy=>by
     rcases List.mem_append.1 hy with hy |hy
     ·obtain⟨s',h',_⟩:=hdn y hy
      exact(List.getElem?_eq_some_iff.1 h').1
     ·rw[List.mem_singleton.1 hy];exact(List.getElem?_eq_some_iff.1 hs).1
   rw[List.length_append]at hlen
   refine⟨dn++[j],⟨?_,λy hy=>?_⟩,by simp only[List.length_append,List.length_cons,List.length_nil]at*;omega,zac [(0,0),(1,1)] rfl ⟨cr,rfl,rfl,trivial⟩ ⟨⟨_,_,rfl,cr,_,_,rfl,cr,_,_,rfl,cr,_,_,rfl,cr,rfl⟩,zqf,trivial⟩⟩
   ·rw[List.nodup_append]
    exact⟨hnd,by simp,λy hy z hz e=>hjn (by rw[List.mem_singleton.1 hz]at e;exact e▸hy)⟩
   ·rcases List.mem_append.1 hy with hy |hy
    ·exact hdn y hy
    ·rw[List.mem_singleton.1 hy];exact⟨s,hs,hp⟩
  ·refine⟨_,zo _,zf (congrArg RV.b (Eq.symm ?_))⟩
   have:O.all (λs=>zes s.at_ s.node)=false:=zsr hsm hp
   simp[zee,this]
 ·have hallO:O.all (λs=>zes s.at_ s.node)=true:=zyn λj hjl x hx=>by
   obtain⟨s,hs,hp⟩:=hdn j (hall j (by simpa[zdi]using hjl))
   rw[hx]at hs
   cases hs
   exact hp
  refine zq ?_
  refine⟨_,zo _,?_⟩
  refine Vstep.range rfl rfl zxf ?_
  refine Vloop.mkx (λdn:List Nat=>⟨[(1, .r (.b only)),(2, .own 0),(52, .own 1)],[(0,some (pbox leaves own O H)),(1,some (.gen (itO (zeg H) dn none)))],2⟩) (λdn=>dn.Nodup/\∀j∈dn,∃s,H[j]?=some s/\s.hash.length=32) (λdn=>H.length-dn.length) [] ⟨List.nodup_nil,by simp⟩ (zac [(0,0),(1,2)] rfl ⟨cr,rfl,rfl,trivial⟩ ⟨⟨_,_,rfl,cr,_,_,rfl,cr,_,_,rfl,cr,_,_,rfl,cr,rfl⟩,λ_ _ _ hh=>hh,trivial⟩) ?_
  clear hnd hdn hall
  rintro dn ⟨hnd,hdn⟩
  refine Vstep.next rfl rfl rfl (λhall=>?_) (λj x hj hjn=>?_)
  rotate_left
  ·have hjH: ∃s,H[j]?=some s/\x=(s.at_,bs s.hash):=by
    simp only[zeg,List.getElem?_map,Option.map_eq_some_iff]at hj
    obtain⟨s,hs,rfl⟩:=hj
    exact⟨s,hs,rfl⟩
   obtain⟨s,hs,rfl⟩:=hjH
   have hsm:=List.mem_of_getElem? hs
   have hsl:=hHl s hsm
   refine zp ?_
   refine Vstep.entry rfl rfl rfl hj ?_
   refine zh (λh3=>zp ?_) (λh3=>zq ?_)
   ·simp only[zb]at h3
    refine⟨_,zo _,zf (congrArg RV.b (Eq.symm ?_))⟩
    have:H.all (λs=>decide (s.hash.length=32))=false:=zsr hsm (by simp;omega)
    simp[zee,this]
   ·simp only[zb]at h3
    have hlen:(dn++[j]).length<=H.length:=zjd _ (by
     rw[List.nodup_append]
     exact⟨hnd,by simp,λy hy z hz e=>hjn (by rw[List.mem_singleton.1 hz]at e;exact e▸hy)⟩) λy hy=>by
      rcases List.mem_append.1 hy with hy |hy
      ·obtain⟨s',h',_⟩:=hdn y hy
       exact(List.getElem?_eq_some_iff.1 h').1
      ·rw[List.mem_singleton.1 hy];exact(List.getElem?_eq_some_iff.1 hs).1
    rw[List.length_append]at hlen
    refine⟨dn++[j],⟨?_,λy hy=>?_⟩,by simp only[List.length_append,List.length_cons,List.length_nil]at*;omega,zac [(0,0),(1,1)] rfl ⟨cr,rfl,rfl,trivial⟩ ⟨⟨_,_,rfl,cr,_,_,rfl,cr,_,_,rfl,cr,_,_,rfl,cr,rfl⟩,zqf,trivial⟩⟩
    ·rw[List.nodup_append]
     exact⟨hnd,by simp,λy hy z hz e=>hjn (by rw[List.mem_singleton.1 hz]at e;exact e▸hy)⟩
    ·rcases List.mem_append.1 hy with hy |hy
     ·exact hdn y hy
     ·rw[List.mem_singleton.1 hy];exact⟨s,hs,by omega⟩
  ·have hallH:H.all (λs=>decide (s.hash.length=32))=true:=zyn λj hjl x hx=>by
    obtain⟨s,hs,hp⟩:=hdn j (hall j (by simpa[zeg]using hjl))
    rw[hx]at hs
    cases hs
    simpa using hp
   refine zq ?_
   refine⟨_,zo _,?_⟩
   obtain⟨d,hd,hd2⟩:=zfy hf
   have hdl:leaves.toNat.log2=d:=by rw[hd2,Int.toNat_natCast,Nat.log2_two_pow]
   have hlate: ∀x n,zay O x=some n->n.par.late.length<=100000000/\∀u∈n.par.late,zb9 u:=λx n hx=>by
    obtain⟨sp,hsp,_,rfl⟩:=zf4 hx
    have hfi:=List.all_eq_true.1 hallO sp hsp
    simp only[zes,Bool.and_eq_true]at hfi
    have hfit:=hOf sp hsp
    exact⟨hfit.2.2.2.1,Node.right_late hfi.1⟩
   obtain⟨r,hr⟩: ∃r,r=visV O own only d 0 0 []:=⟨_,rfl⟩
   have hrl:=zlu O own only d 0 0 []
   rw[<-hr]at hrl
   have hp17:2^(d+1)<=131072:=Nat.pow_le_pow_right (n:=2) (by omega) (show d+1<=17 by omega)
   have hfin:zee leaves own O H only=(r.2.2&&(decide (r.1=zcw (O.map (·.at_)))&&decide (r.2.1=zcw (H.map (·.at_))))):=by
    simp[zee,hf,h0',h1',hleaf,hallO,hallH,hdl,<-hr]
   rw[hfin]
   have hop:=λp0=>z7a leaves own O H p0 hlate d hd leaves own hd2 ⟨h0',by omega⟩ only r hr
   obtain⟨A,B,okv⟩:=r
   simp only at hop hrl⊢
   refine Vstep.nm 0 1000000 rfl λp0=>Vstep.mkfunX [p0] rfl ⟨_,_,rfl,⟨0,1000000,rfl,rfl⟩,rfl⟩ ?_
   refine zj [(0,0)] [0] (λvs hv=>zc6 (by simp only[List.map];rw[hv 0 0 1000000 _ rfl rfl]) (hop p0)) (zi rfl ⟨_,_,rfl,cr,_,_,rfl,cr,_,_,rfl,cr,_,_,rfl,cr,rfl⟩) rfl ⟨⟨_,_,rfl,cr,_,_,rfl,cr,_,_,rfl,cr,_,_,rfl,cr,rfl⟩,trivial⟩ ⟨zae,trivial⟩ ?_
   have hsn:(zcw (O.map (·.at_))).length<=1000000:=by unfold zcw;rw[List.length_mergeSort,List.length_map];exact hOn
   have hsh:(zcw (H.map (·.at_))).length<=1000000:=by unfold zcw;rw[List.length_mergeSort,List.length_map];exact hHn
   have kN:=z3s (zdi O) (by simpa[zdi]using hOn) (λx hx=>by
    simp only[zdi,List.mem_map]at hx
    obtain⟨s,hs,rfl⟩:=hx
    exact hOi s hs)
   have kH:=z3r (zeg H) (by simpa[zeg]using hHn) (λx hx=>by
    simp only[zeg,List.mem_map]at hx
    obtain⟨s,hs,rfl⟩:=hx
    exact hHi s hs)
   rw[zqo]at kN
   rw[zqb]at kH
   cases okv with
   |false=>exact zf rfl
   |true=>
    refine ze (zarb (zdi O)) ?_
    refine ze kN ?_
    refine zy (zvh A (zcw (O.map λs:Spot=>s.at_)) (by omega) (by omega)) (λhe=>?_) (λhe=>?_)
    ·refine ze (zaqb (zeg H)) ?_
     refine ze kH ?_
     refine ze (zvh B (zcw (H.map λs:Stub=>s.at_)) (by omega) (by omega)) ?_
     exact zf (congrArg RV.b (by rw[he];simp))
    ·exact zf (congrArg RV.b (by rw[he];simp))
end
section
theorem zol{S:St}{id i im gh:Nat}{m:Value}{ents:List (Int×RV)}{cells:List TF}(ho:oget S.O im=some (.gen (mapO ents)))(hgh:fget S.F gh=some (.nm im m))(hb:oget S.O id=some (.box cells))(hc:cells[i]?=some (.r (.x m)))(hne:id≠im):
  Sub S ⟨S.F,(id,some (.box (cells.set i (.r (.s (mapS ents))))))::(im,none)::S.O,S.nx⟩:=by
 intro B N a w k h0
 obtain⟨k',⟨g,hs⟩,hat,_⟩:=zyf ho hgh h0
 have hid:oget ((im,none)::S.O) id=some (.box cells):=by
  simp only[oget]
  split
  ·rename_i hb;exact absurd (Nat.eq_of_beq_eq_true hb).symm hne
  ·exact hb
 have old: ∀x ox,oget ((id,some (Ow.box (cells.set i (.r (.s (mapS ents))))))::(im,none)::S.O) x=some ox->∃ox',oget ((im,none)::S.O) x=some ox':=λx ox hx=>by
  rcases zao hx with⟨rfl,_⟩ |⟨_,h'⟩
  ·exact⟨_,hid⟩
  ·exact⟨_,h'⟩
 refine⟨k',g,hs.size,hs.defers,hs.keep,hs.kk,hs.facts,λj o' ho'=>?_,λx y ox oy b hx hy hne hb=>?_⟩
 ·rcases zao ho' with⟨rfl,e'⟩ |⟨_,h'⟩
  ·cases e'
   obtain⟨q1,q2,q3,q4⟩:=hs.owns _ _ hid
   refine⟨q1,λf hf=>?_,?_,q4⟩
   ·rcases List.mem_or_eq_of_mem_set hf with hf |rfl
    ·exact q2 f hf
    ·exact True.intro
   ·obtain⟨b,cur,t,e1,e2,e3,e4,e5⟩:=q3
    refine⟨b,cur,t,e1,e2,e3,by simpa using e4,λj f u hf hu=>?_⟩
    rw[List.getElem?_set]at hf
    split at hf
    ·rename_i hij
     subst hij
     split at hf
     ·cases hf
      obtain⟨u1,u2⟩:=e5 i _ u hc hu
      simp only[TF.at_,RV.at_]at u2
      refine⟨u1,?_⟩
      simp only[TF.at_]
      rw[u2]
      exact hat
     ·cases hf
    ·exact e5 j f u hf hu
  ·exact hs.owns j o' h'
 ·obtain⟨ox',hx'⟩:=old x ox hx
  obtain⟨oy',hy'⟩:=old y oy hy
  exact hs.apart x y ox' oy' b hx' hy' hne hb
abbrev z5c:RV:= .ag [I 0,I 0, .x (.map none), .x (.map none)]
end
section
def zdv(a:Int):List Int->Int
 |[]=>a
 |x::r=>zdv x r
def ascL(a:Int):List Int->Bool
 |[]=>true
 |x::r=>decide (a<x)&&ascL x r
theorem zk7(x:Int): ∀(l:List Int) (a:Int),zdv a (l++[x])=x
 |[],a=>rfl
 |y::r,a=>by simp only[List.cons_append,zdv];exact zk7 x r y
theorem zhq(x:Int): ∀(l:List Int) (a:Int),ascL a (l++[x])=(ascL a l&&decide (zdv a l<x))
 |[],a=>by show(decide (a<x)&&true)=(true&&decide (a<x));rw[Bool.and_true,Bool.true_and]
 |y::r,a=>by show(decide (a<y)&&ascL y (r++[x]))=((decide (a<y)&&ascL y r)&&decide (zdv y r<x));rw[zhq x r y,Bool.and_assoc]
theorem zoq: ∀(l m:List Int) (a:Int),ascL a (l++m)=(ascL a l&&ascL (zdv a l) m)
 |[],m,a=>by show ascL a m=(true&&ascL a m);rw[Bool.true_and]
 |y::r,m,a=>by show(decide (a<y)&&ascL y (r++m))=((decide (a<y)&&ascL y r)&&ascL (zdv y r) m);rw[zoq r m y,Bool.and_assoc]
theorem zyo: ∀(l:List Int) (a:Int),ascL a l=true->a<=zdv a l/\∀y∈l,a<y/\y<=zdv a l
 |[],a,_=>⟨Int.le_refl _,λy h=>by cases h⟩
 |x::r,a,h=>by
  simp only[ascL,Bool.and_eq_true,decide_eq_true_eq]at h
  obtain⟨h1,h2⟩:=zyo r x h.2
  refine⟨by simp only[zdv];omega,λy hy=>?_⟩
  simp only[zdv]
  rcases List.mem_cons.1 hy with rfl |hy
  ·exact⟨h.1,h1⟩
  ·have:=h2 y hy
   exact⟨by omega,this.2⟩
theorem zu3{l:List Int}{a x:Int}(h:ascL a l=true)(hx:zdv a l<x):x∉l:=λhm=>by
 have:=((zyo l a h).2 x hm).2
 omega
theorem zo1: ∀{ents:List (Int×RV)} {n:Int},n∉ents.map (·.1)->zc8 ents n=none
 |[],n,_=>rfl
 |(m,r)::l,n,h=>by
  simp only[List.map_cons,List.mem_cons,not_or]at h
  simp only[zc8]
  rw[if_neg (λe=>h.1 e.symm)]
  exact zo1 h.2
theorem zen{α β:Type}(f:α->β){l:List α}{j:Nat}(h:j<l.length):(l.take (j+1)).map f=(l.take j).map f++[f l[j]]:=by
 rw[List.take_succ_eq_append_getElem h,List.map_append];rfl
def atsO(s:Lean_):List Int:=s.opn.map (·.at_)
def atsH(s:Lean_):List Int:=s.shut.map (·.at_)
def ascS(s:Lean_):Bool:=ascL (-1) (atsO s)&&ascL (-1) (atsH s)
def lean0:Lean_:=⟨0,0,[],[]⟩
def pieS(s:Lean_):Lean_:=if ascS s=true then s else lean0
abbrev Lean_.pr(s:Lean_):RV:=z5e s.leaves s.own s.opn s.shut
theorem z5d:Cv z5c lean0.pr:=Cv.ag (zk (cr) (zk (cr) (zk (λw k v h=>by simp only[RV.at_]at h⊢;exact .inl ⟨h,rfl⟩) (zk (λw k v h=>by simp only[RV.at_]at h⊢;exact .inl ⟨h,rfl⟩) Cvs.nil))))
structure Lean_.bd (s:Lean_):Prop where
 nl:i64 s.leaves
 no:i64 s.own
 lo:s.opn.length<=1000000
 lh:s.shut.length<=1000000
 ao: ∀x∈s.opn,i64 x.at_
 ah: ∀x∈s.shut,i64 x.at_
 fo: ∀x∈s.opn,x.node.fit
 fh: ∀x∈s.shut,x.hash.length<=1000000000
abbrev pmO(b1 b2:Nat)(s:Lean_)(j i:Nat):List (Nat×Option Ow):=[(0,some (.box (s.c.map .r))),(1,some (.box [.r (I 0), .r (I 0), .r (.x (.map none)), .r (.x (.map none))])),(2,some (.gen (mapO (zdi (s.opn.take j))))),(3,some (.gen (mapO (zeg (s.shut.take i))))),(4,some (.box [.r (I s.leaves), .r (I s.own), .r (.x (.map (some b1))), .r (.x (.map (some b2)))]))]
set_option maxHeartbeats 4000000 in
theorem z3n(s:Lean_)(hb:s.bd):zab Tryz.prog 113 [.ag s.c] (.r (.tu [(pieS s).pr, .b (ascS s)])):=by
 refine zbo (T:=Tab) mixed Tab_ok Tryz.func113 rfl (by kernel_rfl) ?_
 have hlo:=hb.lo
 have hlh:=hb.lh
 have bad:ascS s=false->Cv (.tu [z5c, .b false]) (.tu [(pieS s).pr, .b (ascS s)]):=λh=>by
  have:pieS s=lean0:=by unfold pieS;rw[h];simp
  rw[this,h]
  exact Cv.tu (zk z5d (zn _))
 refine Vcode.run Tab_ok ?_
 refine Vstep.mapMk 2000001 rfl λb1=>?_
 refine Vstep.mapMk 2000002 rfl λb2=>?_
 refine Vloop.mkx (λj:Nat=>⟨[(1, .own 0),(2, .own 1),(4, .own 4),(5, .r (I (zdv (-1) ((s.opn.take j).map (·.at_))))),(18, .r (zc4 s.opn)),(19, .r (I s.opn.length)),(20, .r (I j)),(2000001, .nm 2 (.map (some b1))),(2000002, .nm 3 (.map (some b2)))],pmO b1 b2 s j 0,5⟩) (λj=>j<=s.opn.length/\ascL (-1) ((s.opn.take j).map (·.at_))=true) (λj=>s.opn.length-j) 0 ⟨by omega,rfl⟩ (zac [(0,0),(1,1),(2,2),(3,3),(4,4)] rfl ⟨rfl,rfl,rfl,cr,cr,cr,cr,⟨rfl,rfl⟩,⟨rfl,rfl⟩,trivial⟩ ⟨⟨_,_,rfl,cr,_,_,rfl,cr,_,_,rfl,cr,_,_,rfl,cr,rfl⟩,⟨_,_,rfl,cr,_,_,rfl,cr,_,_,rfl,cr,_,_,rfl,cr,rfl⟩,λ_ _ _ hh=>hh,λ_ _ _ hh=>hh,⟨_,_,rfl,cr,_,_,rfl,cr,_,_,rfl,cr,_,_,rfl,cr,rfl⟩,trivial⟩) ?_
 rintro j ⟨hj,hasc⟩
 refine zh (λh=>zp ?_) (λh=>zq ?_)
 ·simp only[zb]at h
  have hj':j<s.opn.length:=by omega
  have hai:=hb.ao s.opn[j] (List.getElem_mem hj')
  have hsn:=zen Spot.at_ hj'
  refine zm (by omega) (by omega) (zd4 (f:=Spot.c) (λ_=>rfl) rfl hj') ?_
  refine za rfl rfl ?_
  refine zh (λh2=>zp ?_) (λh2=>zq ?_)
  ·simp only[zb]at h2
   refine⟨_,zo _,?_⟩
   refine⟨_,zo _,?_⟩
   refine za rfl rfl ?_
   have hf:ascS s=false:=by
    have e:atsO s=((s.opn.take (j+1)).map (·.at_))++(s.opn.drop (j+1)).map (·.at_):=by unfold atsO;rw[<-List.map_append,List.take_append_drop]
    have h3:decide (zdv (-1) ((s.opn.take j).map (·.at_))<s.opn[j].at_)=false:=decide_eq_false (by omega)
    unfold ascS
    rw[e,zoq,hsn,zhq,h3]
    simp
   exact⟨_,rfl,bad hf⟩
  ·simp only[zb]at h2
   have hlt:zdv (-1) ((s.opn.take j).map (·.at_))<s.opn[j].at_:=by omega
   refine za rfl rfl ?_
   have hk:(zdi (s.opn.take j)).map (·.1)=(s.opn.take j).map (·.at_):=zqo _
   refine Vstep.mapPut 2 2000001 rfl rfl rfl rfl rfl rfl rfl znz zrg (zo1 (by rw[hk];exact zu3 hasc hlt)) ?_
   refine zd (m:=((j+1:Nat):Int)) (by omega) (by omega) ?_
   have hsN:zdi (s.opn.take (j+1))=zdi (s.opn.take j)++[(s.opn[j].at_, .ag s.opn[j].node.c)]:=zen _ hj'
   refine⟨j+1,⟨by omega,by rw[hsn,zhq,hasc,decide_eq_true hlt];rfl⟩,by omega,zac [(0,0),(1,1),(2,2),(3,3),(4,4)] rfl ⟨rfl,rfl,rfl,zf (by rw[hsn,zk7]),cr,cr,cr,⟨rfl,rfl⟩,⟨rfl,rfl⟩,trivial⟩ ⟨⟨_,_,rfl,cr,_,_,rfl,cr,_,_,rfl,cr,_,_,rfl,cr,rfl⟩,⟨_,_,rfl,cr,_,_,rfl,cr,_,_,rfl,cr,_,_,rfl,cr,rfl⟩,λ_ _ _ hh=>by rw[hsN];exact hh,λ_ _ _ hh=>hh,⟨_,_,rfl,cr,_,_,rfl,cr,_,_,rfl,cr,_,_,rfl,cr,rfl⟩,trivial⟩⟩
 simp only[zb]at h
 rw[List.take_of_length_le (by omega)]at hasc
 refine⟨_,zo _,?_⟩
 refine Vloop.mkx (λi:Nat=>⟨[(1, .own 0),(2, .own 1),(4, .own 4),(5, .r (I (zdv (-1) ((s.shut.take i).map (·.at_))))),(39, .r (zuw s.shut)),(40, .r (I s.shut.length)),(41, .r (I i)),(2000001, .nm 2 (.map (some b1))),(2000002, .nm 3 (.map (some b2)))],pmO b1 b2 s s.opn.length i,5⟩) (λi=>i<=s.shut.length/\ascL (-1) ((s.shut.take i).map (·.at_))=true) (λi=>s.shut.length-i) 0 ⟨by omega,rfl⟩ (zac [(0,0),(1,1),(2,2),(3,3),(4,4)] rfl ⟨rfl,rfl,rfl,cr,cr,cr,cr,⟨rfl,rfl⟩,⟨rfl,rfl⟩,trivial⟩ ⟨⟨_,_,rfl,cr,_,_,rfl,cr,_,_,rfl,cr,_,_,rfl,cr,rfl⟩,⟨_,_,rfl,cr,_,_,rfl,cr,_,_,rfl,cr,_,_,rfl,cr,rfl⟩,λ_ _ _ hh=>by rw[List.take_of_length_le (Nat.le_refl _)];rw[List.take_of_length_le (by omega)]at hh;exact hh,λ_ _ _ hh=>hh,⟨_,_,rfl,cr,_,_,rfl,cr,_,_,rfl,cr,_,_,rfl,cr,rfl⟩,trivial⟩) ?_
 clear h hj
 rintro i ⟨hi,hasc2⟩
 refine zh (λh=>zp ?_) (λh=>zq ?_)
 ·simp only[zb]at h
  have hi':i<s.shut.length:=by omega
  have hsn:=zen Stub.at_ hi'
  refine zm (by omega) (by omega) (zd4 (f:=Stub.c) (λ_=>rfl) rfl hi') ?_
  refine za rfl rfl ?_
  refine zh (λh2=>zp ?_) (λh2=>zq ?_)
  ·simp only[zb]at h2
   refine⟨_,zo _,?_⟩
   refine⟨_,zo _,?_⟩
   refine za rfl rfl ?_
   have hf:ascS s=false:=by
    have e:atsH s=((s.shut.take (i+1)).map (·.at_))++(s.shut.drop (i+1)).map (·.at_):=by unfold atsH;rw[<-List.map_append,List.take_append_drop]
    have h3:decide (zdv (-1) ((s.shut.take i).map (·.at_))<s.shut[i].at_)=false:=decide_eq_false (by omega)
    unfold ascS
    rw[e,zoq,hsn,zhq,h3]
    simp
   exact⟨_,rfl,bad hf⟩
  ·simp only[zb]at h2
   have hlt:zdv (-1) ((s.shut.take i).map (·.at_))<s.shut[i].at_:=by omega
   have hk:(zeg (s.shut.take i)).map (·.1)=(s.shut.take i).map (·.at_):=zqb _
   refine Vstep.mapPut 3 2000002 rfl rfl rfl rfl rfl rfl rfl zxf zrg (zo1 (by rw[hk];exact zu3 hasc2 hlt)) ?_
   refine zd (m:=((i+1:Nat):Int)) (by omega) (by omega) ?_
   have hsN:zeg (s.shut.take (i+1))=zeg (s.shut.take i)++[(s.shut[i].at_,bs s.shut[i].hash)]:=zen _ hi'
   refine⟨i+1,⟨by omega,by rw[hsn,zhq,hasc2,decide_eq_true hlt];rfl⟩,by omega,zac [(0,0),(1,1),(2,2),(3,3),(4,4)] rfl ⟨rfl,rfl,rfl,zf (by rw[hsn,zk7]),cr,cr,cr,⟨rfl,rfl⟩,⟨rfl,rfl⟩,trivial⟩ ⟨⟨_,_,rfl,cr,_,_,rfl,cr,_,_,rfl,cr,_,_,rfl,cr,rfl⟩,⟨_,_,rfl,cr,_,_,rfl,cr,_,_,rfl,cr,_,_,rfl,cr,rfl⟩,λ_ _ _ hh=>hh,λ_ _ _ hh=>by rw[hsN];exact hh,⟨_,_,rfl,cr,_,_,rfl,cr,_,_,rfl,cr,_,_,rfl,cr,rfl⟩,trivial⟩⟩
 simp only[zb]at h
 rw[List.take_of_length_le (by omega)]at hasc2
 refine⟨_,zo _,?_⟩
 refine za rfl rfl ?_
 have hT:ascS s=true:=by unfold ascS atsO atsH;rw[hasc,hasc2];rfl
 have hP:pieS s=s:=if_pos hT
 rw[hT,hP]
 refine⟨_,Sub.trans (zol (id:=1) (i:=2) (im:=2) (gh:=2000001) rfl rfl rfl rfl (by decide)) (zol (id:=1) (i:=3) (im:=3) (gh:=2000002) rfl rfl rfl rfl (by decide)),?_⟩
 refine za rfl rfl ?_
 exact⟨_,rfl,zf (by rw[List.take_of_length_le (Nat.le_refl _),List.take_of_length_le (by omega)];rfl)⟩
end
section
def sR(s:Lean_):Bool:=ascS s&&zee s.leaves s.own s.opn s.shut false
theorem zzo{s:Lean_}(hb:s.bd):(pieS s).bd:=by
 unfold pieS
 split
 ·exact hb
 ·exact⟨(by unfold i64 lean0;decide),(by unfold i64 lean0;decide),(by decide),(by decide),λx h=>(by cases h),λx h=>(by cases h),λx h=>(by cases h),λx h=>(by cases h)⟩
set_option maxHeartbeats 1000000 in
theorem zs4(s:Lean_)(hb:s.bd):zab Tryz.prog 58 [.ag s.c] (.r (.tu [(pieS s).pr, .b (sR s)])):=by
 refine zaa (T:=Tab) mixed Tab_ok Tryz.func58 rfl (by kernel_rfl) ?_
 have hp:=zzo hb
 have e0:ascS s=false->sR s=false:=λh=>by unfold sR;rw[h];rfl
 have e1:ascS s=true->sR s=zee (pieS s).leaves (pieS s).own (pieS s).opn (pieS s).shut false:=λh=>by unfold sR pieS;rw[h];rfl
 refine za rfl rfl ?_
 refine ze (z3n s hb) ?_
 obtain⟨β,hβ⟩: ∃β,β=ascS s:=⟨_,rfl⟩
 rw[<-hβ]at e0 e1⊢
 generalize pieS s=q at hp e1⊢
 cases β with
 |false=>
  rw[e0 rfl]
  refine Vdraw.mk' (by kernel_rfl) ?_
  refine za rfl rfl ?_
  refine za rfl rfl ?_
  exact⟨_,rfl,cr⟩
 |true=>
  rw[e1 rfl]
  refine Vdraw.mk' (by kernel_rfl) ?_
  refine za rfl rfl ?_
  refine za rfl rfl ?_
  refine ze (z67 q.leaves q.own hp.nl hp.no q.opn q.shut false hp.lo hp.lh hp.fo hp.ao hp.ah hp.fh) ?_
  refine za rfl rfl ?_
  exact⟨_,rfl,cr⟩
theorem z7b(s:Lean_)(hb:s.bd):zab Tryz.prog 23 [.ag s.c] (.r (.b (sR s))):=by
 refine zaa (T:=Tab) mixed Tab_ok Tryz.func23 rfl (by kernel_rfl) ?_
 refine za rfl rfl ?_
 refine ze (zs4 s hb) ?_
 exact cr
def zlg(s:Lean_)(x:Int):Node:=if sR s=true then zcx s.opn x else Node.zero
def ziz(s:Lean_)(x:Int):Bool:=sR s&&zb0 s.opn x
theorem zewb{s:Lean_}(h:sR s=true):pieS s=s:=by
 unfold sR at h
 simp only[Bool.and_eq_true]at h
 exact if_pos h.1
theorem z1j{O:List Spot}(h: ∀x∈O,x.node.fit)(x:Int):(zcx O x).fit:=by
 unfold zcx
 cases hf:zay O x with
 |none=>exact⟨⟨(by decide),(by decide),(by decide),(by decide),(by decide)⟩,(by decide),(by decide),(by decide),λy hy=>(by cases hy)⟩
 |some n=>
  obtain⟨sp,hsp,_,rfl⟩:=zf4 hf
  exact h sp hsp
set_option maxHeartbeats 1000000 in
theorem zatb(s:Lean_)(x:Int)(hb:s.bd):zab Tryz.prog 27 [.ag s.c,I x] (.r (.tu [.ag (zlg s x).c, .b (ziz s x)])):=by
 refine zaa (T:=Tab) mixed Tab_ok Tryz.func27 rfl (by kernel_rfl) ?_
 have hz:Cv (.tu [.ag zc, .b false]) (.tu [.ag Node.zero.c, .b false]):=Cv.tu (zk zsj (zn _))
 refine za rfl rfl ?_
 refine ze (zs4 s hb) ?_
 have e0:sR s=false->zlg s x=Node.zero/\ziz s x=false:=λh=>by unfold zlg ziz;rw[h];exact⟨by simp,rfl⟩
 have e1:sR s=true->zlg s x=zcx (pieS s).opn x/\ziz s x=zb0 (pieS s).opn x:=λh=>by rw[zewb h];unfold zlg ziz;rw[h];exact⟨by simp,rfl⟩
 have hp:=zzo hb
 obtain⟨β,hβ⟩: ∃β,β=sR s:=⟨_,rfl⟩
 rw[<-hβ]at e0 e1⊢
 generalize pieS s=q at hp e1⊢
 refine Vstep.node2 rfl rfl rfl (λm hm=>?_) (λhm=>?_)
 ·have f1:zcx q.opn x=m:=by unfold zcx;rw[hm];rfl
  have f2:zb0 q.opn x=true:=by unfold zb0;rw[hm];rfl
  cases β with
  |false=>
   obtain⟨a,b⟩:=e0 rfl
   rw[a,b]
   refine zt rfl ?_
   refine zp ?_
   refine za rfl rfl ?_
   exact⟨_,rfl,hz⟩
  |true=>
   obtain⟨a,b⟩:=e1 rfl
   rw[a,b,f1,f2]
   have hfit:m.fit:=f1▸z1j hp.fo x
   refine zu rfl ?_
   refine zu rfl ?_
   refine zq ?_
   refine za rfl rfl ?_
   refine ze (zj6 m hfit (zdf _ hfit.1)) ?_
   refine za rfl rfl ?_
   exact⟨_,rfl,cr⟩
 ·have f1:zcx q.opn x=Node.zero:=by unfold zcx;rw[hm];rfl
  have f2:zb0 q.opn x=false:=by unfold zb0;rw[hm];rfl
  cases β with
  |false=>
   obtain⟨a,b⟩:=e0 rfl
   rw[a,b]
   refine zt rfl ?_
   refine zp ?_
   refine za rfl rfl ?_
   exact⟨_,rfl,hz⟩
  |true=>
   obtain⟨a,b⟩:=e1 rfl
   rw[a,b,f1,f2]
   refine zu rfl ?_
   refine zt rfl ?_
   refine zp ?_
   refine za rfl rfl ?_
   exact⟨_,rfl,hz⟩
end
section
theorem zyt(x:Int):zab Tryz.prog 136 [is [],I x] (.r (.b false)):=by
 refine zaa (T:=Tab) mixed Tab_ok Tryz.func136 rfl (by kernel_rfl) ?_
 refine zx (λj:Nat=>{F:=[(0, .r (is [])),(1, .r (I x)),(5, .r (I j))],O:=[],nx:=0}) (λj=>j<=0) (λj=>0-j) 0 (by omega) (zac [] rfl ⟨cr,cr,cr,trivial⟩ trivial) ?_
 intro j hj
 refine zu (by simp only[zb,List.length_nil];omega) (zq ?_)
 exact cr
theorem zme(l m:List UInt8)(hl:l.length<=100000000000)(hm:m.length<=100000000000):zab Tryz.prog 137 [bs l,bs m] (.r (bs (l++m))):=by
 refine zaa (T:=Tab) mixed Tab_ok Tryz.func137 rfl (by kernel_rfl) ?_
 refine zw ?_
 refine Vapp.mk' (j:=l.length) (zs:=l.map U8) (by simp[maxLen];omega) (by simp;omega) (by simp) (by simp) ?_
 refine Vapp.mk' (j:=(l++m).length) (zs:=(l++m).map U8) (by simp[maxLen];omega) (by simp;omega) (by simp) (by simp) ?_
 exact cr
def zec(t:List Node):Nat->Nat->List UInt8
 |0,k=>shaB ([1]++beB 4 k++zdh (nT t (nd 0 k)))
 |h+1,k=>shaB ([2]++zdh (nT t (nd (h+1) k))++(vecB (zec t h (2*k))++vecB (zec t h (2*k+1))))
theorem zh6(t:List Node): ∀h k,(zec t h k).length=32
 |0,k=>zc2 _
 |h+1,k=>zc2 _
theorem zt7(t:List Node)(hfit: ∀x∈t,x.fit)(hr: ∀x∈t,x.right=true)(k:Nat)(hk:k<65536)(hx:nd 0 k<t.length):zab Tryz.prog 84 [nods t,I (nd 0 k),is []] (.r (bs ([1]++beB 4 k++zdh (nT t (nd 0 k))))):=by
 refine zaa (T:=Tab) mixed Tab_ok Tryz.func84 rfl (by kernel_rfl) ?_
 have hm:=zkg hx
 have hle:=zle _ (hfit _ hm)
 have hq:(k:Int)=IntKind.i64.wrap ((nd 0 k:Int).tdiv 2):=by
  rw[zr9,Int.tdiv_eq_ediv_of_nonneg (by omega),show(((2*k:Nat):Int))/2=k by omega]
  exact wrap_i64 (by omega)
 refine zm (by omega) (by omega) (zqd rfl hx) ?_
 refine za rfl rfl ?_
 refine⟨by decide,_,rfl,?_⟩
 refine zt (by rw[zge];rfl) (zp ?_)
 refine⟨by decide,(k:Int),hq,?_⟩
 refine ze (zyt _) ?_
 refine zq ?_
 refine Vdraw.mk' (by kernel_rfl) ?_
 refine zw ?_
 refine⟨by decide,(k:Int),hq,?_⟩
 refine⟨((k:Nat):Int),by have:=zhr (k:Int) (by omega);rw[this];simp,?_⟩
 refine ze (zj8 4 k (by omega) (by omega)) ?_
 refine ze (zme [1] (beB 4 k) (by simp) (by simp[za0])) ?_
 refine za rfl rfl ?_
 refine ze (zs2 _ (hfit _ hm) (λ_=>Node.right_late (hr _ hm))) ?_
 refine ze (zme ([1]++beB 4 k) (zdh (nT t (nd 0 k))) (by simp[za0]) (by omega)) ?_
 exact cr
theorem zxz(t:List Node)(hfit: ∀x∈t,x.fit)(hr: ∀x∈t,x.right=true)(h:Nat)(hh:h+1<=16)
  (ih: ∀k,k<2^(16-h)->inR h k (nd h k)->((k+1)*2^(h+1)<=t.length+1)->zab Tryz.prog 34 [nods t,I (nd h k),is []] (.r (bs (zec t h k))))
  (k:Nat) (hk:k<2^(16-(h+1))) (hx:(k+1)*2^(h+1+1)<=t.length+1):zab Tryz.prog 84 [nods t,I (nd (h+1) k),is []] (.r (bs ([2]++zdh (nT t (nd (h+1) k))++(vecB (zec t h (2*k))++vecB (zec t h (2*k+1)))))):=by
 refine zaa (T:=Tab) mixed Tab_ok Tryz.func84 rfl (by kernel_rfl) ?_
 have hleft:=zif (d:=16) (by omega) (show h+1<=16 by omega) hk
 have hright:=zi3 (d:=16) (by omega) (show h+1<=16 by omega) hk
 have hk2:2^(16-h)=2*2^(16-(h+1)):=by rw[show 16-h=(16-(h+1))+1 by omega,Nat.pow_succ];omega
 have hin:=zit (h+1) k
 have e2:(k+1)*2^(h+1+1)=k*2^(h+1+1)+2^(h+1+1):=by rw[Nat.add_mul,Nat.one_mul]
 have e3:2^(h+1+1)=2*2^(h+1):=by rw[Nat.pow_succ 2 (h+1)];omega
 have e4:=zzh k h
 have e5:=z7y k h
 have e6:(2*k+1)*2^(h+1)=2*k*2^(h+1)+2^(h+1):=by rw[Nat.add_mul,Nat.one_mul]
 have e7:(2*k+1+1)*2^(h+1)=(2*k+1)*2^(h+1)+2^(h+1):=by rw[Nat.add_mul,Nat.one_mul]
 have hlt:nd (h+1) k<t.length:=by unfold inR at hin;omega
 have hm:=zkg hlt
 obtain⟨n,hn⟩: ∃n,n=nT t (nd (h+1) k):=⟨_,rfl⟩
 have hnf:n.fit:=hn▸hfit _ hm
 have hnr:n.right=true:=hn▸hr _ hm
 have hle:=zle n hnf
 have hll:=hnf.2.2.2.1
 have l1:=zh6 t h (2*k)
 have l2:=zh6 t h (2*k+1)
 have v1:=zal (zec t h (2*k))
 have v2:=zal (zec t h (2*k+1))
 refine zm (by omega) (by omega) (zqd rfl hlt) ?_
 rw[<-hn]
 refine za rfl rfl ?_
 refine⟨by decide,_,rfl,?_⟩
 refine zu (by rw[zhc];rfl) (zq ?_)
 refine zx (λj:Nat=>{F:=[(0, .r (nods t)),(1, .r (I (nd (h+1) k))),(2, .r (is [])),(7, .own 0),(8, .own 1),(9, .r (I j))],O:=[(0,some (.box (n.c.map .r))),(1,some (.ch 3 1 (n.par.late.take j).length ((n.par.late.take j).map I) true))],nx:=2})
  (λj=>j<=n.par.late.length) (λj=>n.par.late.length-j) 0 (by omega)
  ((zef 8 3 1 rfl).trans (zac [(0,0),(1,1)] rfl ⟨cr,cr,cr,rfl,rfl,cr,trivial⟩ ⟨zad n.c,⟨rfl,rfl,rfl,rfl,zn _⟩,trivial⟩)) ?_
 intro j hj
 refine zh (λh1=>zp ?_) (λh1=>zq ?_)
 ·simp only[zb]at h1
  have hj':j<n.par.late.length:=by omega
  have e:=zhw hj'
  have htl:(n.par.late.take j).length=j:=by rw[List.length_take];omega
  refine zm (by omega) (by omega) (zak rfl hj') (zg rfl ?_)
  refine ze (zyt _) ?_
  refine zt rfl (zp ?_)
  refine zm (by omega) (by omega) (zak rfl hj') (zg rfl ?_)
  refine zw ?_
  refine Vapp.mk' (j:=(n.par.late.take (j+1)).length) (zs:=(n.par.late.take (j+1)).map I) (by simp[maxLen];omega) (by simp;omega) (by rw[e,List.length_append];rfl) (by rw[e,List.map_append];rfl) ?_
  refine zd (m:=((j+1:Nat):Int)) (by omega) (by omega) ?_
  exact⟨j+1,hj',by omega,zac [(0,0),(1,_)] rfl ⟨cr,cr,cr,rfl,rfl,cr,trivial⟩ ⟨zad n.c,za4 rfl,trivial⟩⟩
 simp only[zb]at h1
 rw[List.take_of_length_le (by omega)]
 refine ze (zin _) ?_
 rw[hleft,hright]
 refine zw ?_
 refine za rfl rfl ?_
 refine Vcall.mk' (zs2 n hnf (λ_=>Node.right_late hnr)) (zn _) ?_
 refine ze (zme [2] (zdh n) (by simp) (by omega)) ?_
 refine ze (ih (2*k) (by omega) (zit _ _) (by omega)) ?_
 refine ze (zc1 _ (by omega)) ?_
 refine ze (ih (2*k+1) (by omega) (zit _ _) (by omega)) ?_
 refine ze (zc1 _ (by omega)) ?_
 refine ze (zme _ _ (by omega) (by omega)) ?_
 refine ze (zme ([2]++zdh n) _ (by simp;omega) (by simp;omega)) ?_
 exact cr
theorem z6y(t:List Node)(hfit: ∀x∈t,x.fit)(hr: ∀x∈t,x.right=true): ∀(h k:Nat),h<=16->k<2^(16-h)->(k+1)*2^(h+1)<=t.length+1->zab Tryz.prog 34 [nods t,I (nd h k),is []] (.r (bs (zec t h k))):=by
 have key: ∀(x:Int) (b:List UInt8),b.length<=100000000000->zab Tryz.prog 84 [nods t,I x,is []] (.r (bs b))->zab Tryz.prog 34 [nods t,I x,is []] (.r (bs (shaB b))):=λx b hb hg=>by
  refine zaa (T:=Tab) mixed Tab_ok Tryz.func34 rfl (by kernel_rfl) ?_
  refine ze hg ?_
  refine ze (zk0 b hb) ?_
  exact cr
 intro h
 induction h with
 |zero=>
  intro k _ hk hx
  have hin:=zit 0 k
  have hlt:nd 0 k<t.length:=by unfold inR at hin;rw[Nat.add_mul]at hx;omega
  have:=zle _ (hfit _ (zkg hlt))
  exact key _ _ (by simp[za0];omega) (zt7 t hfit hr k (by simpa using hk) hlt)
 |succ h ih=>
  intro k hh hk hx
  have hin:=zit (h+1) k
  have hlt:nd (h+1) k<t.length:=by unfold inR at hin;rw[Nat.add_mul]at hx;omega
  have:=zle _ (hfit _ (zkg hlt))
  have l1:=zh6 t h (2*k)
  have l2:=zh6 t h (2*k+1)
  have v1:=zal (zec t h (2*k))
  have v2:=zal (zec t h (2*k+1))
  exact key _ _ (by simp;omega) (zxz t hfit hr h hh (λk hk _ hx=>ih k (by omega) hk hx) k hk hx)
end
end Go.Proofs.YtfjkblpnbgfkeaaGreat.Sx
