import Derived.Test.YtkegaaonpekkgaaGreatZTc
namespace Go.Proofs.YtkegaaonpekkgaaGreat.Sx
open Go.RowKit
theorem Vint.byte(c:UInt8){e:Int}{K:Int->Prop}(he:e=(c.toNat:Int))(hK:K (c.toNat:Int)):Vint .u8 e K:=by
 refine Vint.u8 c.toNat he ?_
 rw[show(UInt8.ofNat c.toNat)=c by simp]
 exact hK
theorem num1(c:UInt8):numA 0 [c]=c.toNat:=by simp[numA]
abbrev rdZ:List (Nat×Ow):=[(0, .box [.r .any, .r .any])]
theorem zxu(c:RV)(e:Nat)(v:Value):zi2 [(0,rdO c e)] rdZ [(0,v)]:=⟨⟨_,_,rfl,rfl,zah,zah⟩,trivial⟩
abbrev zl6:List RV:=[.x (.slice none 0 0), .x (.slice none 0 0), .x (.slice none 0 0), .i .u8 0, .x (.slice none 0 0), .x (.slice none 0 0)]
set_option maxHeartbeats 1000000 in
theorem zbtb(v:Value)(l:List UInt8)(hl:l.length<=8000000000)(e:Nat)(h:zev 3 l= .err e):Acts aP 481 1 (rdL l) [.own 0] [(0,v)] 2 rdZ (.r (.tu [.ag zl.c,Er e])):=by
 refine zag (T:=Tab) mixed Tab_ok Tryz.func481 rfl (by kernel_rfl) rfl (zxu _ _ _) ?_
 have he:=zt4 3 h
 simp only[zev]at h
 cases h0:vecP l with
 |err e'=>
  rw[h0]at h
  injection h with h
  subst h
  refine zj [(0,0)] [0] (λvs _=>zeq (vs 0) l _ (by omega) h0) (zi rfl ⟨_,_,rfl,rfl,rfl⟩) rfl ⟨(aB aZ),trivial⟩ ⟨zac,trivial⟩ ?_
  refine zj [(0,0)] [0] (λvs _=>zft (vs 0) _ (by omega)) (zi rfl ⟨_,_,rfl,rfl,rfl⟩) rfl ⟨⟨_,_,rfl,trivial,_,_,rfl,cr,rfl⟩,trivial⟩ ⟨zac,trivial⟩ ?_
  refine zj [(0,0)] [0] (λvs _=>zft (vs 0) _ (by omega)) (zi rfl ⟨_,_,rfl,rfl,rfl⟩) rfl ⟨⟨_,_,rfl,trivial,_,_,rfl,cr,rfl⟩,trivial⟩ ⟨zac,trivial⟩ ?_
  refine zj [(0,0)] [0] (λvs _=>zh3 (vs 0) _ (by omega) 1 (by omega)) (zi rfl ⟨_,_,rfl,rfl,_,_,rfl,cr,rfl⟩) rfl ⟨⟨_,_,rfl,trivial,_,_,rfl,cr,rfl⟩,trivial⟩ ⟨zac,trivial⟩ ?_
  refine Vint.byte 0 rfl ?_
  refine zj [(0,0)] [0] (λvs _=>zf9 (vs 0) _) (zi rfl ⟨_,_,rfl,rfl,rfl⟩) rfl ⟨⟨_,_,rfl,trivial,_,_,rfl,cr,rfl⟩,trivial⟩ ⟨zac,trivial⟩ ?_
  refine zt (by simp only[zb];omega) (zp ?_)
  exact zal (.inl rfl) [(0,0),(1,1)] [(2, .own 1),(3, .r (Er _))] [(1,some (.box (zl6.map .r)))] rfl ⟨rfl,cr,⟨rfl,rfl⟩,trivial⟩ ⟨⟨_,_,rfl,trivial,_,_,rfl,trivial,rfl⟩,(aC (aB aZ)),trivial⟩ ⟨⟨1000000,rfl⟩,trivial⟩ (za rfl rfl ⟨_,rfl,Cv.tu (zk zf6 (zn _))⟩)
 |ok x0 r0=>
  rw[h0]at h
  simp only at h
  obtain⟨j0,e0,_,hj0,_⟩:=zfe h0
  have hl0:r0.length<=l.length:=by rw[e0,List.length_drop];omega
  cases h1:vecP r0 with
  |err e'=>
   rw[h1]at h
   injection h with h
   subst h
   refine zj [(0,0)] [0] (λvs _=>ze0 (vs 0) l r0 x0 (by omega) h0) (zi rfl ⟨_,_,rfl,rfl,rfl⟩) rfl ⟨(aB aZ),trivial⟩ ⟨zac,trivial⟩ ?_
   refine zj [(0,0)] [0] (λvs _=>zeq (vs 0) r0 _ (by omega) h1) (zi rfl ⟨_,_,rfl,rfl,rfl⟩) rfl ⟨(aB aZ),trivial⟩ ⟨zac,trivial⟩ ?_
   refine zj [(0,0)] [0] (λvs _=>zft (vs 0) _ (by omega)) (zi rfl ⟨_,_,rfl,rfl,rfl⟩) rfl ⟨⟨_,_,rfl,trivial,_,_,rfl,cr,rfl⟩,trivial⟩ ⟨zac,trivial⟩ ?_
   refine zj [(0,0)] [0] (λvs _=>zh3 (vs 0) _ (by omega) 1 (by omega)) (zi rfl ⟨_,_,rfl,rfl,_,_,rfl,cr,rfl⟩) rfl ⟨⟨_,_,rfl,trivial,_,_,rfl,cr,rfl⟩,trivial⟩ ⟨zac,trivial⟩ ?_
   refine Vint.byte 0 rfl ?_
   refine zj [(0,0)] [0] (λvs _=>zf9 (vs 0) _) (zi rfl ⟨_,_,rfl,rfl,rfl⟩) rfl ⟨⟨_,_,rfl,trivial,_,_,rfl,cr,rfl⟩,trivial⟩ ⟨zac,trivial⟩ ?_
   refine zt (by simp only[zb];omega) (zp ?_)
   exact zal (.inl rfl) [(0,0),(1,1)] [(2, .own 1),(3, .r (Er _))] [(1,some (.box (zl6.map .r)))] rfl ⟨rfl,cr,⟨rfl,rfl⟩,trivial⟩ ⟨⟨_,_,rfl,trivial,_,_,rfl,trivial,rfl⟩,(aC (aB aZ)),trivial⟩ ⟨⟨1000000,rfl⟩,trivial⟩ (za rfl rfl ⟨_,rfl,Cv.tu (zk zf6 (zn _))⟩)
  |ok x1 r1=>
   rw[h1]at h
   simp only at h
   obtain⟨j1,e1,_,hj1,_⟩:=zfe h1
   have hl1:r1.length<=r0.length:=by rw[e1,List.length_drop];omega
   cases h2:vecP r1 with
   |err e'=>
    rw[h2]at h
    injection h with h
    subst h
    refine zj [(0,0)] [0] (λvs _=>ze0 (vs 0) l r0 x0 (by omega) h0) (zi rfl ⟨_,_,rfl,rfl,rfl⟩) rfl ⟨(aB aZ),trivial⟩ ⟨zac,trivial⟩ ?_
    refine zj [(0,0)] [0] (λvs _=>ze0 (vs 0) r0 r1 x1 (by omega) h1) (zi rfl ⟨_,_,rfl,rfl,rfl⟩) rfl ⟨(aB aZ),trivial⟩ ⟨zac,trivial⟩ ?_
    refine zj [(0,0)] [0] (λvs _=>zeq (vs 0) r1 _ (by omega) h2) (zi rfl ⟨_,_,rfl,rfl,rfl⟩) rfl ⟨(aB aZ),trivial⟩ ⟨zac,trivial⟩ ?_
    refine zj [(0,0)] [0] (λvs _=>zh3 (vs 0) _ (by omega) 1 (by omega)) (zi rfl ⟨_,_,rfl,rfl,_,_,rfl,cr,rfl⟩) rfl ⟨⟨_,_,rfl,trivial,_,_,rfl,cr,rfl⟩,trivial⟩ ⟨zac,trivial⟩ ?_
    refine Vint.byte 0 rfl ?_
    refine zj [(0,0)] [0] (λvs _=>zf9 (vs 0) _) (zi rfl ⟨_,_,rfl,rfl,rfl⟩) rfl ⟨⟨_,_,rfl,trivial,_,_,rfl,cr,rfl⟩,trivial⟩ ⟨zac,trivial⟩ ?_
    refine zt (by simp only[zb];omega) (zp ?_)
    exact zal (.inl rfl) [(0,0),(1,1)] [(2, .own 1),(3, .r (Er _))] [(1,some (.box (zl6.map .r)))] rfl ⟨rfl,cr,⟨rfl,rfl⟩,trivial⟩ ⟨⟨_,_,rfl,trivial,_,_,rfl,trivial,rfl⟩,(aC (aB aZ)),trivial⟩ ⟨⟨1000000,rfl⟩,trivial⟩ (za rfl rfl ⟨_,rfl,Cv.tu (zk zf6 (zn _))⟩)
   |ok x2 r2=>
    rw[h2]at h
    simp only at h
    obtain⟨j2,e2,_,hj2,_⟩:=zfe h2
    have hl2:r2.length<=r1.length:=by rw[e2,List.length_drop];omega
    cases h
set_option maxHeartbeats 2000000 in
theorem zqd(v:Value)(l:List UInt8)(hl:l.length<=8000000000)(x0 x1 x2 r0 r1 r2:List UInt8)(h0:vecP l= .ok x0 r0)(h1:vecP r0= .ok x1 r1)(h2:vecP r1= .ok x2 r2)(O1:List (Nat×Ow))(x:Leaf)(e:Nat)
  (h:match zmp [x0,x1,x2] r2 with
   | .err e'=>O1=rdZ/\x=zl/\e=e'
   | .ok y r=>O1=rdL r/\x=y/\e=0):Acts aP 481 1 (rdL l) [.own 0] [(0,v)] 2 O1 (.r (.tu [.ag x.c,Er e])):=by
 refine zag (T:=Tab) mixed Tab_ok Tryz.func481 rfl (by kernel_rfl) rfl ?_ ?_
 ·cases hP:zmp [x0,x1,x2] r2 with
  |err e'=>rw[hP]at h;obtain⟨rfl,_,_⟩:=h;exact zxu _ _ _
  |ok m r=>rw[hP]at h;obtain⟨rfl,_,_⟩:=h;exact zbe _ _ _ _ _
 obtain⟨j0,e0,_,hj0,_⟩:=zfe h0
 have hl0:r0.length<=l.length:=by rw[e0,List.length_drop];omega
 obtain⟨j1,e1,_,hj1,_⟩:=zfe h1
 have hl1:r1.length<=r0.length:=by rw[e1,List.length_drop];omega
 obtain⟨j2,e2,_,hj2,_⟩:=zfe h2
 have hl2:r2.length<=r1.length:=by rw[e2,List.length_drop];omega
 refine zj [(0,0)] [0] (λvs _=>ze0 (vs 0) l r0 x0 (by omega) h0) (zi rfl ⟨_,_,rfl,rfl,rfl⟩) rfl ⟨(aB aZ),trivial⟩ ⟨zac,trivial⟩ ?_
 refine zj [(0,0)] [0] (λvs _=>ze0 (vs 0) r0 r1 x1 (by omega) h1) (zi rfl ⟨_,_,rfl,rfl,rfl⟩) rfl ⟨(aB aZ),trivial⟩ ⟨zac,trivial⟩ ?_
 refine zj [(0,0)] [0] (λvs _=>ze0 (vs 0) r1 r2 x2 (by omega) h2) (zi rfl ⟨_,_,rfl,rfl,rfl⟩) rfl ⟨(aB aZ),trivial⟩ ⟨zac,trivial⟩ ?_
 cases r2 with
 |nil=>
  obtain⟨rfl,rfl,rfl⟩:=h
  refine zj [(0,0)] [0] (λvs _=>z2c (vs 0) [] 1 (by omega) (by simp)) (zi rfl ⟨_,_,rfl,rfl,_,_,rfl,cr,rfl⟩) rfl ⟨(aB aZ),trivial⟩ ⟨zac,trivial⟩ ?_
  refine Vint.byte 0 rfl ?_
  refine zj [(0,0)] [0] (λvs _=>zf9 (vs 0) _) (zi rfl ⟨_,_,rfl,rfl,rfl⟩) rfl ⟨⟨_,_,rfl,trivial,_,_,rfl,cr,rfl⟩,trivial⟩ ⟨zac,trivial⟩ ?_
  refine zt rfl (zp ?_)
  exact zal (.inl rfl) [(0,0),(1,1)] [(2, .own 1),(3, .r (Er _))] [(1,some (.box (zl6.map .r)))] rfl ⟨rfl,cr,⟨rfl,rfl⟩,trivial⟩ ⟨⟨_,_,rfl,trivial,_,_,rfl,trivial,rfl⟩,(aC (aB aZ)),trivial⟩ ⟨⟨1000000,rfl⟩,trivial⟩ (za rfl rfl ⟨_,rfl,Cv.tu (zk zf6 (zn _))⟩)
 |cons c r=>
  have hcl:=c.toNat_lt
  refine zj [(0,0)] [0] (λvs _=>z5h (vs 0) (c::r) 1 (by omega) (by simp)) (zi rfl ⟨_,_,rfl,rfl,_,_,rfl,cr,rfl⟩) rfl ⟨(aB aZ),trivial⟩ ⟨zac,trivial⟩ ?_
  rw[show List.take 1 (c::r)=[c]from rfl,num1]
  refine Vint.byte c rfl ?_
  refine zj [(0,0)] [0] (λvs _=>zh2 (vs 0) r) (zi rfl ⟨_,_,rfl,rfl,rfl⟩) rfl ⟨(aB aZ),trivial⟩ ⟨zac,trivial⟩ ?_
  refine zu rfl (zq ?_)
  simp only[zmp]at h
  by_cases hc:c.toNat=0\/3<c.toNat
  ·rw[if_pos hc]at h
   obtain⟨rfl,rfl,rfl⟩:=h
   by_cases hc0:c.toNat=0
   ·refine zt (by simp only[zb];omega) (zp ?_)
    exact zal (.inl rfl) [(0,0),(1,1)] [(2, .own 1),(3, .r (Er _))] [(1,some (.box (zl6.map .r)))] rfl ⟨rfl,cr,⟨rfl,rfl⟩,trivial⟩ ⟨⟨_,_,rfl,trivial,_,_,rfl,trivial,rfl⟩,(aC (aB aZ)),trivial⟩ ⟨⟨1000000,rfl⟩,trivial⟩ (za rfl rfl ⟨_,rfl,Cv.tu (zk zf6 (zn _))⟩)
   ·refine zu (by simp only[zb];omega) ?_
    refine zt (by simp only[zb];omega) (zp ?_)
    exact zal (.inl rfl) [(0,0),(1,1)] [(2, .own 1),(3, .r (Er _))] [(1,some (.box (zl6.map .r)))] rfl ⟨rfl,cr,⟨rfl,rfl⟩,trivial⟩ ⟨⟨_,_,rfl,trivial,_,_,rfl,trivial,rfl⟩,(aC (aB aZ)),trivial⟩ ⟨⟨1000000,rfl⟩,trivial⟩ (za rfl rfl ⟨_,rfl,Cv.tu (zk zf6 (zn _))⟩)
  rw[if_neg hc]at h
  refine zu (by simp only[zb];omega) ?_
  refine zu (by simp only[zb];omega) (zq ?_)
  by_cases hc3:c.toNat=3
  ·rw[show zge c r=vecP r by unfold zge;rw[if_pos hc3]]at h
   refine zt (by simp only[zb];omega) (zp ?_)
   have hlr:r.length<=8000000000:=by simp only[List.length_cons]at hl2;omega
   cases hp:vecP r with
   |err e'=>
    rw[hp]at h
    obtain⟨rfl,rfl,rfl⟩:=h
    have he:=zlp hp
    refine zj [(0,0)] [0] (λvs _=>zeq (vs 0) r _ (by omega) hp) (zi rfl ⟨_,_,rfl,rfl,rfl⟩) rfl ⟨(aB aZ),trivial⟩ ⟨zac,trivial⟩ ?_
    refine zj [(0,0)] [0] (λvs _=>zft (vs 0) _ (by omega)) (zi rfl ⟨_,_,rfl,rfl,rfl⟩) rfl ⟨⟨_,_,rfl,trivial,_,_,rfl,cr,rfl⟩,trivial⟩ ⟨zac,trivial⟩ ?_
    refine zj [(0,0)] [0] (λvs _=>zf9 (vs 0) _) (zi rfl ⟨_,_,rfl,rfl,rfl⟩) rfl ⟨⟨_,_,rfl,trivial,_,_,rfl,cr,rfl⟩,trivial⟩ ⟨zac,trivial⟩ ?_
    refine zt (by simp only[zb];omega) (zp ?_)
    exact zal (.inl rfl) [(0,0),(1,1)] [(2, .own 1),(3, .r (Er _))] [(1,some (.box (zl6.map .r)))] rfl ⟨rfl,cr,⟨rfl,rfl⟩,trivial⟩ ⟨⟨_,_,rfl,trivial,_,_,rfl,trivial,rfl⟩,(aC (aB aZ)),trivial⟩ ⟨⟨1000000,rfl⟩,trivial⟩ (za rfl rfl ⟨_,rfl,Cv.tu (zk zf6 (zn _))⟩)
   |ok pa r'=>
    rw[hp]at h
    simp only at h
    obtain⟨jp,ep,_,hjp,_⟩:=zfe hp
    have hlp:r'.length<=r.length:=by rw[ep,List.length_drop];omega
    refine zj [(0,0)] [0] (λvs _=>ze0 (vs 0) r r' pa (by omega) hp) (zi rfl ⟨_,_,rfl,rfl,rfl⟩) rfl ⟨(aB aZ),trivial⟩ ⟨zac,trivial⟩ ?_
    cases hs:vecP r' with
    |err e'=>
     simp only[zj3,hs]at h
     obtain⟨rfl,rfl,rfl⟩:=h
     have he:=zlp hs
     refine zj [(0,0)] [0] (λvs _=>zeq (vs 0) r' _ (by omega) hs) (zi rfl ⟨_,_,rfl,rfl,rfl⟩) rfl ⟨(aB aZ),trivial⟩ ⟨zac,trivial⟩ ?_
     refine zj [(0,0)] [0] (λvs _=>zf9 (vs 0) _) (zi rfl ⟨_,_,rfl,rfl,rfl⟩) rfl ⟨⟨_,_,rfl,trivial,_,_,rfl,cr,rfl⟩,trivial⟩ ⟨zac,trivial⟩ ?_
     refine zt (by simp only[zb];omega) (zp ?_)
     exact zal (.inl rfl) [(0,0),(1,1)] [(2, .own 1),(3, .r (Er _))] [(1,some (.box (zl6.map .r)))] rfl ⟨rfl,cr,⟨rfl,rfl⟩,trivial⟩ ⟨⟨_,_,rfl,trivial,_,_,rfl,trivial,rfl⟩,(aC (aB aZ)),trivial⟩ ⟨⟨1000000,rfl⟩,trivial⟩ (za rfl rfl ⟨_,rfl,Cv.tu (zk zf6 (zn _))⟩)
    |ok sg q=>
     simp only[zj3,hs]at h
     refine zj [(0,0)] [0] (λvs _=>ze0 (vs 0) r' q sg (by omega) hs) (zi rfl ⟨_,_,rfl,rfl,rfl⟩) rfl ⟨(aB aZ),trivial⟩ ⟨zac,trivial⟩ ?_
     refine zj [(0,0)] [0] (λvs _=>zh2 (vs 0) q) (zi rfl ⟨_,_,rfl,rfl,rfl⟩) rfl ⟨(aB aZ),trivial⟩ ⟨zac,trivial⟩ ?_
     refine zu rfl (zq ?_)
     refine za rfl rfl ?_
     have hcv:Cv (.ag [bs x0,bs x1,bs x2,U8 c,bs pa,bs sg]) (.ag (zfw [x0,x1,x2] c pa sg).c):=Cv.ag (zk (cr) (zk (cr) (zk (cr) (zk (cr) (zk (cr) (zk (cr) Cvs.nil))))))
     refine Vcall.mk' (zfi (zfw [x0,x1,x2] c pa sg)) (zk hcv Cvs.nil) ?_
     by_cases hR:(zfw [x0,x1,x2] c pa sg).right=true
     ·rw[if_pos hR]at h
      obtain⟨rfl,rfl,rfl⟩:=h
      refine zu (by simp only[zb];exact hR) (zq ?_)
      refine za rfl rfl ?_
      exact zal (.inl rfl) [(0,0),(1,1)] [(2, .own 1),(3, .r (Er 0))] [(1,some (.box (([bs x0,bs x1,bs x2,U8 c,bs pa,bs sg]:List RV).map .r)))] rfl ⟨rfl,cr,⟨rfl,rfl⟩,trivial⟩ ⟨(aB aZ),(aC (aB aZ)),trivial⟩ ⟨⟨1000000,rfl⟩,trivial⟩ (za rfl rfl ⟨_,rfl,Cv.tu (zk hcv (zn _))⟩)
     ·rw[if_neg hR]at h
      obtain⟨rfl,rfl,rfl⟩:=h
      refine zt (by simp only[zb];exact Bool.eq_false_iff.2 hR) (zp ?_)
      exact zal (.inl rfl) [(0,0),(1,1)] [(2, .own 1),(3, .r (Er _))] [(1,some (.box (zl6.map .r)))] rfl ⟨rfl,cr,⟨rfl,rfl⟩,trivial⟩ ⟨⟨_,_,rfl,trivial,_,_,rfl,trivial,rfl⟩,(aC (aB aZ)),trivial⟩ ⟨⟨1000000,rfl⟩,trivial⟩ (za rfl rfl ⟨_,rfl,Cv.tu (zk zf6 (zn _))⟩)
  rw[show zge c r= .ok [] r by unfold zge;rw[if_neg hc3]]at h
  simp only at h
  refine zu (by simp only[zb];omega) (zq ?_)
  have hlr:r.length<=8000000000:=by simp only[List.length_cons]at hl2;omega
  cases hs:vecP r with
  |err e'=>
   simp only[zj3,hs]at h
   obtain⟨rfl,rfl,rfl⟩:=h
   have he:=zlp hs
   refine zj [(0,0)] [0] (λvs _=>zeq (vs 0) r _ (by omega) hs) (zi rfl ⟨_,_,rfl,rfl,rfl⟩) rfl ⟨(aB aZ),trivial⟩ ⟨zac,trivial⟩ ?_
   refine zj [(0,0)] [0] (λvs _=>zf9 (vs 0) _) (zi rfl ⟨_,_,rfl,rfl,rfl⟩) rfl ⟨⟨_,_,rfl,trivial,_,_,rfl,cr,rfl⟩,trivial⟩ ⟨zac,trivial⟩ ?_
   refine zt (by simp only[zb];omega) (zp ?_)
   exact zal (.inl rfl) [(0,0),(1,1)] [(2, .own 1),(3, .r (Er _))] [(1,some (.box (zl6.map .r)))] rfl ⟨rfl,cr,⟨rfl,rfl⟩,trivial⟩ ⟨⟨_,_,rfl,trivial,_,_,rfl,trivial,rfl⟩,(aC (aB aZ)),trivial⟩ ⟨⟨1000000,rfl⟩,trivial⟩ (za rfl rfl ⟨_,rfl,Cv.tu (zk zf6 (zn _))⟩)
  |ok sg q=>
   simp only[zj3,hs]at h
   refine zj [(0,0)] [0] (λvs _=>ze0 (vs 0) r q sg (by omega) hs) (zi rfl ⟨_,_,rfl,rfl,rfl⟩) rfl ⟨(aB aZ),trivial⟩ ⟨zac,trivial⟩ ?_
   refine zj [(0,0)] [0] (λvs _=>zh2 (vs 0) q) (zi rfl ⟨_,_,rfl,rfl,rfl⟩) rfl ⟨(aB aZ),trivial⟩ ⟨zac,trivial⟩ ?_
   refine zu rfl (zq ?_)
   refine za rfl rfl ?_
   have hcv:Cv (.ag [bs x0,bs x1,bs x2,U8 c, .x (.slice none 0 0),bs sg]) (.ag (zfw [x0,x1,x2] c [] sg).c):=Cv.ag (zk (cr) (zk (cr) (zk (cr) (zk (cr) (zk (Cv.nil 1) (zk (cr) Cvs.nil))))))
   refine Vcall.mk' (zfi (zfw [x0,x1,x2] c [] sg)) (zk hcv Cvs.nil) ?_
   by_cases hR:(zfw [x0,x1,x2] c [] sg).right=true
   ·rw[if_pos hR]at h
    obtain⟨rfl,rfl,rfl⟩:=h
    refine zu (by simp only[zb];exact hR) (zq ?_)
    refine za rfl rfl ?_
    exact zal (.inl rfl) [(0,0),(1,1)] [(2, .own 1),(3, .r (Er 0))] [(1,some (.box (([bs x0,bs x1,bs x2,U8 c, .x (.slice none 0 0),bs sg]:List RV).map .r)))] rfl ⟨rfl,cr,⟨rfl,rfl⟩,trivial⟩ ⟨(aB aZ),(aC (aB aZ)),trivial⟩ ⟨⟨1000000,rfl⟩,trivial⟩ (za rfl rfl ⟨_,rfl,Cv.tu (zk hcv (zn _))⟩)
   ·rw[if_neg hR]at h
    obtain⟨rfl,rfl,rfl⟩:=h
    refine zt (by simp only[zb];exact Bool.eq_false_iff.2 hR) (zp ?_)
    exact zal (.inl rfl) [(0,0),(1,1)] [(2, .own 1),(3, .r (Er _))] [(1,some (.box (zl6.map .r)))] rfl ⟨rfl,cr,⟨rfl,rfl⟩,trivial⟩ ⟨⟨_,_,rfl,trivial,_,_,rfl,trivial,rfl⟩,(aC (aB aZ)),trivial⟩ ⟨⟨1000000,rfl⟩,trivial⟩ (za rfl rfl ⟨_,rfl,Cv.tu (zk zf6 (zn _))⟩)
theorem z2d(v:Value)(l r:List UInt8)(x:Leaf)(hl:l.length<=8000000000)(h:znt l= .ok x r):Acts aP 481 1 (rdL l) [.own 0] [(0,v)] 2 (rdL r) (.r (.tu [.ag x.c,Er 0])):=by
 unfold znt at h
 cases hv:zev 3 l with
 |err e'=>rw[hv]at h;cases h
 |ok vs q=>
  rw[hv]at h
  simp only[zev]at hv
  cases h0:vecP l with
  |err e'=>rw[h0]at hv;cases hv
  |ok x0 r0=>
   rw[h0]at hv
   simp only at hv
   cases h1:vecP r0 with
   |err e'=>rw[h1]at hv;cases hv
   |ok x1 r1=>
    rw[h1]at hv
    simp only at hv
    cases h2:vecP r1 with
    |err e'=>rw[h2]at hv;cases hv
    |ok x2 r2=>
     rw[h2]at hv
     simp only[PR.ok.injEq]at hv
     obtain⟨rfl,rfl⟩:=hv
     simp only at h
     exact zqd v l hl x0 x1 x2 r0 r1 r2 h0 h1 h2 _ _ _ (by rw[h];exact⟨rfl,rfl,rfl⟩)
end Go.Proofs.YtkegaaonpekkgaaGreat.Sx
