import Derived.Test.YtkegaaonpekkgaaGreatXqTb
import Derived.Test.YtkegaaonpekkgaaGreatXqSxFl
namespace Go.Proofs.YtkegaaonpekkgaaGreat.Sx
open Go.RowKit
set_option maxHeartbeats 2000000
theorem Bk(v:Value)(c:UInt8)(l:cT)(hc:1<c.toNat):yz aP 483 1 (v8 (c::l)) [.own 0] [(0,v)] 1 (pe 3) (.r (.b false)):=by
 refine yk (T:=Tab) mixed Tab_ok Tryz.func483 rfl (by kernel_rfl) rfl (xH _ _ _ _ _) ?_
 refine zj [(0,0)] [0] (λvs _=>p9 (vs 0) (c::l) 1 (by simp)) (zi rfl ⟨_,_,rfl,rfl,_,_,rfl,cr,rfl⟩) rfl ⟨(aB aZ),trivial⟩ ⟨zY,trivial⟩ ?_
 refine cX ?_
 refine zm (by omega) (by simp) rfl (zg rfl ?_)
 refine cY ?_ (by simp only[zb];omega)
 refine zj [(0,0)] [0] (λvs _=>kv (vs 0) l 3) (zi rfl ⟨_,_,rfl,rfl,_,_,rfl,cr,rfl⟩) rfl ⟨(aB aZ),trivial⟩ ⟨zY,trivial⟩ ?_
 exact yr (.inl rfl) [(0,0)] [(2,.r (.b false))] [] rfl ⟨cr,⟨rfl,rfl⟩,trivial⟩ ⟨⟨_,_,rfl,trivial,_,_,rfl,cr,rfl⟩,trivial⟩ ⟨⟨1000000,rfl⟩,trivial⟩ (cr)
theorem E6(v:Value)(l:cT):yz aP 302 1 (v8 l) [.own 0] [(0,v)] 1 (v8 l) (.r (Er (if l.length=0 then 0 else 5))):=by
 refine yk (T:=Tab) mixed Tab_ok Tryz.func302 rfl (by kernel_rfl) rfl (xH _ _ _ _ _) ?_
 refine zj [(0,0)] [0] (λvs _=>mf (vs 0) l) (zi rfl ⟨_,_,rfl,rfl,rfl⟩) rfl ⟨(aB aZ),trivial⟩ ⟨zY,trivial⟩ ?_
 refine cX ?_
 by_cases h:l.length=0
 ·rw[cO h]
  refine cX ?_ (by simp only[zb];omega)
  exact yr (.inl rfl) [(0,0)] [(2,.r (Er 0))] [] rfl ⟨cr,⟨rfl,rfl⟩,trivial⟩ ⟨(aB aZ),trivial⟩ ⟨⟨1000000,rfl⟩,trivial⟩ (cr)
 ·rw[cQ h]
  refine cY ?_ (by simp only[zb];omega)
  exact yr (.inl rfl) [(0,0)] [(2,.r (Er 5))] [] rfl ⟨cr,⟨rfl,rfl⟩,trivial⟩ ⟨(aB aZ),trivial⟩ ⟨⟨1000000,rfl⟩,trivial⟩ (cr)
theorem Az(c:UInt8){K:Int->Prop}(hK:K ((c.toNat/64:Nat):Int)):Vshr .u8 (c.toNat:Int) 6 K:=by
 refine⟨by omega,_,?_,hK⟩
 show((c.toNat/64:Nat):Int)=(c.toNat:Int).fdiv (2^6)
 rw[Int.fdiv_eq_ediv_of_nonneg _ (by decide)]
 omega
theorem JG(c:UInt8){K:Int->Prop}(hK:K ((c.toNat%64:Nat):Int)):Vbits .u8 .and (c.toNat:Int) 63 K:=by
 refine⟨_,?_,hK⟩
 have hc:=c.toNat_lt
 show((c.toNat%64:Nat):Int)=IntKind.u8.wrap (((BitVec.ofInt 8 (c.toNat:Int)&&&BitVec.ofInt 8 63).toNat:Nat):Int)
 have e:(BitVec.ofInt 8 (c.toNat:Int)).toNat=c.toNat:=by rw[BitVec.toNat_ofInt];omega
 have e2:(BitVec.ofInt 8 63).toNat=63:=by decide
 rw[BitVec.toNat_and,e,e2,show(63:Nat)=2^6-1 from rfl,Nat.and_two_pow_sub_one_eq_mod]
 have:c.toNat%2^6<64:=Nat.mod_lt _ (by decide)
 simp only[IntKind.wrap]
 simp[IntKind.bits,IntKind.signed]
 omega
theorem RH(c:UInt8)(s:Nat)(h:s=2^(c.toNat/64)):(192<=c.toNat->4<s)/\(c.toNat<192->s=yN c+1):=by
 have hc:=c.toNat_lt
 have:c.toNat/64=0\/c.toNat/64=1\/c.toNat/64=2\/c.toNat/64=3:=by omega
 unfold yN
 refine⟨λh1=>?_,λh1=>?_⟩
 ·rcases this with h2 |h2 |h2 |h2<;>rw[h2]at h<;>simp at h<;>omega
 ·rcases this with h2 |h2 |h2 |h2<;>rw[h2]at h<;>simp at h<;>(split<;>(try split))<;>omega
theorem UA(c:UInt8):yN c<=3:=by unfold yN;split<;>(try split)<;>omega
theorem RN{n:Nat}(h:0<n)(h2:n<256):IntKind.u8.wrap ((n:Int)-1)=((n-1:Nat):Int):=by
 simp only[IntKind.wrap]
 simp[IntKind.bits,IntKind.signed]
 omega
def Uu(v:Value)(c:UInt8)(l:cT)(i:Nat×Nat):St:=
 ⟨[(0,.own 0),(4,.r (bs [c])),(6,.r (I i.2)),(7,.r (.i .u8 i.1)),(1000000,.nm 0 v)],[(0,some (gS (bs l) 0))],1⟩
theorem gn(v:Value)(c:UInt8)(l:cT)(hl:l.length<=8000000000000)(O1:List (Nat×Ow))(n:Nat)(ok:Bool)
  (h:match vp (c::l)with
   | .err e=>O1=pe e/\n=0/\ok=false
   | .ok m r=>O1=v8 r/\n=m/\ok=true):yz aP 477 1 (v8 (c::l)) [.own 0] [(0,v)] 1 O1 (.r (.tu [I n,.b ok])):=by
 refine yk (T:=Tab) mixed Tab_ok Tryz.func477 rfl (by kernel_rfl) rfl ?_ ?_
 ·cases hP:vp (c::l)with
  |err e=>rw[hP]at h;obtain⟨rfl,_,_⟩:=h;exact xH _ _ _ _ _
  |ok m r=>rw[hP]at h;obtain⟨rfl,_,_⟩:=h;exact xH _ _ _ _ _
 refine Vcode.scope mixed Tab_ok 0 (Uu v c l) (λi=>i.2*2^i.1=2^(c.toNat/64)/\i.1<=3/\i.2<=8) (λi=>i.1) rfl ?_ ?_
 ·refine zj [(0,0)] [0] (λvs _=>p9 (vs 0) (c::l) 1 (by simp)) (zi rfl ⟨_,_,rfl,rfl,_,_,rfl,cr,rfl⟩) rfl ⟨(aB aZ),trivial⟩ ⟨zY,trivial⟩ ?_
  refine cX ?_
  refine zm (by omega) (by simp) rfl (zg rfl ?_)
  refine Az c ?_
  have hc:=c.toNat_lt
  by_cases hk:0<c.toNat/64
  ·refine cY ?_ (by simp only[zb];omega)
   refine zd (m:=2) (by omega) (by omega) ?_
   refine⟨((c.toNat/64-1:Nat):Int),by rw[RN hk (by omega)],?_⟩
   refine⟨(c.toNat/64-1,2),⟨?_,by simp only;omega,by simp⟩,zM [(0,0)]⟩
   simp only
   rw[<-Nat.pow_succ',show(c.toNat/64-1).succ=c.toNat/64 by omega]
  refine cX ?_ (by simp only[zb];omega)
  obtain⟨s,hs'⟩: ∃s:Nat,s=1:=⟨1,rfl⟩
  have hs:s=2^(c.toNat/64):=by rw[hs',show c.toNat/64=0 by omega]
  have hsz:=RH c s hs
  by_cases h192:192<=c.toNat
  ·have h4:=hsz.1 h192
   refine cY ?_ (by simp only[zb];omega)
   refine zj [(0,0)] [0] (λvs _=>kv (vs 0) l 3) (zi rfl ⟨_,_,rfl,rfl,_,_,rfl,cr,rfl⟩) rfl ⟨(aB aZ),trivial⟩ ⟨zY,trivial⟩ ?_
   simp only[vp,cO h192]at h
   obtain⟨rfl,rfl,rfl⟩:=h
   exact yr (.inl rfl) [(0,0)] [(2,.r (I 0)),(3,.r (.b false))] [] rfl ⟨cr,cr,⟨rfl,rfl⟩,trivial⟩ ⟨⟨_,_,rfl,trivial,_,_,rfl,cr,rfl⟩,trivial⟩ ⟨⟨1000000,rfl⟩,trivial⟩ ⟨_,rfl,cr⟩
  have hs1:=hsz.2 (by omega)
  have hm:=UA c
  refine cX ?_ (by simp only[zb];omega)
  refine zd (m:=((yN c:Nat):Int)) (by omega) (by omega) ?_
  by_cases hr:l.length<yN c
  ·refine zj [(0,0)] [0] (λvs _=>rl (vs 0) l (yN c) hr) (zi rfl ⟨_,_,rfl,rfl,_,_,rfl,cr,rfl⟩) rfl ⟨(aB aZ),trivial⟩ ⟨zY,trivial⟩ ?_
   refine cY ?_
   simp only[vp,cQ h192,cO hr]at h
   obtain⟨rfl,rfl,rfl⟩:=h
   exact yr (.inl rfl) [(0,0)] [(2,.r (I 0)),(3,.r (.b false))] [] rfl ⟨cr,cr,⟨rfl,rfl⟩,trivial⟩ ⟨⟨_,_,rfl,trivial,_,_,rfl,cr,rfl⟩,trivial⟩ ⟨⟨1000000,rfl⟩,trivial⟩ ⟨_,rfl,cr⟩
  refine zj [(0,0)] [0] (λvs _=>p9 (vs 0) l (yN c) (by omega)) (zi rfl ⟨_,_,rfl,rfl,_,_,rfl,cr,rfl⟩) rfl ⟨(aB aZ),trivial⟩ ⟨zY,trivial⟩ ?_
  refine cX ?_
  refine zm (by omega) (by simp) rfl (zg rfl ?_)
  refine JG c ?_
  refine zw ?_
  have hd:(UInt8.ofNat (c.toNat%64)).toNat=c.toNat%64:=by rw[UInt8.toNat_ofNat'];have:=c.toNat_lt;omega
  refine z7 (j:=(UInt8.ofNat (c.toNat%64)::l.take (yN c)).length) (zs:=(UInt8.ofNat (c.toNat%64)::l.take (yN c)).map U8) (by rw[bL];simp only[maxLen];omega) (by simp;omega) (by rw[bJ];omega) (by rw[cJ];show _=RV.i .u8 ((UInt8.ofNat (c.toNat%64)).toNat:Int)::_;rw[hd];rfl) ?_
  refine ze (oL (UInt8.ofNat (c.toNat%64)::l.take (yN c)) (by rw[bJ,bL];omega)) ?_
  have hn:wi 0 (UInt8.ofNat (c.toNat%64)::l.take (yN c))=wi (c.toNat%64) (l.take (yN c)):=by simp only[wi,List.foldl_cons,hd,Nat.mul_zero,Nat.zero_add]
  have hb:wi (c.toNat%64) (l.take (yN c))<1073741824:=by
   have h4:=kU (l.take (yN c)) (c.toNat%64) 64 (by omega)
   have h6:(256:Nat)^(l.take (yN c)).length<=256^3:=bV (by omega) (by rw[bL];omega)
   have:(256:Nat)^3=16777216:=by decide
   omega
  rw[hn]
  refine zd (m:=((wi (c.toNat%64) (l.take (yN c)):Nat):Int)) rfl (by omega) ?_
  refine ze (gm _ (by omega)) ?_
  by_cases he:vX (wi (c.toNat%64) (l.take (yN c)))≠yN c+1
  ·refine cY ?_ (by simp only[zb];omega)
   refine zj [(0,0)] [0] (λvs _=>kv (vs 0) (l.drop (yN c)) 3) (zi rfl ⟨_,_,rfl,rfl,_,_,rfl,cr,rfl⟩) rfl ⟨(aB aZ),trivial⟩ ⟨zY,trivial⟩ ?_
   simp only[vp,cQ h192,cQ hr]at h
   rw[cO he]at h
   obtain⟨rfl,rfl,rfl⟩:=h
   exact yr (.inl rfl) [(0,0)] [(2,.r (I 0)),(3,.r (.b false))] [] rfl ⟨cr,cr,⟨rfl,rfl⟩,trivial⟩ ⟨⟨_,_,rfl,trivial,_,_,rfl,cr,rfl⟩,trivial⟩ ⟨⟨1000000,rfl⟩,trivial⟩ ⟨_,rfl,cr⟩
  refine cX ?_ (by simp only[zb];omega)
  simp only[vp,cQ h192,cQ hr]at h
  rw[cQ he]at h
  obtain⟨rfl,rfl,rfl⟩:=h
  exact yr (.inl rfl) [(0,0)] [(2,.r (I _)),(3,.r (.b true))] [] rfl ⟨cr,cr,⟨rfl,rfl⟩,trivial⟩ ⟨(aB aZ),trivial⟩ ⟨⟨1000000,rfl⟩,trivial⟩ ⟨_,rfl,cr⟩
 ·rintro⟨i,s⟩ ⟨h1,h2,h3⟩
  simp only at h1 h2 h3
  by_cases hk:0<i
  ·refine cY ?_ (by simp only[zb];omega)
   refine zd (m:=((2*s:Nat):Int)) (by omega) (by omega) ?_
   refine⟨((i-1:Nat):Int),by rw[RN hk (by omega)],?_⟩
   have hp:2*2^(i-1)=2^i:=by rw[<-Nat.pow_succ',show(i-1).succ=i by omega]
   have hs2:2*s*2^(i-1)=2^(c.toNat/64):=by rw[<-h1,<-hp,Nat.mul_comm 2 s,Nat.mul_assoc]
   refine⟨(i-1,2*s),⟨hs2,by simp only;omega,?_⟩,by simp only;omega,zM [(0,0)]⟩
   simp only
   have h8:2^(c.toNat/64)<=2^3:=bV (by omega) (by have:=c.toNat_lt;omega)
   have h9:0<2^(i-1):=Nat.pow_pos (by omega)
   have:2*s*1<=2*s*2^(i-1):=Nat.mul_le_mul_left _ h9
   omega
  have hi0:i=0:=by omega
  subst hi0
  refine cX ?_ (by simp only[zb];omega)
  have hs:s=2^(c.toNat/64):=by rw[<-h1];simp
  have hsz:=RH c s hs
  by_cases h192:192<=c.toNat
  ·have h4:=hsz.1 h192
   refine cY ?_ (by simp only[zb];omega)
   refine zj [(0,0)] [0] (λvs _=>kv (vs 0) l 3) (zi rfl ⟨_,_,rfl,rfl,_,_,rfl,cr,rfl⟩) rfl ⟨(aB aZ),trivial⟩ ⟨zY,trivial⟩ ?_
   simp only[vp,cO h192]at h
   obtain⟨rfl,rfl,rfl⟩:=h
   exact yr (.inl rfl) [(0,0)] [(2,.r (I 0)),(3,.r (.b false))] [] rfl ⟨cr,cr,⟨rfl,rfl⟩,trivial⟩ ⟨⟨_,_,rfl,trivial,_,_,rfl,cr,rfl⟩,trivial⟩ ⟨⟨1000000,rfl⟩,trivial⟩ ⟨_,rfl,cr⟩
  have hs1:=hsz.2 (by omega)
  have hm:=UA c
  refine cX ?_ (by simp only[zb];omega)
  refine zd (m:=((yN c:Nat):Int)) (by omega) (by omega) ?_
  by_cases hr:l.length<yN c
  ·refine zj [(0,0)] [0] (λvs _=>rl (vs 0) l (yN c) hr) (zi rfl ⟨_,_,rfl,rfl,_,_,rfl,cr,rfl⟩) rfl ⟨(aB aZ),trivial⟩ ⟨zY,trivial⟩ ?_
   refine cY ?_
   simp only[vp,cQ h192,cO hr]at h
   obtain⟨rfl,rfl,rfl⟩:=h
   exact yr (.inl rfl) [(0,0)] [(2,.r (I 0)),(3,.r (.b false))] [] rfl ⟨cr,cr,⟨rfl,rfl⟩,trivial⟩ ⟨⟨_,_,rfl,trivial,_,_,rfl,cr,rfl⟩,trivial⟩ ⟨⟨1000000,rfl⟩,trivial⟩ ⟨_,rfl,cr⟩
  refine zj [(0,0)] [0] (λvs _=>p9 (vs 0) l (yN c) (by omega)) (zi rfl ⟨_,_,rfl,rfl,_,_,rfl,cr,rfl⟩) rfl ⟨(aB aZ),trivial⟩ ⟨zY,trivial⟩ ?_
  refine cX ?_
  refine zm (by omega) (by simp) rfl (zg rfl ?_)
  refine JG c ?_
  refine zw ?_
  have hd:(UInt8.ofNat (c.toNat%64)).toNat=c.toNat%64:=by rw[UInt8.toNat_ofNat'];have:=c.toNat_lt;omega
  refine z7 (j:=(UInt8.ofNat (c.toNat%64)::l.take (yN c)).length) (zs:=(UInt8.ofNat (c.toNat%64)::l.take (yN c)).map U8) (by rw[bL];simp only[maxLen];omega) (by simp;omega) (by rw[bJ];omega) (by rw[cJ];show _=RV.i .u8 ((UInt8.ofNat (c.toNat%64)).toNat:Int)::_;rw[hd];rfl) ?_
  refine ze (oL (UInt8.ofNat (c.toNat%64)::l.take (yN c)) (by rw[bJ,bL];omega)) ?_
  have hn:wi 0 (UInt8.ofNat (c.toNat%64)::l.take (yN c))=wi (c.toNat%64) (l.take (yN c)):=by simp only[wi,List.foldl_cons,hd,Nat.mul_zero,Nat.zero_add]
  have hb:wi (c.toNat%64) (l.take (yN c))<1073741824:=by
   have h4:=kU (l.take (yN c)) (c.toNat%64) 64 (by omega)
   have h6:(256:Nat)^(l.take (yN c)).length<=256^3:=bV (by omega) (by rw[bL];omega)
   have:(256:Nat)^3=16777216:=by decide
   omega
  rw[hn]
  refine zd (m:=((wi (c.toNat%64) (l.take (yN c)):Nat):Int)) rfl (by omega) ?_
  refine ze (gm _ (by omega)) ?_
  by_cases he:vX (wi (c.toNat%64) (l.take (yN c)))≠yN c+1
  ·refine cY ?_ (by simp only[zb];omega)
   refine zj [(0,0)] [0] (λvs _=>kv (vs 0) (l.drop (yN c)) 3) (zi rfl ⟨_,_,rfl,rfl,_,_,rfl,cr,rfl⟩) rfl ⟨(aB aZ),trivial⟩ ⟨zY,trivial⟩ ?_
   simp only[vp,cQ h192,cQ hr]at h
   rw[cO he]at h
   obtain⟨rfl,rfl,rfl⟩:=h
   exact yr (.inl rfl) [(0,0)] [(2,.r (I 0)),(3,.r (.b false))] [] rfl ⟨cr,cr,⟨rfl,rfl⟩,trivial⟩ ⟨⟨_,_,rfl,trivial,_,_,rfl,cr,rfl⟩,trivial⟩ ⟨⟨1000000,rfl⟩,trivial⟩ ⟨_,rfl,cr⟩
  refine cX ?_ (by simp only[zb];omega)
  simp only[vp,cQ h192,cQ hr]at h
  rw[cQ he]at h
  obtain⟨rfl,rfl,rfl⟩:=h
  exact yr (.inl rfl) [(0,0)] [(2,.r (I _)),(3,.r (.b true))] [] rfl ⟨cr,cr,⟨rfl,rfl⟩,trivial⟩ ⟨(aB aZ),trivial⟩ ⟨⟨1000000,rfl⟩,trivial⟩ ⟨_,rfl,cr⟩
theorem W1(v:Value):yz aP 477 1 (v8 []) [.own 0] [(0,v)] 1 (pe 4) (.r (.tu [I 0,.b false])):=by
 refine yk (T:=Tab) mixed Tab_ok Tryz.func477 rfl (by kernel_rfl) rfl (xH _ _ _ _ _) ?_
 refine Vcode.scope mixed Tab_ok 0 (Uu v 0 []) (λ_=>False) (λi=>i.1) rfl ?_ λ_ h=>h.elim
 refine zj [(0,0)] [0] (λvs _=>rl (vs 0) [] 1 (by simp)) (zi rfl ⟨_,_,rfl,rfl,_,_,rfl,cr,rfl⟩) rfl ⟨(aB aZ),trivial⟩ ⟨zY,trivial⟩ ?_
 refine cY ?_
 exact yr (.inl rfl) [(0,0)] [(2,.r (I 0)),(3,.r (.b false))] [] rfl ⟨cr,cr,⟨rfl,rfl⟩,trivial⟩ ⟨⟨_,_,rfl,trivial,_,_,rfl,cr,rfl⟩,trivial⟩ ⟨⟨1000000,rfl⟩,trivial⟩ ⟨_,rfl,cr⟩
theorem Zh(v:Value)(e:Nat)(he:e≠0):yz aP 477 1 (pe e) [.own 0] [(0,v)] 1 (pe e) (.r (.tu [I 0,.b false])):=by
 refine yk (T:=Tab) mixed Tab_ok Tryz.func477 rfl (by kernel_rfl) rfl (xH _ _ _ _ _) ?_
 refine Vcode.scope mixed Tab_ok 0 (Uu v 0 []) (λ_=>False) (λi=>i.1) rfl ?_ λ_ h=>h.elim
 refine zj [(0,0)] [0] (λvs _=>iF (vs 0) e he 1) (zi rfl ⟨_,_,rfl,rfl,_,_,rfl,cr,rfl⟩) rfl ⟨⟨_,_,rfl,trivial,_,_,rfl,cr,rfl⟩,trivial⟩ ⟨zY,trivial⟩ ?_
 refine cY ?_
 exact yr (.inl rfl) [(0,0)] [(2,.r (I 0)),(3,.r (.b false))] [] rfl ⟨cr,cr,⟨rfl,rfl⟩,trivial⟩ ⟨⟨_,_,rfl,trivial,_,_,rfl,cr,rfl⟩,trivial⟩ ⟨⟨1000000,rfl⟩,trivial⟩ ⟨_,rfl,cr⟩
theorem X3(v:Value)(l r:cT)(n:Nat)(hl:l.length<=8000000000000)(h:vp l= .ok n r):yz aP 477 1 (v8 l) [.own 0] [(0,v)] 1 (v8 r) (.r (.tu [I n,.b true])):=by
 cases l with
 |nil=>cases h
 |cons c l=>exact gn v c l (by simp at hl;omega) _ _ _ (by rw[h];exact⟨rfl,rfl,rfl⟩)
theorem W0(v:Value)(l:cT)(e:Nat)(hl:l.length<=8000000000000)(h:vp l= .err e):yz aP 477 1 (v8 l) [.own 0] [(0,v)] 1 (pe e) (.r (.tu [I 0,.b false])):=by
 cases l with
 |nil=>injection h with h;subst h;exact W1 v
 |cons c l=>exact gn v c l (by simp at hl;omega) _ 0 _ (by rw[h];exact⟨rfl,rfl,rfl⟩)
theorem rm(v:Value)(l r x:cT)(hl:l.length<=8000000000000)(h:wy l= .ok x r):yz aP 407 1 (v8 l) [.own 0] [(0,v)] 1 (v8 r) (.r (bs x)):=by
 refine yk (T:=Tab) mixed Tab_ok Tryz.func407 rfl (by kernel_rfl) rfl (xH _ _ _ _ _) ?_
 unfold wy at h
 cases hn:vp l with
 |err e=>rw[hn]at h;cases h
 |ok n s=>
  rw[hn]at h
  simp only at h
  split at h
  ·cases h
  ·rename_i hns
   injection h with h1 h2
   subst h1;subst h2
   obtain⟨j,rfl,_,hj,_⟩:=Uv hn
   refine zj [(0,0)] [0] (λvs _=>X3 (vs 0) l _ n hl hn) (zi rfl ⟨_,_,rfl,rfl,rfl⟩) rfl ⟨(aB aZ),trivial⟩ ⟨zY,trivial⟩ ?_
   refine cX ?_
   refine zj [(0,0)] [0] (λvs _=>LI (vs 0) (l.drop j) n (by rw[bW];omega) (by omega)) (zi rfl ⟨_,_,rfl,rfl,_,_,rfl,cr,rfl⟩) rfl ⟨(aB aZ),trivial⟩ ⟨zY,trivial⟩ ?_
   exact yr (.inl rfl) [(0,0)] [(2,.r (bs ((l.drop j).take n)))] [] rfl ⟨cr,⟨rfl,rfl⟩,trivial⟩ ⟨(aB aZ),trivial⟩ ⟨⟨1000000,rfl⟩,trivial⟩ (cr)
theorem sM(v:Value)(l:cT)(e:Nat)(hl:l.length<=8000000000000)(h:wy l= .err e):yz aP 407 1 (v8 l) [.own 0] [(0,v)] 1 (pe e) (.r (bs [])):=by
 refine yk (T:=Tab) mixed Tab_ok Tryz.func407 rfl (by kernel_rfl) rfl (xH _ _ _ _ _) ?_
 unfold wy at h
 cases hn:vp l with
 |err e'=>
  rw[hn]at h
  injection h with h
  subst h
  refine zj [(0,0)] [0] (λvs _=>W0 (vs 0) l _ hl hn) (zi rfl ⟨_,_,rfl,rfl,rfl⟩) rfl ⟨(aB aZ),trivial⟩ ⟨zY,trivial⟩ ?_
  refine cY ?_
  exact yr (.inl rfl) [(0,0)] [(2,.r (bs []))] [] rfl ⟨af,⟨rfl,rfl⟩,trivial⟩ ⟨⟨_,_,rfl,trivial,_,_,rfl,cr,rfl⟩,trivial⟩ ⟨⟨1000000,rfl⟩,trivial⟩ (cr)
 |ok n s=>
  rw[hn]at h
  simp only at h
  split at h
  ·rename_i hns
   injection h with h
   subst h
   refine zj [(0,0)] [0] (λvs _=>X3 (vs 0) l _ n hl hn) (zi rfl ⟨_,_,rfl,rfl,rfl⟩) rfl ⟨(aB aZ),trivial⟩ ⟨zY,trivial⟩ ?_
   refine cX ?_
   refine zj [(0,0)] [0] (λvs _=>V6 (vs 0) s n hns) (zi rfl ⟨_,_,rfl,rfl,_,_,rfl,cr,rfl⟩) rfl ⟨(aB aZ),trivial⟩ ⟨zY,trivial⟩ ?_
   exact yr (.inl rfl) [(0,0)] [(2,.r (bs []))] [] rfl ⟨cr,⟨rfl,rfl⟩,trivial⟩ ⟨⟨_,_,rfl,trivial,_,_,rfl,cr,rfl⟩,trivial⟩ ⟨⟨1000000,rfl⟩,trivial⟩ (cr)
  ·cases h
theorem qE(v:Value)(e:Nat)(he:e≠0):yz aP 407 1 (pe e) [.own 0] [(0,v)] 1 (pe e) (.r (bs [])):=by
 refine yk (T:=Tab) mixed Tab_ok Tryz.func407 rfl (by kernel_rfl) rfl (xH _ _ _ _ _) ?_
 refine zj [(0,0)] [0] (λvs _=>Zh (vs 0) e he) (zi rfl ⟨_,_,rfl,rfl,rfl⟩) rfl ⟨⟨_,_,rfl,trivial,_,_,rfl,cr,rfl⟩,trivial⟩ ⟨zY,trivial⟩ ?_
 refine cY ?_
 exact yr (.inl rfl) [(0,0)] [(2,.r (bs []))] [] rfl ⟨af,⟨rfl,rfl⟩,trivial⟩ ⟨⟨_,_,rfl,trivial,_,_,rfl,cr,rfl⟩,trivial⟩ ⟨⟨1000000,rfl⟩,trivial⟩ (cr)
theorem Vint.byte(c:UInt8){e:Int}{K:Int->Prop}(he:e=(c.toNat:Int))(hK:K (c.toNat:Int)):Vint .u8 e K:=by
 refine Vint.u8 c.toNat he ?_
 rw[show(UInt8.ofNat c.toNat)=c by simp]
 exact hK
theorem Aq(c:UInt8):wi 0 [c]=c.toNat:=by simp[wi]
abbrev C3:List (Nat×Ow):=[(0,.box [.r .any,.r .any])]
theorem Td(c:RV)(e:Nat)(v:Value):mZ [(0,gS c e)] C3 [(0,v)]:=⟨⟨_,_,rfl,rfl,ym,ym⟩,trivial⟩
abbrev zl6:List RV:=[.x (.slice none 0 0),.x (.slice none 0 0),.x (.slice none 0 0),.i .u8 0,.x (.slice none 0 0),.x (.slice none 0 0)]
theorem JN(v:Value)(l:cT)(hl:l.length<=8000000000)(e:Nat)(h:sW 3 l= .err e):yz aP 481 1 (v8 l) [.own 0] [(0,v)] 2 C3 (.r (.tu [.ag zl.c,Er e])):=by
 refine yk (T:=Tab) mixed Tab_ok Tryz.func481 rfl (by kernel_rfl) rfl (Td _ _ _) ?_
 have he:=Wx 3 h
 simp only[sW]at h
 cases h0:wy l with
 |err e'=>
  rw[h0]at h
  injection h with h
  subst h
  refine zj [(0,0)] [0] (λvs _=>sM (vs 0) l _ (by omega) h0) (zi rfl ⟨_,_,rfl,rfl,rfl⟩) rfl ⟨(aB aZ),trivial⟩ ⟨zY,trivial⟩ ?_
  refine zj [(0,0)] [0] (λvs _=>qE (vs 0) _ (by omega)) (zi rfl ⟨_,_,rfl,rfl,rfl⟩) rfl ⟨⟨_,_,rfl,trivial,_,_,rfl,cr,rfl⟩,trivial⟩ ⟨zY,trivial⟩ ?_
  refine zj [(0,0)] [0] (λvs _=>qE (vs 0) _ (by omega)) (zi rfl ⟨_,_,rfl,rfl,rfl⟩) rfl ⟨⟨_,_,rfl,trivial,_,_,rfl,cr,rfl⟩,trivial⟩ ⟨zY,trivial⟩ ?_
  refine zj [(0,0)] [0] (λvs _=>mg (vs 0) _ (by omega) 1 (by omega)) (zi rfl ⟨_,_,rfl,rfl,_,_,rfl,cr,rfl⟩) rfl ⟨⟨_,_,rfl,trivial,_,_,rfl,cr,rfl⟩,trivial⟩ ⟨zY,trivial⟩ ?_
  refine Vint.byte 0 rfl ?_
  refine zj [(0,0)] [0] (λvs _=>py (vs 0) _) (zi rfl ⟨_,_,rfl,rfl,rfl⟩) rfl ⟨⟨_,_,rfl,trivial,_,_,rfl,cr,rfl⟩,trivial⟩ ⟨zY,trivial⟩ ?_
  refine cY ?_ (by simp only[zb];omega)
  exact yr (.inl rfl) [(0,0),(1,1)] [(2,.own 1),(3,.r (Er _))] [(1,some (.box (zl6.map .r)))] rfl ⟨rfl,cr,⟨rfl,rfl⟩,trivial⟩ ⟨⟨_,_,rfl,trivial,_,_,rfl,trivial,rfl⟩,(aC (aB aZ)),trivial⟩ ⟨⟨1000000,rfl⟩,trivial⟩ (za rfl rfl ⟨_,rfl,Cv.tu (zk po (zn _))⟩)
 |ok x0 r0=>
  rw[h0]at h
  simp only at h
  obtain⟨j0,e0,_,hj0,_⟩:=rT h0
  have hl0:r0.length<=l.length:=by rw[e0,bW];omega
  cases h1:wy r0 with
  |err e'=>
   rw[h1]at h
   injection h with h
   subst h
   refine zj [(0,0)] [0] (λvs _=>rm (vs 0) l r0 x0 (by omega) h0) (zi rfl ⟨_,_,rfl,rfl,rfl⟩) rfl ⟨(aB aZ),trivial⟩ ⟨zY,trivial⟩ ?_
   refine zj [(0,0)] [0] (λvs _=>sM (vs 0) r0 _ (by omega) h1) (zi rfl ⟨_,_,rfl,rfl,rfl⟩) rfl ⟨(aB aZ),trivial⟩ ⟨zY,trivial⟩ ?_
   refine zj [(0,0)] [0] (λvs _=>qE (vs 0) _ (by omega)) (zi rfl ⟨_,_,rfl,rfl,rfl⟩) rfl ⟨⟨_,_,rfl,trivial,_,_,rfl,cr,rfl⟩,trivial⟩ ⟨zY,trivial⟩ ?_
   refine zj [(0,0)] [0] (λvs _=>mg (vs 0) _ (by omega) 1 (by omega)) (zi rfl ⟨_,_,rfl,rfl,_,_,rfl,cr,rfl⟩) rfl ⟨⟨_,_,rfl,trivial,_,_,rfl,cr,rfl⟩,trivial⟩ ⟨zY,trivial⟩ ?_
   refine Vint.byte 0 rfl ?_
   refine zj [(0,0)] [0] (λvs _=>py (vs 0) _) (zi rfl ⟨_,_,rfl,rfl,rfl⟩) rfl ⟨⟨_,_,rfl,trivial,_,_,rfl,cr,rfl⟩,trivial⟩ ⟨zY,trivial⟩ ?_
   refine cY ?_ (by simp only[zb];omega)
   exact yr (.inl rfl) [(0,0),(1,1)] [(2,.own 1),(3,.r (Er _))] [(1,some (.box (zl6.map .r)))] rfl ⟨rfl,cr,⟨rfl,rfl⟩,trivial⟩ ⟨⟨_,_,rfl,trivial,_,_,rfl,trivial,rfl⟩,(aC (aB aZ)),trivial⟩ ⟨⟨1000000,rfl⟩,trivial⟩ (za rfl rfl ⟨_,rfl,Cv.tu (zk po (zn _))⟩)
  |ok x1 r1=>
   rw[h1]at h
   simp only at h
   obtain⟨j1,e1,_,hj1,_⟩:=rT h1
   have hl1:r1.length<=r0.length:=by rw[e1,bW];omega
   cases h2:wy r1 with
   |err e'=>
    rw[h2]at h
    injection h with h
    subst h
    refine zj [(0,0)] [0] (λvs _=>rm (vs 0) l r0 x0 (by omega) h0) (zi rfl ⟨_,_,rfl,rfl,rfl⟩) rfl ⟨(aB aZ),trivial⟩ ⟨zY,trivial⟩ ?_
    refine zj [(0,0)] [0] (λvs _=>rm (vs 0) r0 r1 x1 (by omega) h1) (zi rfl ⟨_,_,rfl,rfl,rfl⟩) rfl ⟨(aB aZ),trivial⟩ ⟨zY,trivial⟩ ?_
    refine zj [(0,0)] [0] (λvs _=>sM (vs 0) r1 _ (by omega) h2) (zi rfl ⟨_,_,rfl,rfl,rfl⟩) rfl ⟨(aB aZ),trivial⟩ ⟨zY,trivial⟩ ?_
    refine zj [(0,0)] [0] (λvs _=>mg (vs 0) _ (by omega) 1 (by omega)) (zi rfl ⟨_,_,rfl,rfl,_,_,rfl,cr,rfl⟩) rfl ⟨⟨_,_,rfl,trivial,_,_,rfl,cr,rfl⟩,trivial⟩ ⟨zY,trivial⟩ ?_
    refine Vint.byte 0 rfl ?_
    refine zj [(0,0)] [0] (λvs _=>py (vs 0) _) (zi rfl ⟨_,_,rfl,rfl,rfl⟩) rfl ⟨⟨_,_,rfl,trivial,_,_,rfl,cr,rfl⟩,trivial⟩ ⟨zY,trivial⟩ ?_
    refine cY ?_ (by simp only[zb];omega)
    exact yr (.inl rfl) [(0,0),(1,1)] [(2,.own 1),(3,.r (Er _))] [(1,some (.box (zl6.map .r)))] rfl ⟨rfl,cr,⟨rfl,rfl⟩,trivial⟩ ⟨⟨_,_,rfl,trivial,_,_,rfl,trivial,rfl⟩,(aC (aB aZ)),trivial⟩ ⟨⟨1000000,rfl⟩,trivial⟩ (za rfl rfl ⟨_,rfl,Cv.tu (zk po (zn _))⟩)
   |ok x2 r2=>
    rw[h2]at h
    simp only at h
    obtain⟨j2,e2,_,hj2,_⟩:=rT h2
    have hl2:r2.length<=r1.length:=by rw[e2,bW];omega
    cases h
theorem Zk(v:Value)(l:cT)(hl:l.length<=8000000000)(x0 x1 x2 r0 r1 r2:cT)(h0:wy l= .ok x0 r0)(h1:wy r0= .ok x1 r1)(h2:wy r1= .ok x2 r2)(O1:List (Nat×Ow))(x:Leaf)(e:Nat)
  (h:match gD [x0,x1,x2] r2 with
   | .err e'=>O1=C3/\x=zl/\e=e'
   | .ok y r=>O1=v8 r/\x=y/\e=0):yz aP 481 1 (v8 l) [.own 0] [(0,v)] 2 O1 (.r (.tu [.ag x.c,Er e])):=by
 refine yk (T:=Tab) mixed Tab_ok Tryz.func481 rfl (by kernel_rfl) rfl ?_ ?_
 ·cases hP:gD [x0,x1,x2] r2 with
  |err e'=>rw[hP]at h;obtain⟨rfl,_,_⟩:=h;exact Td _ _ _
  |ok m r=>rw[hP]at h;obtain⟨rfl,_,_⟩:=h;exact xH _ _ _ _ _
 obtain⟨j0,e0,_,hj0,_⟩:=rT h0
 have hl0:r0.length<=l.length:=by rw[e0,bW];omega
 obtain⟨j1,e1,_,hj1,_⟩:=rT h1
 have hl1:r1.length<=r0.length:=by rw[e1,bW];omega
 obtain⟨j2,e2,_,hj2,_⟩:=rT h2
 have hl2:r2.length<=r1.length:=by rw[e2,bW];omega
 refine zj [(0,0)] [0] (λvs _=>rm (vs 0) l r0 x0 (by omega) h0) (zi rfl ⟨_,_,rfl,rfl,rfl⟩) rfl ⟨(aB aZ),trivial⟩ ⟨zY,trivial⟩ ?_
 refine zj [(0,0)] [0] (λvs _=>rm (vs 0) r0 r1 x1 (by omega) h1) (zi rfl ⟨_,_,rfl,rfl,rfl⟩) rfl ⟨(aB aZ),trivial⟩ ⟨zY,trivial⟩ ?_
 refine zj [(0,0)] [0] (λvs _=>rm (vs 0) r1 r2 x2 (by omega) h2) (zi rfl ⟨_,_,rfl,rfl,rfl⟩) rfl ⟨(aB aZ),trivial⟩ ⟨zY,trivial⟩ ?_
 cases r2 with
 |nil=>
  obtain⟨rfl,rfl,rfl⟩:=h
  refine zj [(0,0)] [0] (λvs _=>QD (vs 0) [] 1 (by omega) (by simp)) (zi rfl ⟨_,_,rfl,rfl,_,_,rfl,cr,rfl⟩) rfl ⟨(aB aZ),trivial⟩ ⟨zY,trivial⟩ ?_
  refine Vint.byte 0 rfl ?_
  refine zj [(0,0)] [0] (λvs _=>py (vs 0) _) (zi rfl ⟨_,_,rfl,rfl,rfl⟩) rfl ⟨⟨_,_,rfl,trivial,_,_,rfl,cr,rfl⟩,trivial⟩ ⟨zY,trivial⟩ ?_
  refine zt rfl (zp ?_)
  exact yr (.inl rfl) [(0,0),(1,1)] [(2,.own 1),(3,.r (Er _))] [(1,some (.box (zl6.map .r)))] rfl ⟨rfl,cr,⟨rfl,rfl⟩,trivial⟩ ⟨⟨_,_,rfl,trivial,_,_,rfl,trivial,rfl⟩,(aC (aB aZ)),trivial⟩ ⟨⟨1000000,rfl⟩,trivial⟩ (za rfl rfl ⟨_,rfl,Cv.tu (zk po (zn _))⟩)
 |cons c r=>
  have hcl:=c.toNat_lt
  refine zj [(0,0)] [0] (λvs _=>OW (vs 0) (c::r) 1 (by omega) (by simp)) (zi rfl ⟨_,_,rfl,rfl,_,_,rfl,cr,rfl⟩) rfl ⟨(aB aZ),trivial⟩ ⟨zY,trivial⟩ ?_
  rw[show List.take 1 (c::r)=[c]from rfl,Aq]
  refine Vint.byte c rfl ?_
  refine zj [(0,0)] [0] (λvs _=>mf (vs 0) r) (zi rfl ⟨_,_,rfl,rfl,rfl⟩) rfl ⟨(aB aZ),trivial⟩ ⟨zY,trivial⟩ ?_
  refine zu rfl (zq ?_)
  simp only[gD]at h
  by_cases hc:c.toNat=0\/3<c.toNat
  ·rw[cO hc]at h
   obtain⟨rfl,rfl,rfl⟩:=h
   by_cases hc0:c.toNat=0
   ·refine zt (by simp only[zb];omega) (zp ?_)
    exact yr (.inl rfl) [(0,0),(1,1)] [(2,.own 1),(3,.r (Er _))] [(1,some (.box (zl6.map .r)))] rfl ⟨rfl,cr,⟨rfl,rfl⟩,trivial⟩ ⟨⟨_,_,rfl,trivial,_,_,rfl,trivial,rfl⟩,(aC (aB aZ)),trivial⟩ ⟨⟨1000000,rfl⟩,trivial⟩ (za rfl rfl ⟨_,rfl,Cv.tu (zk po (zn _))⟩)
   ·refine zu (by simp only[zb];omega) ?_
    refine zt (by simp only[zb];omega) (zp ?_)
    exact yr (.inl rfl) [(0,0),(1,1)] [(2,.own 1),(3,.r (Er _))] [(1,some (.box (zl6.map .r)))] rfl ⟨rfl,cr,⟨rfl,rfl⟩,trivial⟩ ⟨⟨_,_,rfl,trivial,_,_,rfl,trivial,rfl⟩,(aC (aB aZ)),trivial⟩ ⟨⟨1000000,rfl⟩,trivial⟩ (za rfl rfl ⟨_,rfl,Cv.tu (zk po (zn _))⟩)
  rw[cQ hc]at h
  refine zu (by simp only[zb];omega) ?_
  refine zu (by simp only[zb];omega) (zq ?_)
  by_cases hc3:c.toNat=3
  ·rw[show pH c r=wy r by unfold pH;rw[cO hc3]]at h
   refine zt (by simp only[zb];omega) (zp ?_)
   have hlr:r.length<=8000000000:=by simp only[bJ]at hl2;omega
   cases hp:wy r with
   |err e'=>
    rw[hp]at h
    obtain⟨rfl,rfl,rfl⟩:=h
    have he:=iA hp
    refine zj [(0,0)] [0] (λvs _=>sM (vs 0) r _ (by omega) hp) (zi rfl ⟨_,_,rfl,rfl,rfl⟩) rfl ⟨(aB aZ),trivial⟩ ⟨zY,trivial⟩ ?_
    refine zj [(0,0)] [0] (λvs _=>qE (vs 0) _ (by omega)) (zi rfl ⟨_,_,rfl,rfl,rfl⟩) rfl ⟨⟨_,_,rfl,trivial,_,_,rfl,cr,rfl⟩,trivial⟩ ⟨zY,trivial⟩ ?_
    refine zj [(0,0)] [0] (λvs _=>py (vs 0) _) (zi rfl ⟨_,_,rfl,rfl,rfl⟩) rfl ⟨⟨_,_,rfl,trivial,_,_,rfl,cr,rfl⟩,trivial⟩ ⟨zY,trivial⟩ ?_
    refine zt (by simp only[zb];omega) (zp ?_)
    exact yr (.inl rfl) [(0,0),(1,1)] [(2,.own 1),(3,.r (Er _))] [(1,some (.box (zl6.map .r)))] rfl ⟨rfl,cr,⟨rfl,rfl⟩,trivial⟩ ⟨⟨_,_,rfl,trivial,_,_,rfl,trivial,rfl⟩,(aC (aB aZ)),trivial⟩ ⟨⟨1000000,rfl⟩,trivial⟩ (za rfl rfl ⟨_,rfl,Cv.tu (zk po (zn _))⟩)
   |ok pa r'=>
    rw[hp]at h
    simp only at h
    obtain⟨jp,ep,_,hjp,_⟩:=rT hp
    have hlp:r'.length<=r.length:=by rw[ep,bW];omega
    refine zj [(0,0)] [0] (λvs _=>rm (vs 0) r r' pa (by omega) hp) (zi rfl ⟨_,_,rfl,rfl,rfl⟩) rfl ⟨(aB aZ),trivial⟩ ⟨zY,trivial⟩ ?_
    cases hs:wy r' with
    |err e'=>
     simp only[kP,hs]at h
     obtain⟨rfl,rfl,rfl⟩:=h
     have he:=iA hs
     refine zj [(0,0)] [0] (λvs _=>sM (vs 0) r' _ (by omega) hs) (zi rfl ⟨_,_,rfl,rfl,rfl⟩) rfl ⟨(aB aZ),trivial⟩ ⟨zY,trivial⟩ ?_
     refine zj [(0,0)] [0] (λvs _=>py (vs 0) _) (zi rfl ⟨_,_,rfl,rfl,rfl⟩) rfl ⟨⟨_,_,rfl,trivial,_,_,rfl,cr,rfl⟩,trivial⟩ ⟨zY,trivial⟩ ?_
     refine zt (by simp only[zb];omega) (zp ?_)
     exact yr (.inl rfl) [(0,0),(1,1)] [(2,.own 1),(3,.r (Er _))] [(1,some (.box (zl6.map .r)))] rfl ⟨rfl,cr,⟨rfl,rfl⟩,trivial⟩ ⟨⟨_,_,rfl,trivial,_,_,rfl,trivial,rfl⟩,(aC (aB aZ)),trivial⟩ ⟨⟨1000000,rfl⟩,trivial⟩ (za rfl rfl ⟨_,rfl,Cv.tu (zk po (zn _))⟩)
    |ok sg q=>
     simp only[kP,hs]at h
     refine zj [(0,0)] [0] (λvs _=>rm (vs 0) r' q sg (by omega) hs) (zi rfl ⟨_,_,rfl,rfl,rfl⟩) rfl ⟨(aB aZ),trivial⟩ ⟨zY,trivial⟩ ?_
     refine zj [(0,0)] [0] (λvs _=>mf (vs 0) q) (zi rfl ⟨_,_,rfl,rfl,rfl⟩) rfl ⟨(aB aZ),trivial⟩ ⟨zY,trivial⟩ ?_
     refine zu rfl (zq ?_)
     refine za rfl rfl ?_
     have hcv:Cv (.ag [bs x0,bs x1,bs x2,U8 c,bs pa,bs sg]) (.ag (qW [x0,x1,x2] c pa sg).c):=Cv.ag (zk (cr) (zk (cr) (zk (cr) (zk (cr) (zk (cr) (zk (cr) zA))))))
     refine zB (qd (qW [x0,x1,x2] c pa sg)) (zk hcv zA) ?_
     by_cases hR:(qW [x0,x1,x2] c pa sg).right=true
     ·rw[cO hR]at h
      obtain⟨rfl,rfl,rfl⟩:=h
      refine zu (by simp only[zb];exact hR) (zq ?_)
      refine za rfl rfl ?_
      exact yr (.inl rfl) [(0,0),(1,1)] [(2,.own 1),(3,.r (Er 0))] [(1,some (.box (([bs x0,bs x1,bs x2,U8 c,bs pa,bs sg]:List RV).map .r)))] rfl ⟨rfl,cr,⟨rfl,rfl⟩,trivial⟩ ⟨(aB aZ),(aC (aB aZ)),trivial⟩ ⟨⟨1000000,rfl⟩,trivial⟩ (za rfl rfl ⟨_,rfl,Cv.tu (zk hcv (zn _))⟩)
     ·rw[cQ hR]at h
      obtain⟨rfl,rfl,rfl⟩:=h
      refine zt (by simp only[zb];exact Bool.eq_false_iff.2 hR) (zp ?_)
      exact yr (.inl rfl) [(0,0),(1,1)] [(2,.own 1),(3,.r (Er _))] [(1,some (.box (zl6.map .r)))] rfl ⟨rfl,cr,⟨rfl,rfl⟩,trivial⟩ ⟨⟨_,_,rfl,trivial,_,_,rfl,trivial,rfl⟩,(aC (aB aZ)),trivial⟩ ⟨⟨1000000,rfl⟩,trivial⟩ (za rfl rfl ⟨_,rfl,Cv.tu (zk po (zn _))⟩)
  rw[show pH c r= .ok [] r by unfold pH;rw[cQ hc3]]at h
  simp only at h
  refine zu (by simp only[zb];omega) (zq ?_)
  have hlr:r.length<=8000000000:=by simp only[bJ]at hl2;omega
  cases hs:wy r with
  |err e'=>
   simp only[kP,hs]at h
   obtain⟨rfl,rfl,rfl⟩:=h
   have he:=iA hs
   refine zj [(0,0)] [0] (λvs _=>sM (vs 0) r _ (by omega) hs) (zi rfl ⟨_,_,rfl,rfl,rfl⟩) rfl ⟨(aB aZ),trivial⟩ ⟨zY,trivial⟩ ?_
   refine zj [(0,0)] [0] (λvs _=>py (vs 0) _) (zi rfl ⟨_,_,rfl,rfl,rfl⟩) rfl ⟨⟨_,_,rfl,trivial,_,_,rfl,cr,rfl⟩,trivial⟩ ⟨zY,trivial⟩ ?_
   refine zt (by simp only[zb];omega) (zp ?_)
   exact yr (.inl rfl) [(0,0),(1,1)] [(2,.own 1),(3,.r (Er _))] [(1,some (.box (zl6.map .r)))] rfl ⟨rfl,cr,⟨rfl,rfl⟩,trivial⟩ ⟨⟨_,_,rfl,trivial,_,_,rfl,trivial,rfl⟩,(aC (aB aZ)),trivial⟩ ⟨⟨1000000,rfl⟩,trivial⟩ (za rfl rfl ⟨_,rfl,Cv.tu (zk po (zn _))⟩)
  |ok sg q=>
   simp only[kP,hs]at h
   refine zj [(0,0)] [0] (λvs _=>rm (vs 0) r q sg (by omega) hs) (zi rfl ⟨_,_,rfl,rfl,rfl⟩) rfl ⟨(aB aZ),trivial⟩ ⟨zY,trivial⟩ ?_
   refine zj [(0,0)] [0] (λvs _=>mf (vs 0) q) (zi rfl ⟨_,_,rfl,rfl,rfl⟩) rfl ⟨(aB aZ),trivial⟩ ⟨zY,trivial⟩ ?_
   refine zu rfl (zq ?_)
   refine za rfl rfl ?_
   have hcv:Cv (.ag [bs x0,bs x1,bs x2,U8 c,.x (.slice none 0 0),bs sg]) (.ag (qW [x0,x1,x2] c [] sg).c):=Cv.ag (zk (cr) (zk (cr) (zk (cr) (zk (cr) (zk (z8 1) (zk (cr) zA))))))
   refine zB (qd (qW [x0,x1,x2] c [] sg)) (zk hcv zA) ?_
   by_cases hR:(qW [x0,x1,x2] c [] sg).right=true
   ·rw[cO hR]at h
    obtain⟨rfl,rfl,rfl⟩:=h
    refine zu (by simp only[zb];exact hR) (zq ?_)
    refine za rfl rfl ?_
    exact yr (.inl rfl) [(0,0),(1,1)] [(2,.own 1),(3,.r (Er 0))] [(1,some (.box (([bs x0,bs x1,bs x2,U8 c,.x (.slice none 0 0),bs sg]:List RV).map .r)))] rfl ⟨rfl,cr,⟨rfl,rfl⟩,trivial⟩ ⟨(aB aZ),(aC (aB aZ)),trivial⟩ ⟨⟨1000000,rfl⟩,trivial⟩ (za rfl rfl ⟨_,rfl,Cv.tu (zk hcv (zn _))⟩)
   ·rw[cQ hR]at h
    obtain⟨rfl,rfl,rfl⟩:=h
    refine zt (by simp only[zb];exact Bool.eq_false_iff.2 hR) (zp ?_)
    exact yr (.inl rfl) [(0,0),(1,1)] [(2,.own 1),(3,.r (Er _))] [(1,some (.box (zl6.map .r)))] rfl ⟨rfl,cr,⟨rfl,rfl⟩,trivial⟩ ⟨⟨_,_,rfl,trivial,_,_,rfl,trivial,rfl⟩,(aC (aB aZ)),trivial⟩ ⟨⟨1000000,rfl⟩,trivial⟩ (za rfl rfl ⟨_,rfl,Cv.tu (zk po (zn _))⟩)
theorem QE(v:Value)(l r:cT)(x:Leaf)(hl:l.length<=8000000000)(h:fQ l= .ok x r):yz aP 481 1 (v8 l) [.own 0] [(0,v)] 2 (v8 r) (.r (.tu [.ag x.c,Er 0])):=by
 unfold fQ at h
 cases hv:sW 3 l with
 |err e'=>rw[hv]at h;cases h
 |ok vs q=>
  rw[hv]at h
  simp only[sW]at hv
  cases h0:wy l with
  |err e'=>rw[h0]at hv;cases hv
  |ok x0 r0=>
   rw[h0]at hv
   simp only at hv
   cases h1:wy r0 with
   |err e'=>rw[h1]at hv;cases hv
   |ok x1 r1=>
    rw[h1]at hv
    simp only at hv
    cases h2:wy r1 with
    |err e'=>rw[h2]at hv;cases hv
    |ok x2 r2=>
     rw[h2]at hv
     simp only[PR.ok.injEq]at hv
     obtain⟨rfl,rfl⟩:=hv
     simp only at h
     exact Zk v l hl x0 x1 x2 r0 r1 r2 h0 h1 h2 _ _ _ (by rw[h];exact⟨rfl,rfl,rfl⟩)
theorem oC{P:Program}{f:FuncId}{n0 n1:Nat}{O0 O1:List (Nat×Ow)}{args:List TF}{names names':List (Nat×Value)}{res:TF}(e:names=names')(h:yz P f n0 O0 args names n1 O1 res):yz P f n0 O0 args names' n1 O1 res:=e▸h
theorem OT(u x:Int)(hu:mW u):aG 538 [I u,.ptr [I x]] (.r (.b (!sI (2*u) x))):=by
 refine aT Tryz.func538 rfl ?_
 unfold mW at hu
 refine zd rfl (by omega) ?_
 refine zg rfl ?_
 refine ze (HV (2*u) x) ?_
 exact zG rfl (cr)
theorem LG(x:Int)(n:Node)(hn:n.fit):aG 507 [I x,.ag n.c] (.r (.b (sJ x n))):=by
 refine aT Tryz.func507 rfl ?_
 refine cU ?_
 refine ze (d8 n hn) ?_
 have clo:=λ(u:Int) (hu:mW u)=>OT u x hu
 cases hr:n.right with
 |false=>
  refine⟨by decide,_,rfl,?_⟩
  refine cZ (λh=>?_) λh=>?_
  ·refine zu rfl ?_
   exact zf (cR RV.b (by simp[sJ,hr]))
  ·refine zu rfl ?_
   exact zf (cR RV.b (by simp[sJ,hr]))
 |true=>
  have hlate:=Node.right_late hr
  have hll:n.par.late.length<=1000000000:=by have:=hn.2.2.2.1;omega
  have fin: ∀{β:Bool},β=n.par.late.any (λu=> !sI (2*u) x)->n.kind.toNat≠pc x->(!β)=sJ x n:=λhb hk=>by
   subst hb
   rw[H6]
   simp[sJ,hr,hk]
  refine⟨by decide,_,rfl,?_⟩
  refine cZ (λh=>?_) λh=>?_
  ·simp only[zb]at h
   refine zt rfl ?_
   refine zh (λh2=>?_) (λh2=>?_)
   ·simp only[zb]at h2
    refine zJ (xO (t:=2) [I x] rfl rfl) (Vstep.mkfun I mW _ rfl rfl clo ?_)
    refine ze (ku n.par.late mW _ hll hlate) ?_
    exact zG rfl (zf (cR RV.b (fin rfl (by simp[pc,h];omega))))
   ·simp only[zb]at h2
    refine zf (cR RV.b ?_)
    have:n.kind.toNat=pc x:=by simp[pc,h];omega
    simp[sJ,this]
  ·simp only[zb]at h
   refine zt rfl ?_
   refine zh (λh2=>?_) (λh2=>?_)
   ·simp only[zb]at h2
    refine zJ (xO (t:=2) [I x] rfl rfl) (Vstep.mkfun I mW _ rfl rfl clo ?_)
    refine ze (ku n.par.late mW _ hll hlate) ?_
    exact zG rfl (zf (cR RV.b (fin rfl (by simp[pc,h];omega))))
   ·simp only[zb]at h2
    refine zf (cR RV.b ?_)
    have:n.kind.toNat=pc x:=by simp[pc,h];omega
    simp[sJ,this]
def mw(O:List Spot)(x:Int):Node:=(xP O x).getD Node.zero
abbrev va(leaves own:Int)(O:List Spot)(H:List Stub):Ow:= .box [.r (I leaves),.r (I own),.r (.s (wD (wm O))),.r (.s (wD (wx H)))]
theorem Ae(pv:Value)(leaves own:Int)(O:List Spot)(H:List Stub)(x:Int):yz aP 508 1 [(0,va leaves own O H)] [.r (I x),.own 0] [(0,pv)] 2 [(0,va leaves own O H)] (.r (.tu [.ag (mw O x).c,.b (jA O x)])):=by
 refine yk (T:=Tab) mixed Tab_ok Tryz.func508 rfl (by kernel_rfl) rfl ⟨⟨_,_,rfl,rfl,ym,ym⟩,trivial⟩ ?_
 refine Vstep.node2 rfl rfl rfl (λm hm=>?_) (λhm=>?_)
 ·refine cU ?_
  have e1:mw O x=m:=by unfold mw;rw[hm];rfl
  have e2:jA O x=true:=by unfold jA;rw[hm];rfl
  rw[e1,e2]
  exact yr (.inl rfl) [(0,0),(1,1)] [(3,.own 1),(4,.r (.b true))] [(1,some (.box (m.c.map .r)))] rfl ⟨rfl,cr,⟨rfl,rfl⟩,trivial⟩ ⟨(aC aZ),(aD (aB aZ)),trivial⟩ ⟨⟨1000000,rfl⟩,trivial⟩ (za rfl rfl ⟨_,rfl,cr⟩)
 ·refine cU ?_
  have e1:mw O x=Node.zero:=by unfold mw;rw[hm];rfl
  have e2:jA O x=false:=by unfold jA;rw[hm];rfl
  rw[e1,e2]
  exact yr (.inl rfl) [(0,0),(1,1)] [(3,.own 1),(4,.r (.b false))] [(1,some (.box (zc.map .r)))] rfl ⟨rfl,cr,⟨rfl,rfl⟩,trivial⟩ ⟨(aC aZ),(aD (aB aZ)),trivial⟩ ⟨⟨1000000,rfl⟩,trivial⟩ (za rfl rfl ⟨_,rfl,Cv.tu (zk FL (zn _))⟩)
end Go.Proofs.YtkegaaonpekkgaaGreat.Sx
