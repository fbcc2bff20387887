import Derived.Test.YtkegaaonpekkgaaGreatZTb
import Derived.Test.YtkegaaonpekkgaaGreatZEr
namespace Go.Proofs.YtkegaaonpekkgaaGreat.Sx
open Go.RowKit
theorem zm2b(v:Value)(c:UInt8)(l:List UInt8)(hc:1<c.toNat):Acts aP 483 1 (rdL (c::l)) [.own 0] [(0,v)] 1 (rdX 3) (.r (.b false)):=by
 refine zah (T:=Tab) mixed Tab_ok Tryz.func483 rfl (by kernel_rfl) rfl (zbg _ _ _ _ _) ?_
 refine zj [(0,0)] [0] (λvs _=>zgv (vs 0) (c::l) 1 (by simp)) (zi rfl ⟨_,_,rfl,rfl,_,_,rfl,cr,rfl⟩) rfl ⟨(aB aZ),trivial⟩ ⟨zad,trivial⟩ ?_
 refine zu rfl (zq ?_)
 refine zm (by omega) (by simp) rfl (zg rfl ?_)
 refine zt (by simp only[zb];omega) (zp ?_)
 refine zj [(0,0)] [0] (λvs _=>zkn (vs 0) l 3) (zi rfl ⟨_,_,rfl,rfl,_,_,rfl,cr,rfl⟩) rfl ⟨(aB aZ),trivial⟩ ⟨zad,trivial⟩ ?_
 exact zan (.inl rfl) [(0,0)] [(2, .r (.b false))] [] rfl ⟨cr,⟨rfl,rfl⟩,trivial⟩ ⟨⟨_,_,rfl,trivial,_,_,rfl,cr,rfl⟩,trivial⟩ ⟨⟨1000000,rfl⟩,trivial⟩ (cr)
theorem zjib(v:Value)(l:List UInt8):Acts aP 302 1 (rdL l) [.own 0] [(0,v)] 1 (rdL l) (.r (Er (if l.length=0 then 0 else 5))):=by
 refine zah (T:=Tab) mixed Tab_ok Tryz.func302 rfl (by kernel_rfl) rfl (zbg _ _ _ _ _) ?_
 refine zj [(0,0)] [0] (λvs _=>zix (vs 0) l) (zi rfl ⟨_,_,rfl,rfl,rfl⟩) rfl ⟨(aB aZ),trivial⟩ ⟨zad,trivial⟩ ?_
 refine zu rfl (zq ?_)
 by_cases h:l.length=0
 ·rw[if_pos h]
  refine zu (by simp only[zb];omega) (zq ?_)
  exact zan (.inl rfl) [(0,0)] [(2, .r (Er 0))] [] rfl ⟨cr,⟨rfl,rfl⟩,trivial⟩ ⟨(aB aZ),trivial⟩ ⟨⟨1000000,rfl⟩,trivial⟩ (cr)
 ·rw[if_neg h]
  refine zt (by simp only[zb];omega) (zp ?_)
  exact zan (.inl rfl) [(0,0)] [(2, .r (Er 5))] [] rfl ⟨cr,⟨rfl,rfl⟩,trivial⟩ ⟨(aB aZ),trivial⟩ ⟨⟨1000000,rfl⟩,trivial⟩ (cr)
theorem shr6(c:UInt8){K:Int->Prop}(hK:K ((c.toNat/64:Nat):Int)):Vshr .u8 (c.toNat:Int) 6 K:=by
 refine⟨by omega,_,?_,hK⟩
 show((c.toNat/64:Nat):Int)=(c.toNat:Int).fdiv (2^6)
 rw[Int.fdiv_eq_ediv_of_nonneg _ (by decide)]
 omega
theorem zedb(c:UInt8){K:Int->Prop}(hK:K ((c.toNat%64:Nat):Int)):Vbits .u8 .and (c.toNat:Int) 63 K:=by
 refine⟨_,?_,hK⟩
 have hc:=c.toNat_lt
 show((c.toNat%64:Nat):Int)=IntKind.u8.wrap (((BitVec.ofInt 8 (c.toNat:Int)&&&BitVec.ofInt 8 63).toNat:Nat):Int)
 have e:(BitVec.ofInt 8 (c.toNat:Int)).toNat=c.toNat:=by rw[BitVec.toNat_ofInt];omega
 have e2:(BitVec.ofInt 8 63).toNat=63:=by decide
 rw[BitVec.toNat_and,e,e2,show(63:Nat)=2^6-1 from rfl,Nat.and_two_pow_sub_one_eq_mod]
 have:c.toNat%2^6<64:=Nat.mod_lt _ (by decide)
 simp only[IntKind.wrap]
 simp[IntKind.bits,IntKind.signed]
 omega
theorem z29(c:UInt8)(s:Nat)(h:s=2^(c.toNat/64)):(192<=c.toNat->4<s)/\(c.toNat<192->s=zax c+1):=by
 have hc:=c.toNat_lt
 have:c.toNat/64=0\/c.toNat/64=1\/c.toNat/64=2\/c.toNat/64=3:=by omega
 unfold zax
 refine⟨λh1=>?_,λh1=>?_⟩
 ·rcases this with h2 |h2 |h2 |h2<;>rw[h2]at h<;>simp at h<;>omega
 ·rcases this with h2 |h2 |h2 |h2<;>rw[h2]at h<;>simp at h<;>(split<;>(try split))<;>omega
theorem zyn(c:UInt8):zax c<=3:=by unfold zax;split<;>(try split)<;>omega
theorem z3e{n:Nat}(h:0<n)(h2:n<256):IntKind.u8.wrap ((n:Int)-1)=((n-1:Nat):Int):=by
 simp only[IntKind.wrap]
 simp[IntKind.bits,IntKind.signed]
 omega
def zyc(v:Value)(c:UInt8)(l:List UInt8)(i:Nat×Nat):St:=
 ⟨[(0, .own 0),(4, .r (bs [c])),(6, .r (I i.2)),(7, .r (.i .u8 i.1)),(1000000, .nm 0 v)],[(0,some (rdO (bs l) 0))],1⟩
set_option maxHeartbeats 1000000 in
theorem znd(v:Value)(c:UInt8)(l:List UInt8)(hl:l.length<=8000000000000)(O1:List (Nat×Ow))(n:Nat)(ok:Bool)
  (h:match lenP (c::l)with
   | .err e=>O1=rdX e/\n=0/\ok=false
   | .ok m r=>O1=rdL r/\n=m/\ok=true):Acts aP 477 1 (rdL (c::l)) [.own 0] [(0,v)] 1 O1 (.r (.tu [I n, .b ok])):=by
 refine zah (T:=Tab) mixed Tab_ok Tryz.func477 rfl (by kernel_rfl) rfl ?_ ?_
 ·cases hP:lenP (c::l)with
  |err e=>rw[hP]at h;obtain⟨rfl,_,_⟩:=h;exact zbg _ _ _ _ _
  |ok m r=>rw[hP]at h;obtain⟨rfl,_,_⟩:=h;exact zbg _ _ _ _ _
 refine Vcode.scope mixed Tab_ok 0 (zyc v c l) (λi=>i.2*2^i.1=2^(c.toNat/64)/\i.1<=3/\i.2<=8) (λi=>i.1) rfl ?_ ?_
 ·refine zj [(0,0)] [0] (λvs _=>zgv (vs 0) (c::l) 1 (by simp)) (zi rfl ⟨_,_,rfl,rfl,_,_,rfl,cr,rfl⟩) rfl ⟨(aB aZ),trivial⟩ ⟨zad,trivial⟩ ?_
  refine zu rfl (zq ?_)
  refine zm (by omega) (by simp) rfl (zg rfl ?_)
  refine shr6 c ?_
  have hc:=c.toNat_lt
  by_cases hk:0<c.toNat/64
  ·refine zt (by simp only[zb];omega) (zp ?_)
   refine zd (m:=2) (by omega) (by omega) ?_
   refine⟨((c.toNat/64-1:Nat):Int),by rw[z3e hk (by omega)],?_⟩
   refine⟨(c.toNat/64-1,2),⟨?_,by simp only;omega,by simp⟩,zac [(0,0)] rfl ⟨rfl,cr,cr,cr,⟨rfl,rfl⟩,trivial⟩ ⟨(aB aZ),trivial⟩⟩
   simp only
   rw[<-Nat.pow_succ',show(c.toNat/64-1).succ=c.toNat/64 by omega]
  refine zu (by simp only[zb];omega) (zq ?_)
  obtain⟨s,hs'⟩: ∃s:Nat,s=1:=⟨1,rfl⟩
  have hs:s=2^(c.toNat/64):=by rw[hs',show c.toNat/64=0 by omega]
  have hsz:=z29 c s hs
  by_cases h192:192<=c.toNat
  ·have h4:=hsz.1 h192
   refine zt (by simp only[zb];omega) (zp ?_)
   refine zj [(0,0)] [0] (λvs _=>zkn (vs 0) l 3) (zi rfl ⟨_,_,rfl,rfl,_,_,rfl,cr,rfl⟩) rfl ⟨(aB aZ),trivial⟩ ⟨zad,trivial⟩ ?_
   simp only[lenP,if_pos h192]at h
   obtain⟨rfl,rfl,rfl⟩:=h
   exact zan (.inl rfl) [(0,0)] [(2, .r (I 0)),(3, .r (.b false))] [] rfl ⟨cr,cr,⟨rfl,rfl⟩,trivial⟩ ⟨⟨_,_,rfl,trivial,_,_,rfl,cr,rfl⟩,trivial⟩ ⟨⟨1000000,rfl⟩,trivial⟩ ⟨_,rfl,cr⟩
  have hs1:=hsz.2 (by omega)
  have hm:=zyn c
  refine zu (by simp only[zb];omega) (zq ?_)
  refine zd (m:=((zax c:Nat):Int)) (by omega) (by omega) ?_
  by_cases hr:l.length<zax c
  ·refine zj [(0,0)] [0] (λvs _=>zfe (vs 0) l (zax c) hr) (zi rfl ⟨_,_,rfl,rfl,_,_,rfl,cr,rfl⟩) rfl ⟨(aB aZ),trivial⟩ ⟨zad,trivial⟩ ?_
   refine zt rfl (zp ?_)
   simp only[lenP,if_neg h192,if_pos hr]at h
   obtain⟨rfl,rfl,rfl⟩:=h
   exact zan (.inl rfl) [(0,0)] [(2, .r (I 0)),(3, .r (.b false))] [] rfl ⟨cr,cr,⟨rfl,rfl⟩,trivial⟩ ⟨⟨_,_,rfl,trivial,_,_,rfl,cr,rfl⟩,trivial⟩ ⟨⟨1000000,rfl⟩,trivial⟩ ⟨_,rfl,cr⟩
  refine zj [(0,0)] [0] (λvs _=>zgv (vs 0) l (zax c) (by omega)) (zi rfl ⟨_,_,rfl,rfl,_,_,rfl,cr,rfl⟩) rfl ⟨(aB aZ),trivial⟩ ⟨zad,trivial⟩ ?_
  refine zu rfl (zq ?_)
  refine zm (by omega) (by simp) rfl (zg rfl ?_)
  refine zedb c ?_
  refine zw ?_
  have hd:(UInt8.ofNat (c.toNat%64)).toNat=c.toNat%64:=by rw[UInt8.toNat_ofNat'];have:=c.toNat_lt;omega
  refine Vapp.mk' (j:=(UInt8.ofNat (c.toNat%64)::l.take (zax c)).length) (zs:=(UInt8.ofNat (c.toNat%64)::l.take (zax c)).map U8) (by rw[List.length_take];simp only[maxLen];omega) (by simp;omega) (by rw[List.length_cons];omega) (by rw[List.map_cons];show _=RV.i .u8 ((UInt8.ofNat (c.toNat%64)).toNat:Int)::_;rw[hd];rfl) ?_
  refine ze (zhr (UInt8.ofNat (c.toNat%64)::l.take (zax c)) (by rw[List.length_cons,List.length_take];omega)) ?_
  have hn:numA 0 (UInt8.ofNat (c.toNat%64)::l.take (zax c))=numA (c.toNat%64) (l.take (zax c)):=by simp only[numA,List.foldl_cons,hd,Nat.mul_zero,Nat.zero_add]
  have hb:numA (c.toNat%64) (l.take (zax c))<1073741824:=by
   have h4:=zkz (l.take (zax c)) (c.toNat%64) 64 (by omega)
   have h6:(256:Nat)^(l.take (zax c)).length<=256^3:=Nat.pow_le_pow_right (by omega) (by rw[List.length_take];omega)
   have:(256:Nat)^3=16777216:=by decide
   omega
  rw[hn]
  refine zd (m:=((numA (c.toNat%64) (l.take (zax c)):Nat):Int)) rfl (by omega) ?_
  refine ze (znc _ (by omega)) ?_
  by_cases he:zc6 (numA (c.toNat%64) (l.take (zax c)))≠zax c+1
  ·refine zt (by simp only[zb];omega) (zp ?_)
   refine zj [(0,0)] [0] (λvs _=>zkn (vs 0) (l.drop (zax c)) 3) (zi rfl ⟨_,_,rfl,rfl,_,_,rfl,cr,rfl⟩) rfl ⟨(aB aZ),trivial⟩ ⟨zad,trivial⟩ ?_
   simp only[lenP,if_neg h192,if_neg hr]at h
   rw[if_pos he]at h
   obtain⟨rfl,rfl,rfl⟩:=h
   exact zan (.inl rfl) [(0,0)] [(2, .r (I 0)),(3, .r (.b false))] [] rfl ⟨cr,cr,⟨rfl,rfl⟩,trivial⟩ ⟨⟨_,_,rfl,trivial,_,_,rfl,cr,rfl⟩,trivial⟩ ⟨⟨1000000,rfl⟩,trivial⟩ ⟨_,rfl,cr⟩
  refine zu (by simp only[zb];omega) (zq ?_)
  simp only[lenP,if_neg h192,if_neg hr]at h
  rw[if_neg he]at h
  obtain⟨rfl,rfl,rfl⟩:=h
  exact zan (.inl rfl) [(0,0)] [(2, .r (I _)),(3, .r (.b true))] [] rfl ⟨cr,cr,⟨rfl,rfl⟩,trivial⟩ ⟨(aB aZ),trivial⟩ ⟨⟨1000000,rfl⟩,trivial⟩ ⟨_,rfl,cr⟩
 ·rintro⟨i,s⟩ ⟨h1,h2,h3⟩
  simp only at h1 h2 h3
  by_cases hk:0<i
  ·refine zt (by simp only[zb];omega) (zp ?_)
   refine zd (m:=((2*s:Nat):Int)) (by omega) (by omega) ?_
   refine⟨((i-1:Nat):Int),by rw[z3e hk (by omega)],?_⟩
   have hp:2*2^(i-1)=2^i:=by rw[<-Nat.pow_succ',show(i-1).succ=i by omega]
   have hs2:2*s*2^(i-1)=2^(c.toNat/64):=by rw[<-h1,<-hp,Nat.mul_comm 2 s,Nat.mul_assoc]
   refine⟨(i-1,2*s),⟨hs2,by simp only;omega,?_⟩,by simp only;omega,zac [(0,0)] rfl ⟨rfl,cr,cr,cr,⟨rfl,rfl⟩,trivial⟩ ⟨(aB aZ),trivial⟩⟩
   simp only
   have h8:2^(c.toNat/64)<=2^3:=Nat.pow_le_pow_right (by omega) (by have:=c.toNat_lt;omega)
   have h9:0<2^(i-1):=Nat.pow_pos (by omega)
   have:2*s*1<=2*s*2^(i-1):=Nat.mul_le_mul_left _ h9
   omega
  have hi0:i=0:=by omega
  subst hi0
  refine zu (by simp only[zb];omega) (zq ?_)
  have hs:s=2^(c.toNat/64):=by rw[<-h1];simp
  have hsz:=z29 c s hs
  by_cases h192:192<=c.toNat
  ·have h4:=hsz.1 h192
   refine zt (by simp only[zb];omega) (zp ?_)
   refine zj [(0,0)] [0] (λvs _=>zkn (vs 0) l 3) (zi rfl ⟨_,_,rfl,rfl,_,_,rfl,cr,rfl⟩) rfl ⟨(aB aZ),trivial⟩ ⟨zad,trivial⟩ ?_
   simp only[lenP,if_pos h192]at h
   obtain⟨rfl,rfl,rfl⟩:=h
   exact zan (.inl rfl) [(0,0)] [(2, .r (I 0)),(3, .r (.b false))] [] rfl ⟨cr,cr,⟨rfl,rfl⟩,trivial⟩ ⟨⟨_,_,rfl,trivial,_,_,rfl,cr,rfl⟩,trivial⟩ ⟨⟨1000000,rfl⟩,trivial⟩ ⟨_,rfl,cr⟩
  have hs1:=hsz.2 (by omega)
  have hm:=zyn c
  refine zu (by simp only[zb];omega) (zq ?_)
  refine zd (m:=((zax c:Nat):Int)) (by omega) (by omega) ?_
  by_cases hr:l.length<zax c
  ·refine zj [(0,0)] [0] (λvs _=>zfe (vs 0) l (zax c) hr) (zi rfl ⟨_,_,rfl,rfl,_,_,rfl,cr,rfl⟩) rfl ⟨(aB aZ),trivial⟩ ⟨zad,trivial⟩ ?_
   refine zt rfl (zp ?_)
   simp only[lenP,if_neg h192,if_pos hr]at h
   obtain⟨rfl,rfl,rfl⟩:=h
   exact zan (.inl rfl) [(0,0)] [(2, .r (I 0)),(3, .r (.b false))] [] rfl ⟨cr,cr,⟨rfl,rfl⟩,trivial⟩ ⟨⟨_,_,rfl,trivial,_,_,rfl,cr,rfl⟩,trivial⟩ ⟨⟨1000000,rfl⟩,trivial⟩ ⟨_,rfl,cr⟩
  refine zj [(0,0)] [0] (λvs _=>zgv (vs 0) l (zax c) (by omega)) (zi rfl ⟨_,_,rfl,rfl,_,_,rfl,cr,rfl⟩) rfl ⟨(aB aZ),trivial⟩ ⟨zad,trivial⟩ ?_
  refine zu rfl (zq ?_)
  refine zm (by omega) (by simp) rfl (zg rfl ?_)
  refine zedb c ?_
  refine zw ?_
  have hd:(UInt8.ofNat (c.toNat%64)).toNat=c.toNat%64:=by rw[UInt8.toNat_ofNat'];have:=c.toNat_lt;omega
  refine Vapp.mk' (j:=(UInt8.ofNat (c.toNat%64)::l.take (zax c)).length) (zs:=(UInt8.ofNat (c.toNat%64)::l.take (zax c)).map U8) (by rw[List.length_take];simp only[maxLen];omega) (by simp;omega) (by rw[List.length_cons];omega) (by rw[List.map_cons];show _=RV.i .u8 ((UInt8.ofNat (c.toNat%64)).toNat:Int)::_;rw[hd];rfl) ?_
  refine ze (zhr (UInt8.ofNat (c.toNat%64)::l.take (zax c)) (by rw[List.length_cons,List.length_take];omega)) ?_
  have hn:numA 0 (UInt8.ofNat (c.toNat%64)::l.take (zax c))=numA (c.toNat%64) (l.take (zax c)):=by simp only[numA,List.foldl_cons,hd,Nat.mul_zero,Nat.zero_add]
  have hb:numA (c.toNat%64) (l.take (zax c))<1073741824:=by
   have h4:=zkz (l.take (zax c)) (c.toNat%64) 64 (by omega)
   have h6:(256:Nat)^(l.take (zax c)).length<=256^3:=Nat.pow_le_pow_right (by omega) (by rw[List.length_take];omega)
   have:(256:Nat)^3=16777216:=by decide
   omega
  rw[hn]
  refine zd (m:=((numA (c.toNat%64) (l.take (zax c)):Nat):Int)) rfl (by omega) ?_
  refine ze (znc _ (by omega)) ?_
  by_cases he:zc6 (numA (c.toNat%64) (l.take (zax c)))≠zax c+1
  ·refine zt (by simp only[zb];omega) (zp ?_)
   refine zj [(0,0)] [0] (λvs _=>zkn (vs 0) (l.drop (zax c)) 3) (zi rfl ⟨_,_,rfl,rfl,_,_,rfl,cr,rfl⟩) rfl ⟨(aB aZ),trivial⟩ ⟨zad,trivial⟩ ?_
   simp only[lenP,if_neg h192,if_neg hr]at h
   rw[if_pos he]at h
   obtain⟨rfl,rfl,rfl⟩:=h
   exact zan (.inl rfl) [(0,0)] [(2, .r (I 0)),(3, .r (.b false))] [] rfl ⟨cr,cr,⟨rfl,rfl⟩,trivial⟩ ⟨⟨_,_,rfl,trivial,_,_,rfl,cr,rfl⟩,trivial⟩ ⟨⟨1000000,rfl⟩,trivial⟩ ⟨_,rfl,cr⟩
  refine zu (by simp only[zb];omega) (zq ?_)
  simp only[lenP,if_neg h192,if_neg hr]at h
  rw[if_neg he]at h
  obtain⟨rfl,rfl,rfl⟩:=h
  exact zan (.inl rfl) [(0,0)] [(2, .r (I _)),(3, .r (.b true))] [] rfl ⟨cr,cr,⟨rfl,rfl⟩,trivial⟩ ⟨(aB aZ),trivial⟩ ⟨⟨1000000,rfl⟩,trivial⟩ ⟨_,rfl,cr⟩
theorem zvl(v:Value):Acts aP 477 1 (rdL []) [.own 0] [(0,v)] 1 (rdX 4) (.r (.tu [I 0, .b false])):=by
 refine zah (T:=Tab) mixed Tab_ok Tryz.func477 rfl (by kernel_rfl) rfl (zbg _ _ _ _ _) ?_
 refine Vcode.scope mixed Tab_ok 0 (zyc v 0 []) (λ_=>False) (λi=>i.1) rfl ?_ λ_ h=>h.elim
 refine zj [(0,0)] [0] (λvs _=>zfe (vs 0) [] 1 (by simp)) (zi rfl ⟨_,_,rfl,rfl,_,_,rfl,cr,rfl⟩) rfl ⟨(aB aZ),trivial⟩ ⟨zad,trivial⟩ ?_
 refine zt rfl (zp ?_)
 exact zan (.inl rfl) [(0,0)] [(2, .r (I 0)),(3, .r (.b false))] [] rfl ⟨cr,cr,⟨rfl,rfl⟩,trivial⟩ ⟨⟨_,_,rfl,trivial,_,_,rfl,cr,rfl⟩,trivial⟩ ⟨⟨1000000,rfl⟩,trivial⟩ ⟨_,rfl,cr⟩
theorem zrl(v:Value)(e:Nat)(he:e≠0):Acts aP 477 1 (rdX e) [.own 0] [(0,v)] 1 (rdX e) (.r (.tu [I 0, .b false])):=by
 refine zah (T:=Tab) mixed Tab_ok Tryz.func477 rfl (by kernel_rfl) rfl (zbg _ _ _ _ _) ?_
 refine Vcode.scope mixed Tab_ok 0 (zyc v 0 []) (λ_=>False) (λi=>i.1) rfl ?_ λ_ h=>h.elim
 refine zj [(0,0)] [0] (λvs _=>zmr (vs 0) e he 1) (zi rfl ⟨_,_,rfl,rfl,_,_,rfl,cr,rfl⟩) rfl ⟨⟨_,_,rfl,trivial,_,_,rfl,cr,rfl⟩,trivial⟩ ⟨zad,trivial⟩ ?_
 refine zt rfl (zp ?_)
 exact zan (.inl rfl) [(0,0)] [(2, .r (I 0)),(3, .r (.b false))] [] rfl ⟨cr,cr,⟨rfl,rfl⟩,trivial⟩ ⟨⟨_,_,rfl,trivial,_,_,rfl,cr,rfl⟩,trivial⟩ ⟨⟨1000000,rfl⟩,trivial⟩ ⟨_,rfl,cr⟩
theorem zt7(v:Value)(l r:List UInt8)(n:Nat)(hl:l.length<=8000000000000)(h:lenP l= .ok n r):Acts aP 477 1 (rdL l) [.own 0] [(0,v)] 1 (rdL r) (.r (.tu [I n, .b true])):=by
 cases l with
 |nil=>cases h
 |cons c l=>exact znd v c l (by simp at hl;omega) _ _ _ (by rw[h];exact⟨rfl,rfl,rfl⟩)
theorem zvk(v:Value)(l:List UInt8)(e:Nat)(hl:l.length<=8000000000000)(h:lenP l= .err e):Acts aP 477 1 (rdL l) [.own 0] [(0,v)] 1 (rdX e) (.r (.tu [I 0, .b false])):=by
 cases l with
 |nil=>injection h with h;subst h;exact zvl v
 |cons c l=>exact znd v c l (by simp at hl;omega) _ 0 _ (by rw[h];exact⟨rfl,rfl,rfl⟩)
theorem zff(v:Value)(l r x:List UInt8)(hl:l.length<=8000000000000)(h:vecP l= .ok x r):Acts aP 407 1 (rdL l) [.own 0] [(0,v)] 1 (rdL r) (.r (bs x)):=by
 refine zah (T:=Tab) mixed Tab_ok Tryz.func407 rfl (by kernel_rfl) rfl (zbg _ _ _ _ _) ?_
 unfold vecP at h
 cases hn:lenP l with
 |err e=>rw[hn]at h;cases h
 |ok n s=>
  rw[hn]at h
  simp only at h
  split at h
  ·cases h
  ·rename_i hns
   injection h with h1 h2
   subst h1;subst h2
   obtain⟨j,rfl,_,hj,_⟩:=zyd hn
   refine zj [(0,0)] [0] (λvs _=>zt7 (vs 0) l _ n hl hn) (zi rfl ⟨_,_,rfl,rfl,rfl⟩) rfl ⟨(aB aZ),trivial⟩ ⟨zad,trivial⟩ ?_
   refine zu rfl (zq ?_)
   refine zj [(0,0)] [0] (λvs _=>zbob (vs 0) (l.drop j) n (by rw[List.length_drop];omega) (by omega)) (zi rfl ⟨_,_,rfl,rfl,_,_,rfl,cr,rfl⟩) rfl ⟨(aB aZ),trivial⟩ ⟨zad,trivial⟩ ?_
   exact zan (.inl rfl) [(0,0)] [(2, .r (bs ((l.drop j).take n)))] [] rfl ⟨cr,⟨rfl,rfl⟩,trivial⟩ ⟨(aB aZ),trivial⟩ ⟨⟨1000000,rfl⟩,trivial⟩ (cr)
theorem ze4(v:Value)(l:List UInt8)(e:Nat)(hl:l.length<=8000000000000)(h:vecP l= .err e):Acts aP 407 1 (rdL l) [.own 0] [(0,v)] 1 (rdX e) (.r (bs [])):=by
 refine zah (T:=Tab) mixed Tab_ok Tryz.func407 rfl (by kernel_rfl) rfl (zbg _ _ _ _ _) ?_
 unfold vecP at h
 cases hn:lenP l with
 |err e'=>
  rw[hn]at h
  injection h with h
  subst h
  refine zj [(0,0)] [0] (λvs _=>zvk (vs 0) l _ hl hn) (zi rfl ⟨_,_,rfl,rfl,rfl⟩) rfl ⟨(aB aZ),trivial⟩ ⟨zad,trivial⟩ ?_
  refine zt rfl (zp ?_)
  exact zan (.inl rfl) [(0,0)] [(2, .r (bs []))] [] rfl ⟨zq5,⟨rfl,rfl⟩,trivial⟩ ⟨⟨_,_,rfl,trivial,_,_,rfl,cr,rfl⟩,trivial⟩ ⟨⟨1000000,rfl⟩,trivial⟩ (cr)
 |ok n s=>
  rw[hn]at h
  simp only at h
  split at h
  ·rename_i hns
   injection h with h
   subst h
   refine zj [(0,0)] [0] (λvs _=>zt7 (vs 0) l _ n hl hn) (zi rfl ⟨_,_,rfl,rfl,rfl⟩) rfl ⟨(aB aZ),trivial⟩ ⟨zad,trivial⟩ ?_
   refine zu rfl (zq ?_)
   refine zj [(0,0)] [0] (λvs _=>zxb (vs 0) s n hns) (zi rfl ⟨_,_,rfl,rfl,_,_,rfl,cr,rfl⟩) rfl ⟨(aB aZ),trivial⟩ ⟨zad,trivial⟩ ?_
   exact zan (.inl rfl) [(0,0)] [(2, .r (bs []))] [] rfl ⟨cr,⟨rfl,rfl⟩,trivial⟩ ⟨⟨_,_,rfl,trivial,_,_,rfl,cr,rfl⟩,trivial⟩ ⟨⟨1000000,rfl⟩,trivial⟩ (cr)
  ·cases h
theorem zgc(v:Value)(e:Nat)(he:e≠0):Acts aP 407 1 (rdX e) [.own 0] [(0,v)] 1 (rdX e) (.r (bs [])):=by
 refine zah (T:=Tab) mixed Tab_ok Tryz.func407 rfl (by kernel_rfl) rfl (zbg _ _ _ _ _) ?_
 refine zj [(0,0)] [0] (λvs _=>zrl (vs 0) e he) (zi rfl ⟨_,_,rfl,rfl,rfl⟩) rfl ⟨⟨_,_,rfl,trivial,_,_,rfl,cr,rfl⟩,trivial⟩ ⟨zad,trivial⟩ ?_
 refine zt rfl (zp ?_)
 exact zan (.inl rfl) [(0,0)] [(2, .r (bs []))] [] rfl ⟨zq5,⟨rfl,rfl⟩,trivial⟩ ⟨⟨_,_,rfl,trivial,_,_,rfl,cr,rfl⟩,trivial⟩ ⟨⟨1000000,rfl⟩,trivial⟩ (cr)
theorem Vint.byte(c:UInt8){e:Int}{K:Int->Prop}(he:e=(c.toNat:Int))(hK:K (c.toNat:Int)):Vint .u8 e K:=by
 refine Vint.u8 c.toNat he ?_
 rw[show(UInt8.ofNat c.toNat)=c by simp]
 exact hK
theorem num1(c:UInt8):numA 0 [c]=c.toNat:=by simp[numA]
abbrev rdZ:List (Nat×Ow):=[(0, .box [.r .any, .r .any])]
theorem zzb(c:RV)(e:Nat)(v:Value):zjz [(0,rdO c e)] rdZ [(0,v)]:=⟨⟨_,_,rfl,rfl,zai,zai⟩,trivial⟩
abbrev zl6:List RV:=[.x (.slice none 0 0), .x (.slice none 0 0), .x (.slice none 0 0), .i .u8 0, .x (.slice none 0 0), .x (.slice none 0 0)]
set_option maxHeartbeats 1000000 in
theorem zejb(v:Value)(l:List UInt8)(hl:l.length<=8000000000)(e:Nat)(h:zfa 3 l= .err e):Acts aP 481 1 (rdL l) [.own 0] [(0,v)] 2 rdZ (.r (.tu [.ag zl.c,Er e])):=by
 refine zah (T:=Tab) mixed Tab_ok Tryz.func481 rfl (by kernel_rfl) rfl (zzb _ _ _) ?_
 have he:=zvg 3 h
 simp only[zfa]at h
 cases h0:vecP l with
 |err e'=>
  rw[h0]at h
  injection h with h
  subst h
  refine zj [(0,0)] [0] (λvs _=>ze4 (vs 0) l _ (by omega) h0) (zi rfl ⟨_,_,rfl,rfl,rfl⟩) rfl ⟨(aB aZ),trivial⟩ ⟨zad,trivial⟩ ?_
  refine zj [(0,0)] [0] (λvs _=>zgc (vs 0) _ (by omega)) (zi rfl ⟨_,_,rfl,rfl,rfl⟩) rfl ⟨⟨_,_,rfl,trivial,_,_,rfl,cr,rfl⟩,trivial⟩ ⟨zad,trivial⟩ ?_
  refine zj [(0,0)] [0] (λvs _=>zgc (vs 0) _ (by omega)) (zi rfl ⟨_,_,rfl,rfl,rfl⟩) rfl ⟨⟨_,_,rfl,trivial,_,_,rfl,cr,rfl⟩,trivial⟩ ⟨zad,trivial⟩ ?_
  refine zj [(0,0)] [0] (λvs _=>ziy (vs 0) _ (by omega) 1 (by omega)) (zi rfl ⟨_,_,rfl,rfl,_,_,rfl,cr,rfl⟩) rfl ⟨⟨_,_,rfl,trivial,_,_,rfl,cr,rfl⟩,trivial⟩ ⟨zad,trivial⟩ ?_
  refine Vint.byte 0 rfl ?_
  refine zj [(0,0)] [0] (λvs _=>zgu (vs 0) _) (zi rfl ⟨_,_,rfl,rfl,rfl⟩) rfl ⟨⟨_,_,rfl,trivial,_,_,rfl,cr,rfl⟩,trivial⟩ ⟨zad,trivial⟩ ?_
  refine zt (by simp only[zb];omega) (zp ?_)
  exact zan (.inl rfl) [(0,0),(1,1)] [(2, .own 1),(3, .r (Er _))] [(1,some (.box (zl6.map .r)))] rfl ⟨rfl,cr,⟨rfl,rfl⟩,trivial⟩ ⟨⟨_,_,rfl,trivial,_,_,rfl,trivial,rfl⟩,(aC (aB aZ)),trivial⟩ ⟨⟨1000000,rfl⟩,trivial⟩ (za rfl rfl ⟨_,rfl,Cv.tu (zk zgp (zn _))⟩)
 |ok x0 r0=>
  rw[h0]at h
  simp only at h
  obtain⟨j0,e0,_,hj0,_⟩:=zfv h0
  have hl0:r0.length<=l.length:=by rw[e0,List.length_drop];omega
  cases h1:vecP r0 with
  |err e'=>
   rw[h1]at h
   injection h with h
   subst h
   refine zj [(0,0)] [0] (λvs _=>zff (vs 0) l r0 x0 (by omega) h0) (zi rfl ⟨_,_,rfl,rfl,rfl⟩) rfl ⟨(aB aZ),trivial⟩ ⟨zad,trivial⟩ ?_
   refine zj [(0,0)] [0] (λvs _=>ze4 (vs 0) r0 _ (by omega) h1) (zi rfl ⟨_,_,rfl,rfl,rfl⟩) rfl ⟨(aB aZ),trivial⟩ ⟨zad,trivial⟩ ?_
   refine zj [(0,0)] [0] (λvs _=>zgc (vs 0) _ (by omega)) (zi rfl ⟨_,_,rfl,rfl,rfl⟩) rfl ⟨⟨_,_,rfl,trivial,_,_,rfl,cr,rfl⟩,trivial⟩ ⟨zad,trivial⟩ ?_
   refine zj [(0,0)] [0] (λvs _=>ziy (vs 0) _ (by omega) 1 (by omega)) (zi rfl ⟨_,_,rfl,rfl,_,_,rfl,cr,rfl⟩) rfl ⟨⟨_,_,rfl,trivial,_,_,rfl,cr,rfl⟩,trivial⟩ ⟨zad,trivial⟩ ?_
   refine Vint.byte 0 rfl ?_
   refine zj [(0,0)] [0] (λvs _=>zgu (vs 0) _) (zi rfl ⟨_,_,rfl,rfl,rfl⟩) rfl ⟨⟨_,_,rfl,trivial,_,_,rfl,cr,rfl⟩,trivial⟩ ⟨zad,trivial⟩ ?_
   refine zt (by simp only[zb];omega) (zp ?_)
   exact zan (.inl rfl) [(0,0),(1,1)] [(2, .own 1),(3, .r (Er _))] [(1,some (.box (zl6.map .r)))] rfl ⟨rfl,cr,⟨rfl,rfl⟩,trivial⟩ ⟨⟨_,_,rfl,trivial,_,_,rfl,trivial,rfl⟩,(aC (aB aZ)),trivial⟩ ⟨⟨1000000,rfl⟩,trivial⟩ (za rfl rfl ⟨_,rfl,Cv.tu (zk zgp (zn _))⟩)
  |ok x1 r1=>
   rw[h1]at h
   simp only at h
   obtain⟨j1,e1,_,hj1,_⟩:=zfv h1
   have hl1:r1.length<=r0.length:=by rw[e1,List.length_drop];omega
   cases h2:vecP r1 with
   |err e'=>
    rw[h2]at h
    injection h with h
    subst h
    refine zj [(0,0)] [0] (λvs _=>zff (vs 0) l r0 x0 (by omega) h0) (zi rfl ⟨_,_,rfl,rfl,rfl⟩) rfl ⟨(aB aZ),trivial⟩ ⟨zad,trivial⟩ ?_
    refine zj [(0,0)] [0] (λvs _=>zff (vs 0) r0 r1 x1 (by omega) h1) (zi rfl ⟨_,_,rfl,rfl,rfl⟩) rfl ⟨(aB aZ),trivial⟩ ⟨zad,trivial⟩ ?_
    refine zj [(0,0)] [0] (λvs _=>ze4 (vs 0) r1 _ (by omega) h2) (zi rfl ⟨_,_,rfl,rfl,rfl⟩) rfl ⟨(aB aZ),trivial⟩ ⟨zad,trivial⟩ ?_
    refine zj [(0,0)] [0] (λvs _=>ziy (vs 0) _ (by omega) 1 (by omega)) (zi rfl ⟨_,_,rfl,rfl,_,_,rfl,cr,rfl⟩) rfl ⟨⟨_,_,rfl,trivial,_,_,rfl,cr,rfl⟩,trivial⟩ ⟨zad,trivial⟩ ?_
    refine Vint.byte 0 rfl ?_
    refine zj [(0,0)] [0] (λvs _=>zgu (vs 0) _) (zi rfl ⟨_,_,rfl,rfl,rfl⟩) rfl ⟨⟨_,_,rfl,trivial,_,_,rfl,cr,rfl⟩,trivial⟩ ⟨zad,trivial⟩ ?_
    refine zt (by simp only[zb];omega) (zp ?_)
    exact zan (.inl rfl) [(0,0),(1,1)] [(2, .own 1),(3, .r (Er _))] [(1,some (.box (zl6.map .r)))] rfl ⟨rfl,cr,⟨rfl,rfl⟩,trivial⟩ ⟨⟨_,_,rfl,trivial,_,_,rfl,trivial,rfl⟩,(aC (aB aZ)),trivial⟩ ⟨⟨1000000,rfl⟩,trivial⟩ (za rfl rfl ⟨_,rfl,Cv.tu (zk zgp (zn _))⟩)
   |ok x2 r2=>
    rw[h2]at h
    simp only at h
    obtain⟨j2,e2,_,hj2,_⟩:=zfv h2
    have hl2:r2.length<=r1.length:=by rw[e2,List.length_drop];omega
    cases h
set_option maxHeartbeats 2000000 in
theorem zrn(v:Value)(l:List UInt8)(hl:l.length<=8000000000)(x0 x1 x2 r0 r1 r2:List UInt8)(h0:vecP l= .ok x0 r0)(h1:vecP r0= .ok x1 r1)(h2:vecP r1= .ok x2 r2)(O1:List (Nat×Ow))(x:Leaf)(e:Nat)
  (h:match znq [x0,x1,x2] r2 with
   | .err e'=>O1=rdZ/\x=zl/\e=e'
   | .ok y r=>O1=rdL r/\x=y/\e=0):Acts aP 481 1 (rdL l) [.own 0] [(0,v)] 2 O1 (.r (.tu [.ag x.c,Er e])):=by
 refine zah (T:=Tab) mixed Tab_ok Tryz.func481 rfl (by kernel_rfl) rfl ?_ ?_
 ·cases hP:znq [x0,x1,x2] r2 with
  |err e'=>rw[hP]at h;obtain⟨rfl,_,_⟩:=h;exact zzb _ _ _
  |ok m r=>rw[hP]at h;obtain⟨rfl,_,_⟩:=h;exact zbg _ _ _ _ _
 obtain⟨j0,e0,_,hj0,_⟩:=zfv h0
 have hl0:r0.length<=l.length:=by rw[e0,List.length_drop];omega
 obtain⟨j1,e1,_,hj1,_⟩:=zfv h1
 have hl1:r1.length<=r0.length:=by rw[e1,List.length_drop];omega
 obtain⟨j2,e2,_,hj2,_⟩:=zfv h2
 have hl2:r2.length<=r1.length:=by rw[e2,List.length_drop];omega
 refine zj [(0,0)] [0] (λvs _=>zff (vs 0) l r0 x0 (by omega) h0) (zi rfl ⟨_,_,rfl,rfl,rfl⟩) rfl ⟨(aB aZ),trivial⟩ ⟨zad,trivial⟩ ?_
 refine zj [(0,0)] [0] (λvs _=>zff (vs 0) r0 r1 x1 (by omega) h1) (zi rfl ⟨_,_,rfl,rfl,rfl⟩) rfl ⟨(aB aZ),trivial⟩ ⟨zad,trivial⟩ ?_
 refine zj [(0,0)] [0] (λvs _=>zff (vs 0) r1 r2 x2 (by omega) h2) (zi rfl ⟨_,_,rfl,rfl,rfl⟩) rfl ⟨(aB aZ),trivial⟩ ⟨zad,trivial⟩ ?_
 cases r2 with
 |nil=>
  obtain⟨rfl,rfl,rfl⟩:=h
  refine zj [(0,0)] [0] (λvs _=>z4i (vs 0) [] 1 (by omega) (by simp)) (zi rfl ⟨_,_,rfl,rfl,_,_,rfl,cr,rfl⟩) rfl ⟨(aB aZ),trivial⟩ ⟨zad,trivial⟩ ?_
  refine Vint.byte 0 rfl ?_
  refine zj [(0,0)] [0] (λvs _=>zgu (vs 0) _) (zi rfl ⟨_,_,rfl,rfl,rfl⟩) rfl ⟨⟨_,_,rfl,trivial,_,_,rfl,cr,rfl⟩,trivial⟩ ⟨zad,trivial⟩ ?_
  refine zt rfl (zp ?_)
  exact zan (.inl rfl) [(0,0),(1,1)] [(2, .own 1),(3, .r (Er _))] [(1,some (.box (zl6.map .r)))] rfl ⟨rfl,cr,⟨rfl,rfl⟩,trivial⟩ ⟨⟨_,_,rfl,trivial,_,_,rfl,trivial,rfl⟩,(aC (aB aZ)),trivial⟩ ⟨⟨1000000,rfl⟩,trivial⟩ (za rfl rfl ⟨_,rfl,Cv.tu (zk zgp (zn _))⟩)
 |cons c r=>
  have hcl:=c.toNat_lt
  refine zj [(0,0)] [0] (λvs _=>z7m (vs 0) (c::r) 1 (by omega) (by simp)) (zi rfl ⟨_,_,rfl,rfl,_,_,rfl,cr,rfl⟩) rfl ⟨(aB aZ),trivial⟩ ⟨zad,trivial⟩ ?_
  rw[show List.take 1 (c::r)=[c]from rfl,num1]
  refine Vint.byte c rfl ?_
  refine zj [(0,0)] [0] (λvs _=>zix (vs 0) r) (zi rfl ⟨_,_,rfl,rfl,rfl⟩) rfl ⟨(aB aZ),trivial⟩ ⟨zad,trivial⟩ ?_
  refine zu rfl (zq ?_)
  simp only[znq]at h
  by_cases hc:c.toNat=0\/3<c.toNat
  ·rw[if_pos hc]at h
   obtain⟨rfl,rfl,rfl⟩:=h
   by_cases hc0:c.toNat=0
   ·refine zt (by simp only[zb];omega) (zp ?_)
    exact zan (.inl rfl) [(0,0),(1,1)] [(2, .own 1),(3, .r (Er _))] [(1,some (.box (zl6.map .r)))] rfl ⟨rfl,cr,⟨rfl,rfl⟩,trivial⟩ ⟨⟨_,_,rfl,trivial,_,_,rfl,trivial,rfl⟩,(aC (aB aZ)),trivial⟩ ⟨⟨1000000,rfl⟩,trivial⟩ (za rfl rfl ⟨_,rfl,Cv.tu (zk zgp (zn _))⟩)
   ·refine zu (by simp only[zb];omega) ?_
    refine zt (by simp only[zb];omega) (zp ?_)
    exact zan (.inl rfl) [(0,0),(1,1)] [(2, .own 1),(3, .r (Er _))] [(1,some (.box (zl6.map .r)))] rfl ⟨rfl,cr,⟨rfl,rfl⟩,trivial⟩ ⟨⟨_,_,rfl,trivial,_,_,rfl,trivial,rfl⟩,(aC (aB aZ)),trivial⟩ ⟨⟨1000000,rfl⟩,trivial⟩ (za rfl rfl ⟨_,rfl,Cv.tu (zk zgp (zn _))⟩)
  rw[if_neg hc]at h
  refine zu (by simp only[zb];omega) ?_
  refine zu (by simp only[zb];omega) (zq ?_)
  by_cases hc3:c.toNat=3
  ·rw[show zg0 c r=vecP r by unfold zg0;rw[if_pos hc3]]at h
   refine zt (by simp only[zb];omega) (zp ?_)
   have hlr:r.length<=8000000000:=by simp only[List.length_cons]at hl2;omega
   cases hp:vecP r with
   |err e'=>
    rw[hp]at h
    obtain⟨rfl,rfl,rfl⟩:=h
    have he:=zmo hp
    refine zj [(0,0)] [0] (λvs _=>ze4 (vs 0) r _ (by omega) hp) (zi rfl ⟨_,_,rfl,rfl,rfl⟩) rfl ⟨(aB aZ),trivial⟩ ⟨zad,trivial⟩ ?_
    refine zj [(0,0)] [0] (λvs _=>zgc (vs 0) _ (by omega)) (zi rfl ⟨_,_,rfl,rfl,rfl⟩) rfl ⟨⟨_,_,rfl,trivial,_,_,rfl,cr,rfl⟩,trivial⟩ ⟨zad,trivial⟩ ?_
    refine zj [(0,0)] [0] (λvs _=>zgu (vs 0) _) (zi rfl ⟨_,_,rfl,rfl,rfl⟩) rfl ⟨⟨_,_,rfl,trivial,_,_,rfl,cr,rfl⟩,trivial⟩ ⟨zad,trivial⟩ ?_
    refine zt (by simp only[zb];omega) (zp ?_)
    exact zan (.inl rfl) [(0,0),(1,1)] [(2, .own 1),(3, .r (Er _))] [(1,some (.box (zl6.map .r)))] rfl ⟨rfl,cr,⟨rfl,rfl⟩,trivial⟩ ⟨⟨_,_,rfl,trivial,_,_,rfl,trivial,rfl⟩,(aC (aB aZ)),trivial⟩ ⟨⟨1000000,rfl⟩,trivial⟩ (za rfl rfl ⟨_,rfl,Cv.tu (zk zgp (zn _))⟩)
   |ok pa r'=>
    rw[hp]at h
    simp only at h
    obtain⟨jp,ep,_,hjp,_⟩:=zfv hp
    have hlp:r'.length<=r.length:=by rw[ep,List.length_drop];omega
    refine zj [(0,0)] [0] (λvs _=>zff (vs 0) r r' pa (by omega) hp) (zi rfl ⟨_,_,rfl,rfl,rfl⟩) rfl ⟨(aB aZ),trivial⟩ ⟨zad,trivial⟩ ?_
    cases hs:vecP r' with
    |err e'=>
     simp only[zkv,hs]at h
     obtain⟨rfl,rfl,rfl⟩:=h
     have he:=zmo hs
     refine zj [(0,0)] [0] (λvs _=>ze4 (vs 0) r' _ (by omega) hs) (zi rfl ⟨_,_,rfl,rfl,rfl⟩) rfl ⟨(aB aZ),trivial⟩ ⟨zad,trivial⟩ ?_
     refine zj [(0,0)] [0] (λvs _=>zgu (vs 0) _) (zi rfl ⟨_,_,rfl,rfl,rfl⟩) rfl ⟨⟨_,_,rfl,trivial,_,_,rfl,cr,rfl⟩,trivial⟩ ⟨zad,trivial⟩ ?_
     refine zt (by simp only[zb];omega) (zp ?_)
     exact zan (.inl rfl) [(0,0),(1,1)] [(2, .own 1),(3, .r (Er _))] [(1,some (.box (zl6.map .r)))] rfl ⟨rfl,cr,⟨rfl,rfl⟩,trivial⟩ ⟨⟨_,_,rfl,trivial,_,_,rfl,trivial,rfl⟩,(aC (aB aZ)),trivial⟩ ⟨⟨1000000,rfl⟩,trivial⟩ (za rfl rfl ⟨_,rfl,Cv.tu (zk zgp (zn _))⟩)
    |ok sg q=>
     simp only[zkv,hs]at h
     refine zj [(0,0)] [0] (λvs _=>zff (vs 0) r' q sg (by omega) hs) (zi rfl ⟨_,_,rfl,rfl,rfl⟩) rfl ⟨(aB aZ),trivial⟩ ⟨zad,trivial⟩ ?_
     refine zj [(0,0)] [0] (λvs _=>zix (vs 0) q) (zi rfl ⟨_,_,rfl,rfl,rfl⟩) rfl ⟨(aB aZ),trivial⟩ ⟨zad,trivial⟩ ?_
     refine zu rfl (zq ?_)
     refine za rfl rfl ?_
     have hcv:Cv (.ag [bs x0,bs x1,bs x2,U8 c,bs pa,bs sg]) (.ag (zgf [x0,x1,x2] c pa sg).c):=Cv.ag (zk (cr) (zk (cr) (zk (cr) (zk (cr) (zk (cr) (zk (cr) Cvs.nil))))))
     refine Vcall.mk' (zf0 (zgf [x0,x1,x2] c pa sg)) (zk hcv Cvs.nil) ?_
     by_cases hR:(zgf [x0,x1,x2] c pa sg).right=true
     ·rw[if_pos hR]at h
      obtain⟨rfl,rfl,rfl⟩:=h
      refine zu (by simp only[zb];exact hR) (zq ?_)
      refine za rfl rfl ?_
      exact zan (.inl rfl) [(0,0),(1,1)] [(2, .own 1),(3, .r (Er 0))] [(1,some (.box (([bs x0,bs x1,bs x2,U8 c,bs pa,bs sg]:List RV).map .r)))] rfl ⟨rfl,cr,⟨rfl,rfl⟩,trivial⟩ ⟨(aB aZ),(aC (aB aZ)),trivial⟩ ⟨⟨1000000,rfl⟩,trivial⟩ (za rfl rfl ⟨_,rfl,Cv.tu (zk hcv (zn _))⟩)
     ·rw[if_neg hR]at h
      obtain⟨rfl,rfl,rfl⟩:=h
      refine zt (by simp only[zb];exact Bool.eq_false_iff.2 hR) (zp ?_)
      exact zan (.inl rfl) [(0,0),(1,1)] [(2, .own 1),(3, .r (Er _))] [(1,some (.box (zl6.map .r)))] rfl ⟨rfl,cr,⟨rfl,rfl⟩,trivial⟩ ⟨⟨_,_,rfl,trivial,_,_,rfl,trivial,rfl⟩,(aC (aB aZ)),trivial⟩ ⟨⟨1000000,rfl⟩,trivial⟩ (za rfl rfl ⟨_,rfl,Cv.tu (zk zgp (zn _))⟩)
  rw[show zg0 c r= .ok [] r by unfold zg0;rw[if_neg hc3]]at h
  simp only at h
  refine zu (by simp only[zb];omega) (zq ?_)
  have hlr:r.length<=8000000000:=by simp only[List.length_cons]at hl2;omega
  cases hs:vecP r with
  |err e'=>
   simp only[zkv,hs]at h
   obtain⟨rfl,rfl,rfl⟩:=h
   have he:=zmo hs
   refine zj [(0,0)] [0] (λvs _=>ze4 (vs 0) r _ (by omega) hs) (zi rfl ⟨_,_,rfl,rfl,rfl⟩) rfl ⟨(aB aZ),trivial⟩ ⟨zad,trivial⟩ ?_
   refine zj [(0,0)] [0] (λvs _=>zgu (vs 0) _) (zi rfl ⟨_,_,rfl,rfl,rfl⟩) rfl ⟨⟨_,_,rfl,trivial,_,_,rfl,cr,rfl⟩,trivial⟩ ⟨zad,trivial⟩ ?_
   refine zt (by simp only[zb];omega) (zp ?_)
   exact zan (.inl rfl) [(0,0),(1,1)] [(2, .own 1),(3, .r (Er _))] [(1,some (.box (zl6.map .r)))] rfl ⟨rfl,cr,⟨rfl,rfl⟩,trivial⟩ ⟨⟨_,_,rfl,trivial,_,_,rfl,trivial,rfl⟩,(aC (aB aZ)),trivial⟩ ⟨⟨1000000,rfl⟩,trivial⟩ (za rfl rfl ⟨_,rfl,Cv.tu (zk zgp (zn _))⟩)
  |ok sg q=>
   simp only[zkv,hs]at h
   refine zj [(0,0)] [0] (λvs _=>zff (vs 0) r q sg (by omega) hs) (zi rfl ⟨_,_,rfl,rfl,rfl⟩) rfl ⟨(aB aZ),trivial⟩ ⟨zad,trivial⟩ ?_
   refine zj [(0,0)] [0] (λvs _=>zix (vs 0) q) (zi rfl ⟨_,_,rfl,rfl,rfl⟩) rfl ⟨(aB aZ),trivial⟩ ⟨zad,trivial⟩ ?_
   refine zu rfl (zq ?_)
   refine za rfl rfl ?_
   have hcv:Cv (.ag [bs x0,bs x1,bs x2,U8 c, .x (.slice none 0 0),bs sg]) (.ag (zgf [x0,x1,x2] c [] sg).c):=Cv.ag (zk (cr) (zk (cr) (zk (cr) (zk (cr) (zk (Cv.nil 1) (zk (cr) Cvs.nil))))))
   refine Vcall.mk' (zf0 (zgf [x0,x1,x2] c [] sg)) (zk hcv Cvs.nil) ?_
   by_cases hR:(zgf [x0,x1,x2] c [] sg).right=true
   ·rw[if_pos hR]at h
    obtain⟨rfl,rfl,rfl⟩:=h
    refine zu (by simp only[zb];exact hR) (zq ?_)
    refine za rfl rfl ?_
    exact zan (.inl rfl) [(0,0),(1,1)] [(2, .own 1),(3, .r (Er 0))] [(1,some (.box (([bs x0,bs x1,bs x2,U8 c, .x (.slice none 0 0),bs sg]:List RV).map .r)))] rfl ⟨rfl,cr,⟨rfl,rfl⟩,trivial⟩ ⟨(aB aZ),(aC (aB aZ)),trivial⟩ ⟨⟨1000000,rfl⟩,trivial⟩ (za rfl rfl ⟨_,rfl,Cv.tu (zk hcv (zn _))⟩)
   ·rw[if_neg hR]at h
    obtain⟨rfl,rfl,rfl⟩:=h
    refine zt (by simp only[zb];exact Bool.eq_false_iff.2 hR) (zp ?_)
    exact zan (.inl rfl) [(0,0),(1,1)] [(2, .own 1),(3, .r (Er _))] [(1,some (.box (zl6.map .r)))] rfl ⟨rfl,cr,⟨rfl,rfl⟩,trivial⟩ ⟨⟨_,_,rfl,trivial,_,_,rfl,trivial,rfl⟩,(aC (aB aZ)),trivial⟩ ⟨⟨1000000,rfl⟩,trivial⟩ (za rfl rfl ⟨_,rfl,Cv.tu (zk zgp (zn _))⟩)
theorem z4k(v:Value)(l r:List UInt8)(x:Leaf)(hl:l.length<=8000000000)(h:zox l= .ok x r):Acts aP 481 1 (rdL l) [.own 0] [(0,v)] 2 (rdL r) (.r (.tu [.ag x.c,Er 0])):=by
 unfold zox at h
 cases hv:zfa 3 l with
 |err e'=>rw[hv]at h;cases h
 |ok vs q=>
  rw[hv]at h
  simp only[zfa]at hv
  cases h0:vecP l with
  |err e'=>rw[h0]at hv;cases hv
  |ok x0 r0=>
   rw[h0]at hv
   simp only at hv
   cases h1:vecP r0 with
   |err e'=>rw[h1]at hv;cases hv
   |ok x1 r1=>
    rw[h1]at hv
    simp only at hv
    cases h2:vecP r1 with
    |err e'=>rw[h2]at hv;cases hv
    |ok x2 r2=>
     rw[h2]at hv
     simp only[PR.ok.injEq]at hv
     obtain⟨rfl,rfl⟩:=hv
     simp only at h
     exact zrn v l hl x0 x1 x2 r0 r1 r2 h0 h1 h2 _ _ _ (by rw[h];exact⟨rfl,rfl,rfl⟩)
theorem zhl{P:Program}{f:FuncId}{n0 n1:Nat}{O0 O1:List (Nat×Ow)}{args:List TF}{names names':List (Nat×Value)}{res:TF}(e:names=names')(h:Acts P f n0 O0 args names n1 O1 res):Acts P f n0 O0 args names' n1 O1 res:=e▸h
theorem z7k(u x:Int)(hu:zjw u):aG 538 [I u, .ptr [I x]] (.r (.b (!ze1 (2*u) x))):=by
 refine aT Tryz.func538 rfl ?_
 unfold zjw at hu
 refine zd rfl (by omega) ?_
 refine zg rfl ?_
 refine ze (zf1b (2*u) x) ?_
 exact Vcmp.mk' rfl (cr)
theorem zbmb(x:Int)(n:Node)(hn:n.fit):aG 507 [I x, .ag n.c] (.r (.b (ze2 x n))):=by
 refine aT Tryz.func507 rfl ?_
 refine za rfl rfl ?_
 refine ze (zp8 n hn) ?_
 have clo:=λ(u:Int) (hu:zjw u)=>z7k u x hu
 cases hr:n.right with
 |false=>
  refine⟨by decide,_,rfl,?_⟩
  refine zh (λh=>zp ?_) (λh=>zq ?_)
  ·refine zu rfl ?_
   exact zf (congrArg RV.b (by simp[ze2,hr]))
  ·refine zu rfl ?_
   exact zf (congrArg RV.b (by simp[ze2,hr]))
 |true=>
  have hlate:=Node.right_late hr
  have hll:n.par.late.length<=1000000000:=by have:=hn.2.2.2.1;omega
  have fin: ∀{β:Bool},β=n.par.late.any (λu=> !ze1 (2*u) x)->n.kind.toNat≠zgi x->(!β)=ze2 x n:=λhb hk=>by
   subst hb
   rw[zffb]
   simp[ze2,hr,hk]
  refine⟨by decide,_,rfl,?_⟩
  refine zh (λh=>zp ?_) (λh=>zq ?_)
  ·simp only[zb]at h
   refine zt rfl ?_
   refine zh (λh2=>?_) (λh2=>?_)
   ·simp only[zb]at h2
    refine Vstep.sub (zcq (t:=2) [I x] rfl rfl) (Vstep.mkfun I zjw _ rfl rfl clo ?_)
    refine ze (zkm n.par.late zjw _ hll hlate) ?_
    exact Vcmp.mk' rfl (zf (congrArg RV.b (fin rfl (by simp[zgi,h];omega))))
   ·simp only[zb]at h2
    refine zf (congrArg RV.b ?_)
    have:n.kind.toNat=zgi x:=by simp[zgi,h];omega
    simp[ze2,this]
  ·simp only[zb]at h
   refine zt rfl ?_
   refine zh (λh2=>?_) (λh2=>?_)
   ·simp only[zb]at h2
    refine Vstep.sub (zcq (t:=2) [I x] rfl rfl) (Vstep.mkfun I zjw _ rfl rfl clo ?_)
    refine ze (zkm n.par.late zjw _ hll hlate) ?_
    exact Vcmp.mk' rfl (zf (congrArg RV.b (fin rfl (by simp[zgi,h];omega))))
   ·simp only[zb]at h2
    refine zf (congrArg RV.b ?_)
    have:n.kind.toNat=zgi x:=by simp[zgi,h];omega
    simp[ze2,this]
def zjc(O:List Spot)(x:Int):Node:=(zbk O x).getD Node.zero
abbrev pbox(leaves own:Int)(O:List Spot)(H:List Stub):Ow:= .box [.r (I leaves), .r (I own), .r (.s (mapS (zbw O))), .r (.s (mapS (zb2 H)))]
theorem g_at(pv:Value)(leaves own:Int)(O:List Spot)(H:List Stub)(x:Int):Acts aP 508 1 [(0,pbox leaves own O H)] [.r (I x), .own 0] [(0,pv)] 2 [(0,pbox leaves own O H)] (.r (.tu [.ag (zjc O x).c, .b (zlp O x)])):=by
 refine zah (T:=Tab) mixed Tab_ok Tryz.func508 rfl (by kernel_rfl) rfl ⟨⟨_,_,rfl,rfl,zai,zai⟩,trivial⟩ ?_
 refine Vstep.node2 rfl rfl rfl (λm hm=>?_) (λhm=>?_)
 ·refine za rfl rfl ?_
  have e1:zjc O x=m:=by unfold zjc;rw[hm];rfl
  have e2:zlp O x=true:=by unfold zlp;rw[hm];rfl
  rw[e1,e2]
  exact zan (.inl rfl) [(0,0),(1,1)] [(3, .own 1),(4, .r (.b true))] [(1,some (.box (m.c.map .r)))] rfl ⟨rfl,cr,⟨rfl,rfl⟩,trivial⟩ ⟨(aC aZ),(aD (aB aZ)),trivial⟩ ⟨⟨1000000,rfl⟩,trivial⟩ (za rfl rfl ⟨_,rfl,cr⟩)
 ·refine za rfl rfl ?_
  have e1:zjc O x=Node.zero:=by unfold zjc;rw[hm];rfl
  have e2:zlp O x=false:=by unfold zlp;rw[hm];rfl
  rw[e1,e2]
  exact zan (.inl rfl) [(0,0),(1,1)] [(3, .own 1),(4, .r (.b false))] [(1,some (.box (zc.map .r)))] rfl ⟨rfl,cr,⟨rfl,rfl⟩,trivial⟩ ⟨(aC aZ),(aD (aB aZ)),trivial⟩ ⟨⟨1000000,rfl⟩,trivial⟩ (za rfl rfl ⟨_,rfl,Cv.tu (zk ziob (zn _))⟩)
end Go.Proofs.YtkegaaonpekkgaaGreat.Sx
