import Derived.Test.YtpdllgbfemnemaaGreatZTb
import Derived.Test.YtpdllgbfemnemaaGreatZRe
import Derived.Test.YtpdllgbfemnemaaGreatZSxRg
namespace Go.Proofs.YtpdllgbfemnemaaGreat.Sx
open Go.RowKit
set_option linter.unusedVariables false
section
theorem zr6(v:Value):Acts Tryz.prog 200 1 (rdL []) [.own 0] [(0,v)] 1 (rdX 4) (.r (.b false)):=by
 refine zam (T:=Tab) mixed Tab_ok Tryz.func200 rfl (by kernel_rfl) rfl (zb2 _ _ _ _ _) ?_
 refine zj [(0,0)] [0] (λvs _=>zf5 (vs 0) [] 1 (by simp)) (zi rfl ⟨_,_,rfl,rfl,_,_,rfl,cr,rfl⟩) rfl ⟨⟨_,_,rfl,cr,_,_,rfl,cr,rfl⟩,trivial⟩ ⟨zaa,trivial⟩ ?_
 refine zu rfl (zq ?_)
 exact zah (.inl rfl) [(0,0)] [(2, .r (.b false))] [] rfl ⟨cr,⟨rfl,rfl⟩,trivial⟩ ⟨⟨_,_,rfl,trivial,_,_,rfl,cr,rfl⟩,trivial⟩ ⟨⟨1000000,rfl⟩,trivial⟩ (cr)
theorem zsi(v:Value)(c:UInt8)(l:List UInt8)(hc:1<c.toNat):Acts Tryz.prog 200 1 (rdL (c::l)) [.own 0] [(0,v)] 1 (rdX 3) (.r (.b false)):=by
 refine zam (T:=Tab) mixed Tab_ok Tryz.func200 rfl (by kernel_rfl) rfl (zb2 _ _ _ _ _) ?_
 refine zj [(0,0)] [0] (λvs _=>zje (vs 0) (c::l) 1 (by simp)) (zi rfl ⟨_,_,rfl,rfl,_,_,rfl,cr,rfl⟩) rfl ⟨⟨_,_,rfl,cr,_,_,rfl,cr,rfl⟩,trivial⟩ ⟨zaa,trivial⟩ ?_
 refine zw rfl (zt ?_)
 refine zm (by omega) (by simp) rfl (zg rfl ?_)
 refine zu (by simp only[zb];omega) (zq ?_)
 refine zj [(0,0)] [0] (λvs _=>zm9 (vs 0) l 3) (zi rfl ⟨_,_,rfl,rfl,_,_,rfl,cr,rfl⟩) rfl ⟨⟨_,_,rfl,cr,_,_,rfl,cr,rfl⟩,trivial⟩ ⟨zaa,trivial⟩ ?_
 exact zah (.inl rfl) [(0,0)] [(2, .r (.b false))] [] rfl ⟨cr,⟨rfl,rfl⟩,trivial⟩ ⟨⟨_,_,rfl,trivial,_,_,rfl,cr,rfl⟩,trivial⟩ ⟨⟨1000000,rfl⟩,trivial⟩ (cr)
theorem zfzb(v:Value)(l:List UInt8):Acts Tryz.prog 183 1 (rdL l) [.own 0] [(0,v)] 1 (rdL l) (.r (Er (if l.length=0 then 0 else 5))):=by
 refine zam (T:=Tab) mixed Tab_ok Tryz.func183 rfl (by kernel_rfl) rfl (zb2 _ _ _ _ _) ?_
 refine zj [(0,0)] [0] (λvs _=>zfn (vs 0) l) (zi rfl ⟨_,_,rfl,rfl,rfl⟩) rfl ⟨⟨_,_,rfl,cr,_,_,rfl,cr,rfl⟩,trivial⟩ ⟨zaa,trivial⟩ ?_
 refine zw rfl (zt ?_)
 by_cases h:l.length=0
 ·rw[if_pos h]
  refine zw (by simp only[zb];omega) (zt ?_)
  exact zah (.inl rfl) [(0,0)] [(2, .r (Er 0))] [] rfl ⟨cr,⟨rfl,rfl⟩,trivial⟩ ⟨⟨_,_,rfl,cr,_,_,rfl,cr,rfl⟩,trivial⟩ ⟨⟨1000000,rfl⟩,trivial⟩ (cr)
 ·rw[if_neg h]
  refine zu (by simp only[zb];omega) (zq ?_)
  exact zah (.inl rfl) [(0,0)] [(2, .r (Er 5))] [] rfl ⟨cr,⟨rfl,rfl⟩,trivial⟩ ⟨⟨_,_,rfl,cr,_,_,rfl,cr,rfl⟩,trivial⟩ ⟨⟨1000000,rfl⟩,trivial⟩ (cr)
theorem shr6(c:UInt8){K:Int->Prop}(hK:K ((c.toNat/64:Nat):Int)):Vshr .u8 (c.toNat:Int) 6 K:=by
 refine⟨by omega,_,?_,hK⟩
 show((c.toNat/64:Nat):Int)=(c.toNat:Int).fdiv (2^6)
 rw[Int.fdiv_eq_ediv_of_nonneg _ (by decide)]
 omega
theorem zcnb(c:UInt8){K:Int->Prop}(hK:K ((c.toNat%64:Nat):Int)):Vbits .u8 .and (c.toNat:Int) 63 K:=by
 refine⟨_,?_,hK⟩
 have hc:=c.toNat_lt
 show((c.toNat%64:Nat):Int)=IntKind.u8.wrap (((BitVec.ofInt 8 (c.toNat:Int)&&&BitVec.ofInt 8 63).toNat:Nat):Int)
 have e:(BitVec.ofInt 8 (c.toNat:Int)).toNat=c.toNat:=by rw[BitVec.toNat_ofInt];omega
 have e2:(BitVec.ofInt 8 63).toNat=63:=by decide
 rw[BitVec.toNat_and,e,e2,show(63:Nat)=2^6-1 from rfl,Nat.and_two_pow_sub_one_eq_mod]
 have:c.toNat%2^6<64:=Nat.mod_lt _ (by decide)
 simp only[IntKind.wrap]
 simp[IntKind.bits,IntKind.signed]
 omega
theorem z3z(c:UInt8)(s:Nat)(h:s=2^(c.toNat/64)):(192<=c.toNat->4<s)/\(c.toNat<192->s=zaz c+1):=by
 have hc:=c.toNat_lt
 have:c.toNat/64=0\/c.toNat/64=1\/c.toNat/64=2\/c.toNat/64=3:=by omega
 unfold zaz
 refine⟨λh1=>?_,λh1=>?_⟩
 ·rcases this with h2 |h2 |h2 |h2<;>rw[h2]at h<;>simp at h<;>omega
 ·rcases this with h2 |h2 |h2 |h2<;>rw[h2]at h<;>simp at h<;>(split<;>(try split))<;>omega
theorem z1p(c:UInt8):zaz c<=3:=by unfold zaz;split<;>(try split)<;>omega
theorem z4b{n:Nat}(h:0<n)(h2:n<256):IntKind.u8.wrap ((n:Int)-1)=((n-1:Nat):Int):=by
 simp only[IntKind.wrap]
 simp[IntKind.bits,IntKind.signed]
 omega
def z1d(v:Value)(c:UInt8)(l:List UInt8)(i:Nat×Nat):St:=
 ⟨[(0, .own 0),(4, .r (bs [c])),(6, .r (I i.2)),(7, .r (.i .u8 i.1)),(1000000, .nm 0 v)],[(0,some (rdO (bs l) 0))],1⟩
set_option maxHeartbeats 1000000 in
theorem zpd(v:Value)(c:UInt8)(l:List UInt8)(hl:l.length<=8000000000000)(O1:List (Nat×Ow))(n:Nat)(ok:Bool)
  (h:match lenP (c::l)with
   | .err e=>O1=rdX e/\n=0/\ok=false
   | .ok m r=>O1=rdL r/\n=m/\ok=true):Acts Tryz.prog 243 1 (rdL (c::l)) [.own 0] [(0,v)] 1 O1 (.r (.tu [I n, .b ok])):=by
 refine zam (T:=Tab) mixed Tab_ok Tryz.func243 rfl (by kernel_rfl) rfl ?_ ?_
 ·cases hP:lenP (c::l)with
  |err e=>rw[hP]at h;obtain⟨rfl,_,_⟩:=h;exact zb2 _ _ _ _ _
  |ok m r=>rw[hP]at h;obtain⟨rfl,_,_⟩:=h;exact zb2 _ _ _ _ _
 refine Vcode.scope mixed Tab_ok 0 (z1d v c l) (λi=>i.2*2^i.1=2^(c.toNat/64)/\i.1<=3/\i.2<=8) (λi=>i.1) rfl ?_ ?_
 ·refine zj [(0,0)] [0] (λvs _=>zje (vs 0) (c::l) 1 (by simp)) (zi rfl ⟨_,_,rfl,rfl,_,_,rfl,cr,rfl⟩) rfl ⟨⟨_,_,rfl,cr,_,_,rfl,cr,rfl⟩,trivial⟩ ⟨zaa,trivial⟩ ?_
  refine zw rfl (zt ?_)
  refine zm (by omega) (by simp) rfl (zg rfl ?_)
  refine shr6 c ?_
  have hc:=c.toNat_lt
  by_cases hk:0<c.toNat/64
  ·refine zu (by simp only[zb];omega) (zq ?_)
   refine zd (m:=2) (by omega) (by omega) ?_
   refine⟨((c.toNat/64-1:Nat):Int),by rw[z4b hk (by omega)],?_⟩
   refine⟨(c.toNat/64-1,2),⟨?_,by simp only;omega,by simp⟩,zad [(0,0)] rfl ⟨rfl,cr,cr,cr,⟨rfl,rfl⟩,trivial⟩ ⟨⟨_,_,rfl,cr,_,_,rfl,cr,rfl⟩,trivial⟩⟩
   simp only
   rw[<-Nat.pow_succ',show(c.toNat/64-1).succ=c.toNat/64 by omega]
  refine zw (by simp only[zb];omega) (zt ?_)
  obtain⟨s,hs'⟩: ∃s:Nat,s=1:=⟨1,rfl⟩
  have hs:s=2^(c.toNat/64):=by rw[hs',show c.toNat/64=0 by omega]
  have hsz:=z3z c s hs
  by_cases h192:192<=c.toNat
  ·have h4:=hsz.1 h192
   refine zu (by simp only[zb];omega) (zq ?_)
   refine zj [(0,0)] [0] (λvs _=>zm9 (vs 0) l 3) (zi rfl ⟨_,_,rfl,rfl,_,_,rfl,cr,rfl⟩) rfl ⟨⟨_,_,rfl,cr,_,_,rfl,cr,rfl⟩,trivial⟩ ⟨zaa,trivial⟩ ?_
   simp only[lenP,if_pos h192]at h
   obtain⟨rfl,rfl,rfl⟩:=h
   exact zah (.inl rfl) [(0,0)] [(2, .r (I 0)),(3, .r (.b false))] [] rfl ⟨cr,cr,⟨rfl,rfl⟩,trivial⟩ ⟨⟨_,_,rfl,trivial,_,_,rfl,cr,rfl⟩,trivial⟩ ⟨⟨1000000,rfl⟩,trivial⟩ ⟨_,rfl,cr⟩
  have hs1:=hsz.2 (by omega)
  have hm:=z1p c
  refine zw (by simp only[zb];omega) (zt ?_)
  refine zd (m:=((zaz c:Nat):Int)) (by omega) (by omega) ?_
  by_cases hr:l.length<zaz c
  ·refine zj [(0,0)] [0] (λvs _=>zf5 (vs 0) l (zaz c) hr) (zi rfl ⟨_,_,rfl,rfl,_,_,rfl,cr,rfl⟩) rfl ⟨⟨_,_,rfl,cr,_,_,rfl,cr,rfl⟩,trivial⟩ ⟨zaa,trivial⟩ ?_
   refine zu rfl (zq ?_)
   simp only[lenP,if_neg h192,if_pos hr]at h
   obtain⟨rfl,rfl,rfl⟩:=h
   exact zah (.inl rfl) [(0,0)] [(2, .r (I 0)),(3, .r (.b false))] [] rfl ⟨cr,cr,⟨rfl,rfl⟩,trivial⟩ ⟨⟨_,_,rfl,trivial,_,_,rfl,cr,rfl⟩,trivial⟩ ⟨⟨1000000,rfl⟩,trivial⟩ ⟨_,rfl,cr⟩
  refine zj [(0,0)] [0] (λvs _=>zje (vs 0) l (zaz c) (by omega)) (zi rfl ⟨_,_,rfl,rfl,_,_,rfl,cr,rfl⟩) rfl ⟨⟨_,_,rfl,cr,_,_,rfl,cr,rfl⟩,trivial⟩ ⟨zaa,trivial⟩ ?_
  refine zw rfl (zt ?_)
  refine zm (by omega) (by simp) rfl (zg rfl ?_)
  refine zcnb c ?_
  refine zx ?_
  have hd:(UInt8.ofNat (c.toNat%64)).toNat=c.toNat%64:=by rw[UInt8.toNat_ofNat'];have:=c.toNat_lt;omega
  refine Vapp.mk' (j:=(UInt8.ofNat (c.toNat%64)::l.take (zaz c)).length) (zs:=(UInt8.ofNat (c.toNat%64)::l.take (zaz c)).map U8) (by rw[List.length_take];simp only[maxLen];omega) (by simp;omega) (by rw[List.length_cons];omega) (by rw[List.map_cons];show _=RV.i .u8 ((UInt8.ofNat (c.toNat%64)).toNat:Int)::_;rw[hd];rfl) ?_
  refine ze (zj7 (UInt8.ofNat (c.toNat%64)::l.take (zaz c)) (by rw[List.length_cons,List.length_take];omega)) ?_
  have hn:numA 0 (UInt8.ofNat (c.toNat%64)::l.take (zaz c))=numA (c.toNat%64) (l.take (zaz c)):=by simp only[numA,List.foldl_cons,hd,Nat.mul_zero,Nat.zero_add]
  have hb:numA (c.toNat%64) (l.take (zaz c))<1073741824:=by
   have h4:=zia (l.take (zaz c)) (c.toNat%64) 64 (by omega)
   have h6:(256:Nat)^(l.take (zaz c)).length<=256^3:=Nat.pow_le_pow_right (by omega) (by rw[List.length_take];omega)
   have:(256:Nat)^3=16777216:=by decide
   omega
  rw[hn]
  refine zd (m:=((numA (c.toNat%64) (l.take (zaz c)):Nat):Int)) rfl (by omega) ?_
  refine ze (zx9 _ (by omega)) ?_
  by_cases he:zb4 (numA (c.toNat%64) (l.take (zaz c)))≠zaz c+1
  ·refine zu (by simp only[zb];omega) (zq ?_)
   refine zj [(0,0)] [0] (λvs _=>zm9 (vs 0) (l.drop (zaz c)) 3) (zi rfl ⟨_,_,rfl,rfl,_,_,rfl,cr,rfl⟩) rfl ⟨⟨_,_,rfl,cr,_,_,rfl,cr,rfl⟩,trivial⟩ ⟨zaa,trivial⟩ ?_
   simp only[lenP,if_neg h192,if_neg hr]at h
   rw[if_pos he]at h
   obtain⟨rfl,rfl,rfl⟩:=h
   exact zah (.inl rfl) [(0,0)] [(2, .r (I 0)),(3, .r (.b false))] [] rfl ⟨cr,cr,⟨rfl,rfl⟩,trivial⟩ ⟨⟨_,_,rfl,trivial,_,_,rfl,cr,rfl⟩,trivial⟩ ⟨⟨1000000,rfl⟩,trivial⟩ ⟨_,rfl,cr⟩
  refine zw (by simp only[zb];omega) (zt ?_)
  simp only[lenP,if_neg h192,if_neg hr]at h
  rw[if_neg he]at h
  obtain⟨rfl,rfl,rfl⟩:=h
  exact zah (.inl rfl) [(0,0)] [(2, .r (I _)),(3, .r (.b true))] [] rfl ⟨cr,cr,⟨rfl,rfl⟩,trivial⟩ ⟨⟨_,_,rfl,cr,_,_,rfl,cr,rfl⟩,trivial⟩ ⟨⟨1000000,rfl⟩,trivial⟩ ⟨_,rfl,cr⟩
 ·rintro⟨i,s⟩ ⟨h1,h2,h3⟩
  simp only at h1 h2 h3
  by_cases hk:0<i
  ·refine zu (by simp only[zb];omega) (zq ?_)
   refine zd (m:=((2*s:Nat):Int)) (by omega) (by omega) ?_
   refine⟨((i-1:Nat):Int),by rw[z4b hk (by omega)],?_⟩
   have hp:2*2^(i-1)=2^i:=by rw[<-Nat.pow_succ',show(i-1).succ=i by omega]
   have hs2:2*s*2^(i-1)=2^(c.toNat/64):=by rw[<-h1,<-hp,Nat.mul_comm 2 s,Nat.mul_assoc]
   refine⟨(i-1,2*s),⟨hs2,by simp only;omega,?_⟩,by simp only;omega,zad [(0,0)] rfl ⟨rfl,cr,cr,cr,⟨rfl,rfl⟩,trivial⟩ ⟨⟨_,_,rfl,cr,_,_,rfl,cr,rfl⟩,trivial⟩⟩
   simp only
   have h8:2^(c.toNat/64)<=2^3:=Nat.pow_le_pow_right (by omega) (by have:=c.toNat_lt;omega)
   have h9:0<2^(i-1):=Nat.pow_pos (by omega)
   have:2*s*1<=2*s*2^(i-1):=Nat.mul_le_mul_left _ h9
   omega
  have hi0:i=0:=by omega
  subst hi0
  refine zw (by simp only[zb];omega) (zt ?_)
  have hs:s=2^(c.toNat/64):=by rw[<-h1];simp
  have hsz:=z3z c s hs
  by_cases h192:192<=c.toNat
  ·have h4:=hsz.1 h192
   refine zu (by simp only[zb];omega) (zq ?_)
   refine zj [(0,0)] [0] (λvs _=>zm9 (vs 0) l 3) (zi rfl ⟨_,_,rfl,rfl,_,_,rfl,cr,rfl⟩) rfl ⟨⟨_,_,rfl,cr,_,_,rfl,cr,rfl⟩,trivial⟩ ⟨zaa,trivial⟩ ?_
   simp only[lenP,if_pos h192]at h
   obtain⟨rfl,rfl,rfl⟩:=h
   exact zah (.inl rfl) [(0,0)] [(2, .r (I 0)),(3, .r (.b false))] [] rfl ⟨cr,cr,⟨rfl,rfl⟩,trivial⟩ ⟨⟨_,_,rfl,trivial,_,_,rfl,cr,rfl⟩,trivial⟩ ⟨⟨1000000,rfl⟩,trivial⟩ ⟨_,rfl,cr⟩
  have hs1:=hsz.2 (by omega)
  have hm:=z1p c
  refine zw (by simp only[zb];omega) (zt ?_)
  refine zd (m:=((zaz c:Nat):Int)) (by omega) (by omega) ?_
  by_cases hr:l.length<zaz c
  ·refine zj [(0,0)] [0] (λvs _=>zf5 (vs 0) l (zaz c) hr) (zi rfl ⟨_,_,rfl,rfl,_,_,rfl,cr,rfl⟩) rfl ⟨⟨_,_,rfl,cr,_,_,rfl,cr,rfl⟩,trivial⟩ ⟨zaa,trivial⟩ ?_
   refine zu rfl (zq ?_)
   simp only[lenP,if_neg h192,if_pos hr]at h
   obtain⟨rfl,rfl,rfl⟩:=h
   exact zah (.inl rfl) [(0,0)] [(2, .r (I 0)),(3, .r (.b false))] [] rfl ⟨cr,cr,⟨rfl,rfl⟩,trivial⟩ ⟨⟨_,_,rfl,trivial,_,_,rfl,cr,rfl⟩,trivial⟩ ⟨⟨1000000,rfl⟩,trivial⟩ ⟨_,rfl,cr⟩
  refine zj [(0,0)] [0] (λvs _=>zje (vs 0) l (zaz c) (by omega)) (zi rfl ⟨_,_,rfl,rfl,_,_,rfl,cr,rfl⟩) rfl ⟨⟨_,_,rfl,cr,_,_,rfl,cr,rfl⟩,trivial⟩ ⟨zaa,trivial⟩ ?_
  refine zw rfl (zt ?_)
  refine zm (by omega) (by simp) rfl (zg rfl ?_)
  refine zcnb c ?_
  refine zx ?_
  have hd:(UInt8.ofNat (c.toNat%64)).toNat=c.toNat%64:=by rw[UInt8.toNat_ofNat'];have:=c.toNat_lt;omega
  refine Vapp.mk' (j:=(UInt8.ofNat (c.toNat%64)::l.take (zaz c)).length) (zs:=(UInt8.ofNat (c.toNat%64)::l.take (zaz c)).map U8) (by rw[List.length_take];simp only[maxLen];omega) (by simp;omega) (by rw[List.length_cons];omega) (by rw[List.map_cons];show _=RV.i .u8 ((UInt8.ofNat (c.toNat%64)).toNat:Int)::_;rw[hd];rfl) ?_
  refine ze (zj7 (UInt8.ofNat (c.toNat%64)::l.take (zaz c)) (by rw[List.length_cons,List.length_take];omega)) ?_
  have hn:numA 0 (UInt8.ofNat (c.toNat%64)::l.take (zaz c))=numA (c.toNat%64) (l.take (zaz c)):=by simp only[numA,List.foldl_cons,hd,Nat.mul_zero,Nat.zero_add]
  have hb:numA (c.toNat%64) (l.take (zaz c))<1073741824:=by
   have h4:=zia (l.take (zaz c)) (c.toNat%64) 64 (by omega)
   have h6:(256:Nat)^(l.take (zaz c)).length<=256^3:=Nat.pow_le_pow_right (by omega) (by rw[List.length_take];omega)
   have:(256:Nat)^3=16777216:=by decide
   omega
  rw[hn]
  refine zd (m:=((numA (c.toNat%64) (l.take (zaz c)):Nat):Int)) rfl (by omega) ?_
  refine ze (zx9 _ (by omega)) ?_
  by_cases he:zb4 (numA (c.toNat%64) (l.take (zaz c)))≠zaz c+1
  ·refine zu (by simp only[zb];omega) (zq ?_)
   refine zj [(0,0)] [0] (λvs _=>zm9 (vs 0) (l.drop (zaz c)) 3) (zi rfl ⟨_,_,rfl,rfl,_,_,rfl,cr,rfl⟩) rfl ⟨⟨_,_,rfl,cr,_,_,rfl,cr,rfl⟩,trivial⟩ ⟨zaa,trivial⟩ ?_
   simp only[lenP,if_neg h192,if_neg hr]at h
   rw[if_pos he]at h
   obtain⟨rfl,rfl,rfl⟩:=h
   exact zah (.inl rfl) [(0,0)] [(2, .r (I 0)),(3, .r (.b false))] [] rfl ⟨cr,cr,⟨rfl,rfl⟩,trivial⟩ ⟨⟨_,_,rfl,trivial,_,_,rfl,cr,rfl⟩,trivial⟩ ⟨⟨1000000,rfl⟩,trivial⟩ ⟨_,rfl,cr⟩
  refine zw (by simp only[zb];omega) (zt ?_)
  simp only[lenP,if_neg h192,if_neg hr]at h
  rw[if_neg he]at h
  obtain⟨rfl,rfl,rfl⟩:=h
  exact zah (.inl rfl) [(0,0)] [(2, .r (I _)),(3, .r (.b true))] [] rfl ⟨cr,cr,⟨rfl,rfl⟩,trivial⟩ ⟨⟨_,_,rfl,cr,_,_,rfl,cr,rfl⟩,trivial⟩ ⟨⟨1000000,rfl⟩,trivial⟩ ⟨_,rfl,cr⟩
theorem zyg(v:Value):Acts Tryz.prog 243 1 (rdL []) [.own 0] [(0,v)] 1 (rdX 4) (.r (.tu [I 0, .b false])):=by
 refine zam (T:=Tab) mixed Tab_ok Tryz.func243 rfl (by kernel_rfl) rfl (zb2 _ _ _ _ _) ?_
 refine Vcode.scope mixed Tab_ok 0 (z1d v 0 []) (λ_=>False) (λi=>i.1) rfl ?_ λ_ h=>h.elim
 refine zj [(0,0)] [0] (λvs _=>zf5 (vs 0) [] 1 (by simp)) (zi rfl ⟨_,_,rfl,rfl,_,_,rfl,cr,rfl⟩) rfl ⟨⟨_,_,rfl,cr,_,_,rfl,cr,rfl⟩,trivial⟩ ⟨zaa,trivial⟩ ?_
 refine zu rfl (zq ?_)
 exact zah (.inl rfl) [(0,0)] [(2, .r (I 0)),(3, .r (.b false))] [] rfl ⟨cr,cr,⟨rfl,rfl⟩,trivial⟩ ⟨⟨_,_,rfl,trivial,_,_,rfl,cr,rfl⟩,trivial⟩ ⟨⟨1000000,rfl⟩,trivial⟩ ⟨_,rfl,cr⟩
theorem zuo(v:Value)(e:Nat)(he:e≠0):Acts Tryz.prog 243 1 (rdX e) [.own 0] [(0,v)] 1 (rdX e) (.r (.tu [I 0, .b false])):=by
 refine zam (T:=Tab) mixed Tab_ok Tryz.func243 rfl (by kernel_rfl) rfl (zb2 _ _ _ _ _) ?_
 refine Vcode.scope mixed Tab_ok 0 (z1d v 0 []) (λ_=>False) (λi=>i.1) rfl ?_ λ_ h=>h.elim
 refine zj [(0,0)] [0] (λvs _=>zo4 (vs 0) e he 1) (zi rfl ⟨_,_,rfl,rfl,_,_,rfl,cr,rfl⟩) rfl ⟨⟨_,_,rfl,trivial,_,_,rfl,cr,rfl⟩,trivial⟩ ⟨zaa,trivial⟩ ?_
 refine zu rfl (zq ?_)
 exact zah (.inl rfl) [(0,0)] [(2, .r (I 0)),(3, .r (.b false))] [] rfl ⟨cr,cr,⟨rfl,rfl⟩,trivial⟩ ⟨⟨_,_,rfl,trivial,_,_,rfl,cr,rfl⟩,trivial⟩ ⟨⟨1000000,rfl⟩,trivial⟩ ⟨_,rfl,cr⟩
theorem zws(v:Value)(l r:List UInt8)(n:Nat)(hl:l.length<=8000000000000)(h:lenP l= .ok n r):Acts Tryz.prog 243 1 (rdL l) [.own 0] [(0,v)] 1 (rdL r) (.r (.tu [I n, .b true])):=by
 cases l with
 |nil=>cases h
 |cons c l=>exact zpd v c l (by simp at hl;omega) _ _ _ (by rw[h];exact⟨rfl,rfl,rfl⟩)
theorem zyc(v:Value)(l:List UInt8)(e:Nat)(hl:l.length<=8000000000000)(h:lenP l= .err e):Acts Tryz.prog 243 1 (rdL l) [.own 0] [(0,v)] 1 (rdX e) (.r (.tu [I 0, .b false])):=by
 cases l with
 |nil=>injection h with h;subst h;exact zyg v
 |cons c l=>exact zpd v c l (by simp at hl;omega) _ 0 _ (by rw[h];exact⟨rfl,rfl,rfl⟩)
theorem ze0(v:Value)(l r x:List UInt8)(hl:l.length<=8000000000000)(h:vecP l= .ok x r):Acts Tryz.prog 233 1 (rdL l) [.own 0] [(0,v)] 1 (rdL r) (.r (bs x)):=by
 refine zam (T:=Tab) mixed Tab_ok Tryz.func233 rfl (by kernel_rfl) rfl (zb2 _ _ _ _ _) ?_
 unfold vecP at h
 cases hn:lenP l with
 |err e=>rw[hn]at h;cases h
 |ok n s=>
  rw[hn]at h
  simp only at h
  split at h
  ·cases h
  ·rename_i hns
   injection h with h1 h2
   subst h1;subst h2
   obtain⟨j,rfl,_,hj,_⟩:=ztc hn
   refine zj [(0,0)] [0] (λvs _=>zws (vs 0) l _ n hl hn) (zi rfl ⟨_,_,rfl,rfl,rfl⟩) rfl ⟨⟨_,_,rfl,cr,_,_,rfl,cr,rfl⟩,trivial⟩ ⟨zaa,trivial⟩ ?_
   refine zw rfl (zt ?_)
   refine zj [(0,0)] [0] (λvs _=>zs6 (vs 0) (l.drop j) n (by rw[List.length_drop];omega) (by omega)) (zi rfl ⟨_,_,rfl,rfl,_,_,rfl,cr,rfl⟩) rfl ⟨⟨_,_,rfl,cr,_,_,rfl,cr,rfl⟩,trivial⟩ ⟨zaa,trivial⟩ ?_
   exact zah (.inl rfl) [(0,0)] [(2, .r (bs ((l.drop j).take n)))] [] rfl ⟨cr,⟨rfl,rfl⟩,trivial⟩ ⟨⟨_,_,rfl,cr,_,_,rfl,cr,rfl⟩,trivial⟩ ⟨⟨1000000,rfl⟩,trivial⟩ (cr)
theorem zes(v:Value)(l:List UInt8)(e:Nat)(hl:l.length<=8000000000000)(h:vecP l= .err e):Acts Tryz.prog 233 1 (rdL l) [.own 0] [(0,v)] 1 (rdX e) (.r (bs [])):=by
 refine zam (T:=Tab) mixed Tab_ok Tryz.func233 rfl (by kernel_rfl) rfl (zb2 _ _ _ _ _) ?_
 unfold vecP at h
 cases hn:lenP l with
 |err e'=>
  rw[hn]at h
  injection h with h
  subst h
  refine zj [(0,0)] [0] (λvs _=>zyc (vs 0) l _ hl hn) (zi rfl ⟨_,_,rfl,rfl,rfl⟩) rfl ⟨⟨_,_,rfl,cr,_,_,rfl,cr,rfl⟩,trivial⟩ ⟨zaa,trivial⟩ ?_
  refine zu rfl (zq ?_)
  exact zah (.inl rfl) [(0,0)] [(2, .r (bs []))] [] rfl ⟨zuw,⟨rfl,rfl⟩,trivial⟩ ⟨⟨_,_,rfl,trivial,_,_,rfl,cr,rfl⟩,trivial⟩ ⟨⟨1000000,rfl⟩,trivial⟩ (cr)
 |ok n s=>
  rw[hn]at h
  simp only at h
  split at h
  ·rename_i hns
   injection h with h
   subst h
   refine zj [(0,0)] [0] (λvs _=>zws (vs 0) l _ n hl hn) (zi rfl ⟨_,_,rfl,rfl,rfl⟩) rfl ⟨⟨_,_,rfl,cr,_,_,rfl,cr,rfl⟩,trivial⟩ ⟨zaa,trivial⟩ ?_
   refine zw rfl (zt ?_)
   refine zj [(0,0)] [0] (λvs _=>zlc (vs 0) s n hns) (zi rfl ⟨_,_,rfl,rfl,_,_,rfl,cr,rfl⟩) rfl ⟨⟨_,_,rfl,cr,_,_,rfl,cr,rfl⟩,trivial⟩ ⟨zaa,trivial⟩ ?_
   exact zah (.inl rfl) [(0,0)] [(2, .r (bs []))] [] rfl ⟨cr,⟨rfl,rfl⟩,trivial⟩ ⟨⟨_,_,rfl,trivial,_,_,rfl,cr,rfl⟩,trivial⟩ ⟨⟨1000000,rfl⟩,trivial⟩ (cr)
  ·cases h
theorem zez(v:Value)(e:Nat)(he:e≠0):Acts Tryz.prog 233 1 (rdX e) [.own 0] [(0,v)] 1 (rdX e) (.r (bs [])):=by
 refine zam (T:=Tab) mixed Tab_ok Tryz.func233 rfl (by kernel_rfl) rfl (zb2 _ _ _ _ _) ?_
 refine zj [(0,0)] [0] (λvs _=>zuo (vs 0) e he) (zi rfl ⟨_,_,rfl,rfl,rfl⟩) rfl ⟨⟨_,_,rfl,trivial,_,_,rfl,cr,rfl⟩,trivial⟩ ⟨zaa,trivial⟩ ?_
 refine zu rfl (zq ?_)
 exact zah (.inl rfl) [(0,0)] [(2, .r (bs []))] [] rfl ⟨zuw,⟨rfl,rfl⟩,trivial⟩ ⟨⟨_,_,rfl,trivial,_,_,rfl,cr,rfl⟩,trivial⟩ ⟨⟨1000000,rfl⟩,trivial⟩ (cr)
end
section
theorem Vint.byte(c:UInt8){e:Int}{K:Int->Prop}(he:e=(c.toNat:Int))(hK:K (c.toNat:Int)):Vint .u8 e K:=by
 refine Vint.u8 c.toNat he ?_
 rw[show(UInt8.ofNat c.toNat)=c by simp]
 exact hK
theorem num1(c:UInt8):numA 0 [c]=c.toNat:=by simp[numA]
abbrev rdZ:List (Nat×Ow):=[(0, .box [.r .any, .r .any])]
theorem zlg(c:RV)(e:Nat)(v:Value):zkl [(0,rdO c e)] rdZ [(0,v)]:=⟨⟨_,_,rfl,rfl,zap,zap⟩,trivial⟩
abbrev zl6:List RV:=[.x (.slice none 0 0), .x (.slice none 0 0), .x (.slice none 0 0), .i .u8 0, .x (.slice none 0 0), .x (.slice none 0 0)]
set_option maxHeartbeats 1000000 in
theorem zvr(v:Value)(l:List UInt8)(hl:l.length<=8000000000)(e:Nat)(h:zbw 3 l= .err e):Acts Tryz.prog 215 1 (rdL l) [.own 0] [(0,v)] 2 rdZ (.r (.tu [.ag zl.c,Er e])):=by
 refine zam (T:=Tab) mixed Tab_ok Tryz.func215 rfl (by kernel_rfl) rfl (zlg _ _ _) ?_
 have he:=zhy 3 h
 simp only[zbw]at h
 cases h0:vecP l with
 |err e'=>
  rw[h0]at h
  injection h with h
  subst h
  refine zj [(0,0)] [0] (λvs _=>zes (vs 0) l _ (by omega) h0) (zi rfl ⟨_,_,rfl,rfl,rfl⟩) rfl ⟨⟨_,_,rfl,cr,_,_,rfl,cr,rfl⟩,trivial⟩ ⟨zaa,trivial⟩ ?_
  refine zj [(0,0)] [0] (λvs _=>zez (vs 0) _ (by omega)) (zi rfl ⟨_,_,rfl,rfl,rfl⟩) rfl ⟨⟨_,_,rfl,trivial,_,_,rfl,cr,rfl⟩,trivial⟩ ⟨zaa,trivial⟩ ?_
  refine zj [(0,0)] [0] (λvs _=>zez (vs 0) _ (by omega)) (zi rfl ⟨_,_,rfl,rfl,rfl⟩) rfl ⟨⟨_,_,rfl,trivial,_,_,rfl,cr,rfl⟩,trivial⟩ ⟨zaa,trivial⟩ ?_
  refine zj [(0,0)] [0] (λvs _=>zlo (vs 0) _ (by omega) 1 (by omega)) (zi rfl ⟨_,_,rfl,rfl,_,_,rfl,cr,rfl⟩) rfl ⟨⟨_,_,rfl,trivial,_,_,rfl,cr,rfl⟩,trivial⟩ ⟨zaa,trivial⟩ ?_
  refine Vint.byte 0 rfl ?_
  refine zj [(0,0)] [0] (λvs _=>zcy (vs 0) _) (zi rfl ⟨_,_,rfl,rfl,rfl⟩) rfl ⟨⟨_,_,rfl,trivial,_,_,rfl,cr,rfl⟩,trivial⟩ ⟨zaa,trivial⟩ ?_
  refine zu (by simp only[zb];omega) (zq ?_)
  exact zah (.inl rfl) [(0,0),(1,1)] [(2, .own 1),(3, .r (Er _))] [(1,some (.box (zl6.map .r)))] rfl ⟨rfl,cr,⟨rfl,rfl⟩,trivial⟩ ⟨⟨_,_,rfl,trivial,_,_,rfl,trivial,rfl⟩,⟨_,_,rfl,cr,_,_,rfl,cr,_,_,rfl,cr,_,_,rfl,cr,_,_,rfl,cr,_,_,rfl,cr,rfl⟩,trivial⟩ ⟨⟨1000000,rfl⟩,trivial⟩ (za rfl rfl ⟨_,rfl,Cv.tu (zk zig (zn _))⟩)
 |ok x0 r0=>
  rw[h0]at h
  simp only at h
  obtain⟨j0,e0,_,hj0,_⟩:=zct h0
  have hl0:r0.length<=l.length:=by rw[e0,List.length_drop];omega
  cases h1:vecP r0 with
  |err e'=>
   rw[h1]at h
   injection h with h
   subst h
   refine zj [(0,0)] [0] (λvs _=>ze0 (vs 0) l r0 x0 (by omega) h0) (zi rfl ⟨_,_,rfl,rfl,rfl⟩) rfl ⟨⟨_,_,rfl,cr,_,_,rfl,cr,rfl⟩,trivial⟩ ⟨zaa,trivial⟩ ?_
   refine zj [(0,0)] [0] (λvs _=>zes (vs 0) r0 _ (by omega) h1) (zi rfl ⟨_,_,rfl,rfl,rfl⟩) rfl ⟨⟨_,_,rfl,cr,_,_,rfl,cr,rfl⟩,trivial⟩ ⟨zaa,trivial⟩ ?_
   refine zj [(0,0)] [0] (λvs _=>zez (vs 0) _ (by omega)) (zi rfl ⟨_,_,rfl,rfl,rfl⟩) rfl ⟨⟨_,_,rfl,trivial,_,_,rfl,cr,rfl⟩,trivial⟩ ⟨zaa,trivial⟩ ?_
   refine zj [(0,0)] [0] (λvs _=>zlo (vs 0) _ (by omega) 1 (by omega)) (zi rfl ⟨_,_,rfl,rfl,_,_,rfl,cr,rfl⟩) rfl ⟨⟨_,_,rfl,trivial,_,_,rfl,cr,rfl⟩,trivial⟩ ⟨zaa,trivial⟩ ?_
   refine Vint.byte 0 rfl ?_
   refine zj [(0,0)] [0] (λvs _=>zcy (vs 0) _) (zi rfl ⟨_,_,rfl,rfl,rfl⟩) rfl ⟨⟨_,_,rfl,trivial,_,_,rfl,cr,rfl⟩,trivial⟩ ⟨zaa,trivial⟩ ?_
   refine zu (by simp only[zb];omega) (zq ?_)
   exact zah (.inl rfl) [(0,0),(1,1)] [(2, .own 1),(3, .r (Er _))] [(1,some (.box (zl6.map .r)))] rfl ⟨rfl,cr,⟨rfl,rfl⟩,trivial⟩ ⟨⟨_,_,rfl,trivial,_,_,rfl,trivial,rfl⟩,⟨_,_,rfl,cr,_,_,rfl,cr,_,_,rfl,cr,_,_,rfl,cr,_,_,rfl,cr,_,_,rfl,cr,rfl⟩,trivial⟩ ⟨⟨1000000,rfl⟩,trivial⟩ (za rfl rfl ⟨_,rfl,Cv.tu (zk zig (zn _))⟩)
  |ok x1 r1=>
   rw[h1]at h
   simp only at h
   obtain⟨j1,e1,_,hj1,_⟩:=zct h1
   have hl1:r1.length<=r0.length:=by rw[e1,List.length_drop];omega
   cases h2:vecP r1 with
   |err e'=>
    rw[h2]at h
    injection h with h
    subst h
    refine zj [(0,0)] [0] (λvs _=>ze0 (vs 0) l r0 x0 (by omega) h0) (zi rfl ⟨_,_,rfl,rfl,rfl⟩) rfl ⟨⟨_,_,rfl,cr,_,_,rfl,cr,rfl⟩,trivial⟩ ⟨zaa,trivial⟩ ?_
    refine zj [(0,0)] [0] (λvs _=>ze0 (vs 0) r0 r1 x1 (by omega) h1) (zi rfl ⟨_,_,rfl,rfl,rfl⟩) rfl ⟨⟨_,_,rfl,cr,_,_,rfl,cr,rfl⟩,trivial⟩ ⟨zaa,trivial⟩ ?_
    refine zj [(0,0)] [0] (λvs _=>zes (vs 0) r1 _ (by omega) h2) (zi rfl ⟨_,_,rfl,rfl,rfl⟩) rfl ⟨⟨_,_,rfl,cr,_,_,rfl,cr,rfl⟩,trivial⟩ ⟨zaa,trivial⟩ ?_
    refine zj [(0,0)] [0] (λvs _=>zlo (vs 0) _ (by omega) 1 (by omega)) (zi rfl ⟨_,_,rfl,rfl,_,_,rfl,cr,rfl⟩) rfl ⟨⟨_,_,rfl,trivial,_,_,rfl,cr,rfl⟩,trivial⟩ ⟨zaa,trivial⟩ ?_
    refine Vint.byte 0 rfl ?_
    refine zj [(0,0)] [0] (λvs _=>zcy (vs 0) _) (zi rfl ⟨_,_,rfl,rfl,rfl⟩) rfl ⟨⟨_,_,rfl,trivial,_,_,rfl,cr,rfl⟩,trivial⟩ ⟨zaa,trivial⟩ ?_
    refine zu (by simp only[zb];omega) (zq ?_)
    exact zah (.inl rfl) [(0,0),(1,1)] [(2, .own 1),(3, .r (Er _))] [(1,some (.box (zl6.map .r)))] rfl ⟨rfl,cr,⟨rfl,rfl⟩,trivial⟩ ⟨⟨_,_,rfl,trivial,_,_,rfl,trivial,rfl⟩,⟨_,_,rfl,cr,_,_,rfl,cr,_,_,rfl,cr,_,_,rfl,cr,_,_,rfl,cr,_,_,rfl,cr,rfl⟩,trivial⟩ ⟨⟨1000000,rfl⟩,trivial⟩ (za rfl rfl ⟨_,rfl,Cv.tu (zk zig (zn _))⟩)
   |ok x2 r2=>
    rw[h2]at h
    simp only at h
    obtain⟨j2,e2,_,hj2,_⟩:=zct h2
    have hl2:r2.length<=r1.length:=by rw[e2,List.length_drop];omega
    cases h
set_option maxHeartbeats 2000000 in
theorem zme(v:Value)(l:List UInt8)(hl:l.length<=8000000000)(x0 x1 x2 r0 r1 r2:List UInt8)(h0:vecP l= .ok x0 r0)(h1:vecP r0= .ok x1 r1)(h2:vecP r1= .ok x2 r2)(O1:List (Nat×Ow))(x:Leaf)(e:Nat)
  (h:match zhc [x0,x1,x2] r2 with
   | .err e'=>O1=rdZ/\x=zl/\e=e'
   | .ok y r=>O1=rdL r/\x=y/\e=0):Acts Tryz.prog 215 1 (rdL l) [.own 0] [(0,v)] 2 O1 (.r (.tu [.ag x.c,Er e])):=by
 refine zam (T:=Tab) mixed Tab_ok Tryz.func215 rfl (by kernel_rfl) rfl ?_ ?_
 ·cases hP:zhc [x0,x1,x2] r2 with
  |err e'=>rw[hP]at h;obtain⟨rfl,_,_⟩:=h;exact zlg _ _ _
  |ok m r=>rw[hP]at h;obtain⟨rfl,_,_⟩:=h;exact zb2 _ _ _ _ _
 obtain⟨j0,e0,_,hj0,_⟩:=zct h0
 have hl0:r0.length<=l.length:=by rw[e0,List.length_drop];omega
 obtain⟨j1,e1,_,hj1,_⟩:=zct h1
 have hl1:r1.length<=r0.length:=by rw[e1,List.length_drop];omega
 obtain⟨j2,e2,_,hj2,_⟩:=zct h2
 have hl2:r2.length<=r1.length:=by rw[e2,List.length_drop];omega
 refine zj [(0,0)] [0] (λvs _=>ze0 (vs 0) l r0 x0 (by omega) h0) (zi rfl ⟨_,_,rfl,rfl,rfl⟩) rfl ⟨⟨_,_,rfl,cr,_,_,rfl,cr,rfl⟩,trivial⟩ ⟨zaa,trivial⟩ ?_
 refine zj [(0,0)] [0] (λvs _=>ze0 (vs 0) r0 r1 x1 (by omega) h1) (zi rfl ⟨_,_,rfl,rfl,rfl⟩) rfl ⟨⟨_,_,rfl,cr,_,_,rfl,cr,rfl⟩,trivial⟩ ⟨zaa,trivial⟩ ?_
 refine zj [(0,0)] [0] (λvs _=>ze0 (vs 0) r1 r2 x2 (by omega) h2) (zi rfl ⟨_,_,rfl,rfl,rfl⟩) rfl ⟨⟨_,_,rfl,cr,_,_,rfl,cr,rfl⟩,trivial⟩ ⟨zaa,trivial⟩ ?_
 cases r2 with
 |nil=>
  obtain⟨rfl,rfl,rfl⟩:=h
  refine zj [(0,0)] [0] (λvs _=>zik (vs 0) [] 1 (by omega) (by simp)) (zi rfl ⟨_,_,rfl,rfl,_,_,rfl,cr,rfl⟩) rfl ⟨⟨_,_,rfl,cr,_,_,rfl,cr,rfl⟩,trivial⟩ ⟨zaa,trivial⟩ ?_
  refine Vint.byte 0 rfl ?_
  refine zj [(0,0)] [0] (λvs _=>zcy (vs 0) _) (zi rfl ⟨_,_,rfl,rfl,rfl⟩) rfl ⟨⟨_,_,rfl,trivial,_,_,rfl,cr,rfl⟩,trivial⟩ ⟨zaa,trivial⟩ ?_
  refine zu rfl (zq ?_)
  exact zah (.inl rfl) [(0,0),(1,1)] [(2, .own 1),(3, .r (Er _))] [(1,some (.box (zl6.map .r)))] rfl ⟨rfl,cr,⟨rfl,rfl⟩,trivial⟩ ⟨⟨_,_,rfl,trivial,_,_,rfl,trivial,rfl⟩,⟨_,_,rfl,cr,_,_,rfl,cr,_,_,rfl,cr,_,_,rfl,cr,_,_,rfl,cr,_,_,rfl,cr,rfl⟩,trivial⟩ ⟨⟨1000000,rfl⟩,trivial⟩ (za rfl rfl ⟨_,rfl,Cv.tu (zk zig (zn _))⟩)
 |cons c r=>
  have hcl:=c.toNat_lt
  refine zj [(0,0)] [0] (λvs _=>zno (vs 0) (c::r) 1 (by omega) (by simp)) (zi rfl ⟨_,_,rfl,rfl,_,_,rfl,cr,rfl⟩) rfl ⟨⟨_,_,rfl,cr,_,_,rfl,cr,rfl⟩,trivial⟩ ⟨zaa,trivial⟩ ?_
  rw[show List.take 1 (c::r)=[c]from rfl,num1]
  refine Vint.byte c rfl ?_
  refine zj [(0,0)] [0] (λvs _=>zfn (vs 0) r) (zi rfl ⟨_,_,rfl,rfl,rfl⟩) rfl ⟨⟨_,_,rfl,cr,_,_,rfl,cr,rfl⟩,trivial⟩ ⟨zaa,trivial⟩ ?_
  refine zw rfl (zt ?_)
  simp only[zhc]at h
  by_cases hc:c.toNat=0\/3<c.toNat
  ·rw[if_pos hc]at h
   obtain⟨rfl,rfl,rfl⟩:=h
   by_cases hc0:c.toNat=0
   ·refine zu (by simp only[zb];omega) (zq ?_)
    exact zah (.inl rfl) [(0,0),(1,1)] [(2, .own 1),(3, .r (Er _))] [(1,some (.box (zl6.map .r)))] rfl ⟨rfl,cr,⟨rfl,rfl⟩,trivial⟩ ⟨⟨_,_,rfl,trivial,_,_,rfl,trivial,rfl⟩,⟨_,_,rfl,cr,_,_,rfl,cr,_,_,rfl,cr,_,_,rfl,cr,_,_,rfl,cr,_,_,rfl,cr,rfl⟩,trivial⟩ ⟨⟨1000000,rfl⟩,trivial⟩ (za rfl rfl ⟨_,rfl,Cv.tu (zk zig (zn _))⟩)
   ·refine zw (by simp only[zb];omega) ?_
    refine zu (by simp only[zb];omega) (zq ?_)
    exact zah (.inl rfl) [(0,0),(1,1)] [(2, .own 1),(3, .r (Er _))] [(1,some (.box (zl6.map .r)))] rfl ⟨rfl,cr,⟨rfl,rfl⟩,trivial⟩ ⟨⟨_,_,rfl,trivial,_,_,rfl,trivial,rfl⟩,⟨_,_,rfl,cr,_,_,rfl,cr,_,_,rfl,cr,_,_,rfl,cr,_,_,rfl,cr,_,_,rfl,cr,rfl⟩,trivial⟩ ⟨⟨1000000,rfl⟩,trivial⟩ (za rfl rfl ⟨_,rfl,Cv.tu (zk zig (zn _))⟩)
  rw[if_neg hc]at h
  refine zw (by simp only[zb];omega) ?_
  refine zw (by simp only[zb];omega) (zt ?_)
  by_cases hc3:c.toNat=3
  ·rw[show zd7 c r=vecP r by unfold zd7;rw[if_pos hc3]]at h
   refine zu (by simp only[zb];omega) (zq ?_)
   have hlr:r.length<=8000000000:=by simp only[List.length_cons]at hl2;omega
   cases hp:vecP r with
   |err e'=>
    rw[hp]at h
    obtain⟨rfl,rfl,rfl⟩:=h
    have he:=zjk hp
    refine zj [(0,0)] [0] (λvs _=>zes (vs 0) r _ (by omega) hp) (zi rfl ⟨_,_,rfl,rfl,rfl⟩) rfl ⟨⟨_,_,rfl,cr,_,_,rfl,cr,rfl⟩,trivial⟩ ⟨zaa,trivial⟩ ?_
    refine zj [(0,0)] [0] (λvs _=>zez (vs 0) _ (by omega)) (zi rfl ⟨_,_,rfl,rfl,rfl⟩) rfl ⟨⟨_,_,rfl,trivial,_,_,rfl,cr,rfl⟩,trivial⟩ ⟨zaa,trivial⟩ ?_
    refine zj [(0,0)] [0] (λvs _=>zcy (vs 0) _) (zi rfl ⟨_,_,rfl,rfl,rfl⟩) rfl ⟨⟨_,_,rfl,trivial,_,_,rfl,cr,rfl⟩,trivial⟩ ⟨zaa,trivial⟩ ?_
    refine zu (by simp only[zb];omega) (zq ?_)
    exact zah (.inl rfl) [(0,0),(1,1)] [(2, .own 1),(3, .r (Er _))] [(1,some (.box (zl6.map .r)))] rfl ⟨rfl,cr,⟨rfl,rfl⟩,trivial⟩ ⟨⟨_,_,rfl,trivial,_,_,rfl,trivial,rfl⟩,⟨_,_,rfl,cr,_,_,rfl,cr,_,_,rfl,cr,_,_,rfl,cr,_,_,rfl,cr,_,_,rfl,cr,rfl⟩,trivial⟩ ⟨⟨1000000,rfl⟩,trivial⟩ (za rfl rfl ⟨_,rfl,Cv.tu (zk zig (zn _))⟩)
   |ok pa r'=>
    rw[hp]at h
    simp only at h
    obtain⟨jp,ep,_,hjp,_⟩:=zct hp
    have hlp:r'.length<=r.length:=by rw[ep,List.length_drop];omega
    refine zj [(0,0)] [0] (λvs _=>ze0 (vs 0) r r' pa (by omega) hp) (zi rfl ⟨_,_,rfl,rfl,rfl⟩) rfl ⟨⟨_,_,rfl,cr,_,_,rfl,cr,rfl⟩,trivial⟩ ⟨zaa,trivial⟩ ?_
    cases hs:vecP r' with
    |err e'=>
     simp only[zhf,hs]at h
     obtain⟨rfl,rfl,rfl⟩:=h
     have he:=zjk hs
     refine zj [(0,0)] [0] (λvs _=>zes (vs 0) r' _ (by omega) hs) (zi rfl ⟨_,_,rfl,rfl,rfl⟩) rfl ⟨⟨_,_,rfl,cr,_,_,rfl,cr,rfl⟩,trivial⟩ ⟨zaa,trivial⟩ ?_
     refine zj [(0,0)] [0] (λvs _=>zcy (vs 0) _) (zi rfl ⟨_,_,rfl,rfl,rfl⟩) rfl ⟨⟨_,_,rfl,trivial,_,_,rfl,cr,rfl⟩,trivial⟩ ⟨zaa,trivial⟩ ?_
     refine zu (by simp only[zb];omega) (zq ?_)
     exact zah (.inl rfl) [(0,0),(1,1)] [(2, .own 1),(3, .r (Er _))] [(1,some (.box (zl6.map .r)))] rfl ⟨rfl,cr,⟨rfl,rfl⟩,trivial⟩ ⟨⟨_,_,rfl,trivial,_,_,rfl,trivial,rfl⟩,⟨_,_,rfl,cr,_,_,rfl,cr,_,_,rfl,cr,_,_,rfl,cr,_,_,rfl,cr,_,_,rfl,cr,rfl⟩,trivial⟩ ⟨⟨1000000,rfl⟩,trivial⟩ (za rfl rfl ⟨_,rfl,Cv.tu (zk zig (zn _))⟩)
    |ok sg q=>
     simp only[zhf,hs]at h
     refine zj [(0,0)] [0] (λvs _=>ze0 (vs 0) r' q sg (by omega) hs) (zi rfl ⟨_,_,rfl,rfl,rfl⟩) rfl ⟨⟨_,_,rfl,cr,_,_,rfl,cr,rfl⟩,trivial⟩ ⟨zaa,trivial⟩ ?_
     refine zj [(0,0)] [0] (λvs _=>zfn (vs 0) q) (zi rfl ⟨_,_,rfl,rfl,rfl⟩) rfl ⟨⟨_,_,rfl,cr,_,_,rfl,cr,rfl⟩,trivial⟩ ⟨zaa,trivial⟩ ?_
     refine zw rfl (zt ?_)
     refine za rfl rfl ?_
     have hcv:Cv (.ag [bs x0,bs x1,bs x2,U8 c,bs pa,bs sg]) (.ag (zil [x0,x1,x2] c pa sg).c):=Cv.ag (zk (cr) (zk (cr) (zk (cr) (zk (cr) (zk (cr) (zk (cr) Cvs.nil))))))
     refine Vcall.mk' (zwl (zil [x0,x1,x2] c pa sg)) (zk hcv Cvs.nil) ?_
     by_cases hR:(zil [x0,x1,x2] c pa sg).right=true
     ·rw[if_pos hR]at h
      obtain⟨rfl,rfl,rfl⟩:=h
      refine zw (by simp only[zb];exact hR) (zt ?_)
      refine za rfl rfl ?_
      exact zah (.inl rfl) [(0,0),(1,1)] [(2, .own 1),(3, .r (Er 0))] [(1,some (.box (([bs x0,bs x1,bs x2,U8 c,bs pa,bs sg]:List RV).map .r)))] rfl ⟨rfl,cr,⟨rfl,rfl⟩,trivial⟩ ⟨⟨_,_,rfl,cr,_,_,rfl,cr,rfl⟩,⟨_,_,rfl,cr,_,_,rfl,cr,_,_,rfl,cr,_,_,rfl,cr,_,_,rfl,cr,_,_,rfl,cr,rfl⟩,trivial⟩ ⟨⟨1000000,rfl⟩,trivial⟩ (za rfl rfl ⟨_,rfl,Cv.tu (zk hcv (zn _))⟩)
     ·rw[if_neg hR]at h
      obtain⟨rfl,rfl,rfl⟩:=h
      refine zu (by simp only[zb];exact Bool.eq_false_iff.2 hR) (zq ?_)
      exact zah (.inl rfl) [(0,0),(1,1)] [(2, .own 1),(3, .r (Er _))] [(1,some (.box (zl6.map .r)))] rfl ⟨rfl,cr,⟨rfl,rfl⟩,trivial⟩ ⟨⟨_,_,rfl,trivial,_,_,rfl,trivial,rfl⟩,⟨_,_,rfl,cr,_,_,rfl,cr,_,_,rfl,cr,_,_,rfl,cr,_,_,rfl,cr,_,_,rfl,cr,rfl⟩,trivial⟩ ⟨⟨1000000,rfl⟩,trivial⟩ (za rfl rfl ⟨_,rfl,Cv.tu (zk zig (zn _))⟩)
  rw[show zd7 c r= .ok [] r by unfold zd7;rw[if_neg hc3]]at h
  simp only at h
  refine zw (by simp only[zb];omega) (zt ?_)
  have hlr:r.length<=8000000000:=by simp only[List.length_cons]at hl2;omega
  cases hs:vecP r with
  |err e'=>
   simp only[zhf,hs]at h
   obtain⟨rfl,rfl,rfl⟩:=h
   have he:=zjk hs
   refine zj [(0,0)] [0] (λvs _=>zes (vs 0) r _ (by omega) hs) (zi rfl ⟨_,_,rfl,rfl,rfl⟩) rfl ⟨⟨_,_,rfl,cr,_,_,rfl,cr,rfl⟩,trivial⟩ ⟨zaa,trivial⟩ ?_
   refine zj [(0,0)] [0] (λvs _=>zcy (vs 0) _) (zi rfl ⟨_,_,rfl,rfl,rfl⟩) rfl ⟨⟨_,_,rfl,trivial,_,_,rfl,cr,rfl⟩,trivial⟩ ⟨zaa,trivial⟩ ?_
   refine zu (by simp only[zb];omega) (zq ?_)
   exact zah (.inl rfl) [(0,0),(1,1)] [(2, .own 1),(3, .r (Er _))] [(1,some (.box (zl6.map .r)))] rfl ⟨rfl,cr,⟨rfl,rfl⟩,trivial⟩ ⟨⟨_,_,rfl,trivial,_,_,rfl,trivial,rfl⟩,⟨_,_,rfl,cr,_,_,rfl,cr,_,_,rfl,cr,_,_,rfl,cr,_,_,rfl,cr,_,_,rfl,cr,rfl⟩,trivial⟩ ⟨⟨1000000,rfl⟩,trivial⟩ (za rfl rfl ⟨_,rfl,Cv.tu (zk zig (zn _))⟩)
  |ok sg q=>
   simp only[zhf,hs]at h
   refine zj [(0,0)] [0] (λvs _=>ze0 (vs 0) r q sg (by omega) hs) (zi rfl ⟨_,_,rfl,rfl,rfl⟩) rfl ⟨⟨_,_,rfl,cr,_,_,rfl,cr,rfl⟩,trivial⟩ ⟨zaa,trivial⟩ ?_
   refine zj [(0,0)] [0] (λvs _=>zfn (vs 0) q) (zi rfl ⟨_,_,rfl,rfl,rfl⟩) rfl ⟨⟨_,_,rfl,cr,_,_,rfl,cr,rfl⟩,trivial⟩ ⟨zaa,trivial⟩ ?_
   refine zw rfl (zt ?_)
   refine za rfl rfl ?_
   have hcv:Cv (.ag [bs x0,bs x1,bs x2,U8 c, .x (.slice none 0 0),bs sg]) (.ag (zil [x0,x1,x2] c [] sg).c):=Cv.ag (zk (cr) (zk (cr) (zk (cr) (zk (cr) (zk (Cv.nil 1) (zk (cr) Cvs.nil))))))
   refine Vcall.mk' (zwl (zil [x0,x1,x2] c [] sg)) (zk hcv Cvs.nil) ?_
   by_cases hR:(zil [x0,x1,x2] c [] sg).right=true
   ·rw[if_pos hR]at h
    obtain⟨rfl,rfl,rfl⟩:=h
    refine zw (by simp only[zb];exact hR) (zt ?_)
    refine za rfl rfl ?_
    exact zah (.inl rfl) [(0,0),(1,1)] [(2, .own 1),(3, .r (Er 0))] [(1,some (.box (([bs x0,bs x1,bs x2,U8 c, .x (.slice none 0 0),bs sg]:List RV).map .r)))] rfl ⟨rfl,cr,⟨rfl,rfl⟩,trivial⟩ ⟨⟨_,_,rfl,cr,_,_,rfl,cr,rfl⟩,⟨_,_,rfl,cr,_,_,rfl,cr,_,_,rfl,cr,_,_,rfl,cr,_,_,rfl,cr,_,_,rfl,cr,rfl⟩,trivial⟩ ⟨⟨1000000,rfl⟩,trivial⟩ (za rfl rfl ⟨_,rfl,Cv.tu (zk hcv (zn _))⟩)
   ·rw[if_neg hR]at h
    obtain⟨rfl,rfl,rfl⟩:=h
    refine zu (by simp only[zb];exact Bool.eq_false_iff.2 hR) (zq ?_)
    exact zah (.inl rfl) [(0,0),(1,1)] [(2, .own 1),(3, .r (Er _))] [(1,some (.box (zl6.map .r)))] rfl ⟨rfl,cr,⟨rfl,rfl⟩,trivial⟩ ⟨⟨_,_,rfl,trivial,_,_,rfl,trivial,rfl⟩,⟨_,_,rfl,cr,_,_,rfl,cr,_,_,rfl,cr,_,_,rfl,cr,_,_,rfl,cr,_,_,rfl,cr,rfl⟩,trivial⟩ ⟨⟨1000000,rfl⟩,trivial⟩ (za rfl rfl ⟨_,rfl,Cv.tu (zk zig (zn _))⟩)
theorem zwc(v:Value)(l:List UInt8)(e:Nat)(hl:l.length<=8000000000)(h:zej l= .err e):Acts Tryz.prog 215 1 (rdL l) [.own 0] [(0,v)] 2 rdZ (.r (.tu [.ag zl.c,Er e])):=by
 unfold zej at h
 cases hv:zbw 3 l with
 |err e'=>rw[hv]at h;injection h with h;subst h;exact zvr v l hl e' hv
 |ok vs r=>
  rw[hv]at h
  simp only[zbw]at hv
  cases h0:vecP l with
  |err e'=>rw[h0]at hv;cases hv
  |ok x0 r0=>
   rw[h0]at hv
   simp only at hv
   cases h1:vecP r0 with
   |err e'=>rw[h1]at hv;cases hv
   |ok x1 r1=>
    rw[h1]at hv
    simp only at hv
    cases h2:vecP r1 with
    |err e'=>rw[h2]at hv;cases hv
    |ok x2 r2=>
     rw[h2]at hv
     simp only[PR.ok.injEq]at hv
     obtain⟨rfl,rfl⟩:=hv
     simp only at h
     exact zme v l hl x0 x1 x2 r0 r1 r2 h0 h1 h2 _ _ _ (by rw[h];exact⟨rfl,rfl,rfl⟩)
theorem z4r(v:Value)(l r:List UInt8)(x:Leaf)(hl:l.length<=8000000000)(h:zej l= .ok x r):Acts Tryz.prog 215 1 (rdL l) [.own 0] [(0,v)] 2 (rdL r) (.r (.tu [.ag x.c,Er 0])):=by
 unfold zej at h
 cases hv:zbw 3 l with
 |err e'=>rw[hv]at h;cases h
 |ok vs q=>
  rw[hv]at h
  simp only[zbw]at hv
  cases h0:vecP l with
  |err e'=>rw[h0]at hv;cases hv
  |ok x0 r0=>
   rw[h0]at hv
   simp only at hv
   cases h1:vecP r0 with
   |err e'=>rw[h1]at hv;cases hv
   |ok x1 r1=>
    rw[h1]at hv
    simp only at hv
    cases h2:vecP r1 with
    |err e'=>rw[h2]at hv;cases hv
    |ok x2 r2=>
     rw[h2]at hv
     simp only[PR.ok.injEq]at hv
     obtain⟨rfl,rfl⟩:=hv
     simp only at h
     exact zme v l hl x0 x1 x2 r0 r1 r2 h0 h1 h2 _ _ _ (by rw[h];exact⟨rfl,rfl,rfl⟩)
end
section
abbrev zp3:List RV:=[.x (.slice none 0 0), .x (.slice none 0 0), .x (.slice none 0 0)]
theorem zup:Cv (.ag zp3) (.ag zp.c):=Cv.ag (zk (Cv.nil 1) (zk (Cv.nil 1) (zk (Cv.nil 1) Cvs.nil)))
theorem z1h(v:List UInt8)(j:Nat): ∀x∈zdc v j,0<=x/\x<4294967296:=λx hx=>by
 obtain⟨i,_,rfl⟩:=List.mem_map.1 hx
 have h:=zia ((v.drop (4*i)).take 4) 0 1 (by omega)
 have h2:(256:Nat)^((v.drop (4*i)).take 4).length<=256^4:=Nat.pow_le_pow_right (by omega) (by rw[List.length_take];omega)
 have:(256:Nat)^4=4294967296:=by decide
 omega
set_option maxHeartbeats 1000000 in
theorem zvv(v:Value)(l:List UInt8)(hl:l.length<=8000000000)(e:Nat)(h:zbw 3 l= .err e):Acts Tryz.prog 216 1 (rdL l) [.own 0] [(0,v)] 2 rdZ (.r (.tu [.ag zp.c,Er e])):=by
 refine zam (T:=Tab) mixed Tab_ok Tryz.func216 rfl (by kernel_rfl) rfl (zlg _ _ _) ?_
 have he:=zhy 3 h
 simp only[zbw]at h
 cases h0:vecP l with
 |err e'=>
  rw[h0]at h
  injection h with h
  subst h
  refine zj [(0,0)] [0] (λvs _=>zes (vs 0) l _ (by omega) h0) (zi rfl ⟨_,_,rfl,rfl,rfl⟩) rfl ⟨⟨_,_,rfl,cr,_,_,rfl,cr,rfl⟩,trivial⟩ ⟨zaa,trivial⟩ ?_
  refine zj [(0,0)] [0] (λvs _=>zez (vs 0) _ (by omega)) (zi rfl ⟨_,_,rfl,rfl,rfl⟩) rfl ⟨⟨_,_,rfl,trivial,_,_,rfl,cr,rfl⟩,trivial⟩ ⟨zaa,trivial⟩ ?_
  refine zj [(0,0)] [0] (λvs _=>zez (vs 0) _ (by omega)) (zi rfl ⟨_,_,rfl,rfl,rfl⟩) rfl ⟨⟨_,_,rfl,trivial,_,_,rfl,cr,rfl⟩,trivial⟩ ⟨zaa,trivial⟩ ?_
  refine zj [(0,0)] [0] (λvs _=>zcy (vs 0) _) (zi rfl ⟨_,_,rfl,rfl,rfl⟩) rfl ⟨⟨_,_,rfl,trivial,_,_,rfl,cr,rfl⟩,trivial⟩ ⟨zaa,trivial⟩ ?_
  refine zu (by simp only[zb];omega) (zq ?_)
  exact zah (.inl rfl) [(0,0),(1,1)] [(2, .own 1),(3, .r (Er _))] [(1,some (.box (zp3.map .r)))] rfl ⟨rfl,cr,⟨rfl,rfl⟩,trivial⟩ ⟨⟨_,_,rfl,trivial,_,_,rfl,trivial,rfl⟩,⟨_,_,rfl,cr,_,_,rfl,cr,_,_,rfl,cr,rfl⟩,trivial⟩ ⟨⟨1000000,rfl⟩,trivial⟩ (za rfl rfl ⟨_,rfl,Cv.tu (zk zup (zn _))⟩)
 |ok x0 r0=>
  rw[h0]at h
  simp only at h
  obtain⟨j0,e0,_,hj0,_⟩:=zct h0
  have hl0:r0.length<=l.length:=by rw[e0,List.length_drop];omega
  cases h1:vecP r0 with
  |err e'=>
   rw[h1]at h
   injection h with h
   subst h
   refine zj [(0,0)] [0] (λvs _=>ze0 (vs 0) l r0 x0 (by omega) h0) (zi rfl ⟨_,_,rfl,rfl,rfl⟩) rfl ⟨⟨_,_,rfl,cr,_,_,rfl,cr,rfl⟩,trivial⟩ ⟨zaa,trivial⟩ ?_
   refine zj [(0,0)] [0] (λvs _=>zes (vs 0) r0 _ (by omega) h1) (zi rfl ⟨_,_,rfl,rfl,rfl⟩) rfl ⟨⟨_,_,rfl,cr,_,_,rfl,cr,rfl⟩,trivial⟩ ⟨zaa,trivial⟩ ?_
   refine zj [(0,0)] [0] (λvs _=>zez (vs 0) _ (by omega)) (zi rfl ⟨_,_,rfl,rfl,rfl⟩) rfl ⟨⟨_,_,rfl,trivial,_,_,rfl,cr,rfl⟩,trivial⟩ ⟨zaa,trivial⟩ ?_
   refine zj [(0,0)] [0] (λvs _=>zcy (vs 0) _) (zi rfl ⟨_,_,rfl,rfl,rfl⟩) rfl ⟨⟨_,_,rfl,trivial,_,_,rfl,cr,rfl⟩,trivial⟩ ⟨zaa,trivial⟩ ?_
   refine zu (by simp only[zb];omega) (zq ?_)
   exact zah (.inl rfl) [(0,0),(1,1)] [(2, .own 1),(3, .r (Er _))] [(1,some (.box (zp3.map .r)))] rfl ⟨rfl,cr,⟨rfl,rfl⟩,trivial⟩ ⟨⟨_,_,rfl,trivial,_,_,rfl,trivial,rfl⟩,⟨_,_,rfl,cr,_,_,rfl,cr,_,_,rfl,cr,rfl⟩,trivial⟩ ⟨⟨1000000,rfl⟩,trivial⟩ (za rfl rfl ⟨_,rfl,Cv.tu (zk zup (zn _))⟩)
  |ok x1 r1=>
   rw[h1]at h
   simp only at h
   obtain⟨j1,e1,_,hj1,_⟩:=zct h1
   have hl1:r1.length<=r0.length:=by rw[e1,List.length_drop];omega
   cases h2:vecP r1 with
   |err e'=>
    rw[h2]at h
    injection h with h
    subst h
    refine zj [(0,0)] [0] (λvs _=>ze0 (vs 0) l r0 x0 (by omega) h0) (zi rfl ⟨_,_,rfl,rfl,rfl⟩) rfl ⟨⟨_,_,rfl,cr,_,_,rfl,cr,rfl⟩,trivial⟩ ⟨zaa,trivial⟩ ?_
    refine zj [(0,0)] [0] (λvs _=>ze0 (vs 0) r0 r1 x1 (by omega) h1) (zi rfl ⟨_,_,rfl,rfl,rfl⟩) rfl ⟨⟨_,_,rfl,cr,_,_,rfl,cr,rfl⟩,trivial⟩ ⟨zaa,trivial⟩ ?_
    refine zj [(0,0)] [0] (λvs _=>zes (vs 0) r1 _ (by omega) h2) (zi rfl ⟨_,_,rfl,rfl,rfl⟩) rfl ⟨⟨_,_,rfl,cr,_,_,rfl,cr,rfl⟩,trivial⟩ ⟨zaa,trivial⟩ ?_
    refine zj [(0,0)] [0] (λvs _=>zcy (vs 0) _) (zi rfl ⟨_,_,rfl,rfl,rfl⟩) rfl ⟨⟨_,_,rfl,trivial,_,_,rfl,cr,rfl⟩,trivial⟩ ⟨zaa,trivial⟩ ?_
    refine zu (by simp only[zb];omega) (zq ?_)
    exact zah (.inl rfl) [(0,0),(1,1)] [(2, .own 1),(3, .r (Er _))] [(1,some (.box (zp3.map .r)))] rfl ⟨rfl,cr,⟨rfl,rfl⟩,trivial⟩ ⟨⟨_,_,rfl,trivial,_,_,rfl,trivial,rfl⟩,⟨_,_,rfl,cr,_,_,rfl,cr,_,_,rfl,cr,rfl⟩,trivial⟩ ⟨⟨1000000,rfl⟩,trivial⟩ (za rfl rfl ⟨_,rfl,Cv.tu (zk zup (zn _))⟩)
   |ok x2 r2=>
    rw[h2]at h
    simp only at h
    obtain⟨j2,e2,_,hj2,_⟩:=zct h2
    have hl2:r2.length<=r1.length:=by rw[e2,List.length_drop];omega
    cases h
def parF(v:Value):List (Nat×TF):=[(2, .own 1),(4, .own 2),(7, .own 3),(1000000, .nm 0 v)]
def parO(r x0 x1 x2:List UInt8)(j:Nat):List (Nat×Option Ow):=
 [(0,some (rdO (bs r) 0)),(1,some (.box (zp3.map .r))),(2,some (.box [.r (bs x0), .r (bs x1), .own 4])),(3,some (rdO (bs (x2.drop (4*j))) 0)),(4,some (.ch 3 1 j ((zdc x2 j).map I) true))]
set_option maxHeartbeats 4000000 in
theorem znl(v:Value)(l:List UInt8)(hl:l.length<=100000000)(x0 x1 x2 r0 r1 r2:List UInt8)(h0:vecP l= .ok x0 r0)(h1:vecP r0= .ok x1 r1)(h2:vecP r1= .ok x2 r2)(O1:List (Nat×Ow))(x:Par)(e:Nat)
  (h:if x2.length%4=0/\(zgc [x0,x1,x2]).right=true then O1=rdL r2/\x=zgc [x0,x1,x2]/\e=0 else O1=rdZ/\x=zp/\e=3):Acts Tryz.prog 216 1 (rdL l) [.own 0] [(0,v)] 2 O1 (.r (.tu [.ag x.c,Er e])):=by
 refine zam (T:=Tab) mixed Tab_ok Tryz.func216 rfl (by kernel_rfl) rfl ?_ ?_
 ·split at h
  ·obtain⟨rfl,_,_⟩:=h;exact zb2 _ _ _ _ _
  ·obtain⟨rfl,_,_⟩:=h;exact zlg _ _ _
 obtain⟨j0,e0,_,hj0,hv0⟩:=zct h0
 have hl0:r0.length<=l.length:=by rw[e0,List.length_drop];omega
 obtain⟨j1,e1,_,hj1,hv1⟩:=zct h1
 have hl1:r1.length<=r0.length:=by rw[e1,List.length_drop];omega
 obtain⟨j2,e2,_,hj2,hv2⟩:=zct h2
 have hl2:r2.length<=r1.length:=by rw[e2,List.length_drop];omega
 refine zj [(0,0)] [0] (λvs _=>ze0 (vs 0) l r0 x0 (by omega) h0) (zi rfl ⟨_,_,rfl,rfl,rfl⟩) rfl ⟨⟨_,_,rfl,cr,_,_,rfl,cr,rfl⟩,trivial⟩ ⟨zaa,trivial⟩ ?_
 refine zj [(0,0)] [0] (λvs _=>ze0 (vs 0) r0 r1 x1 (by omega) h1) (zi rfl ⟨_,_,rfl,rfl,rfl⟩) rfl ⟨⟨_,_,rfl,cr,_,_,rfl,cr,rfl⟩,trivial⟩ ⟨zaa,trivial⟩ ?_
 refine zj [(0,0)] [0] (λvs _=>ze0 (vs 0) r1 r2 x2 (by omega) h2) (zi rfl ⟨_,_,rfl,rfl,rfl⟩) rfl ⟨⟨_,_,rfl,cr,_,_,rfl,cr,rfl⟩,trivial⟩ ⟨zaa,trivial⟩ ?_
 refine zj [(0,0)] [0] (λvs _=>zfn (vs 0) r2) (zi rfl ⟨_,_,rfl,rfl,rfl⟩) rfl ⟨⟨_,_,rfl,cr,_,_,rfl,cr,rfl⟩,trivial⟩ ⟨zaa,trivial⟩ ?_
 refine zw rfl (zt ?_)
 refine ze (zsa x2) ?_
 have late_bd: ∀(w:List UInt8) (i:Nat),((numA 0 ((w.drop (4*i)).take 4):Nat):Int)<4294967296:=λw i=>by
  have h:=zia ((w.drop (4*i)).take 4) 0 1 (by omega)
  have h2:(256:Nat)^((w.drop (4*i)).take 4).length<=256^4:=Nat.pow_le_pow_right (by omega) (by rw[List.length_take];omega)
  have:(256:Nat)^4=4294967296:=by decide
  omega
 refine zy (λj:Nat=>⟨parF v,parO r2 x0 x1 x2 j,5⟩) (λj=>4*j<=x2.length) (λj=>x2.length-4*j) 0 (by omega) (Sub.trans (zwg 4 2 3 1 rfl rfl) (zad [(0,0),(1,1),(2,4),(3,7),(4,8)] rfl ⟨rfl,rfl,rfl,⟨rfl,rfl⟩,trivial⟩ ⟨⟨_,_,rfl,cr,_,_,rfl,cr,rfl⟩,⟨_,_,rfl,cr,_,_,rfl,cr,_,_,rfl,cr,rfl⟩,⟨_,_,rfl,cr,_,_,rfl,cr,_,_,rfl,rfl,rfl⟩,⟨_,_,rfl,cr,_,_,rfl,cr,rfl⟩,⟨rfl,rfl,rfl,rfl,zn _⟩,trivial⟩)) ?_
 intro j hj
 have hdl:(x2.drop (4*j)).length=x2.length-4*j:=List.length_drop
 refine zj [(0,3)] [0] (λvs _=>z4a (vs 0) (x2.drop (4*j))) (zi rfl ⟨_,_,rfl,rfl,rfl⟩) rfl ⟨⟨_,_,rfl,cr,_,_,rfl,cr,rfl⟩,trivial⟩ ⟨zaa,trivial⟩ ?_
 refine zh (λhge=>?_) (λhlt=>?_)
 ·simp only[zb]at hge
  refine zq ?_
  refine Vdraw.code (Vcode.float mixed Tab_ok 6 [⟨0,26, .adr 2 2,[]⟩,⟨1,27, .own 4,[0]⟩] [(2,[]),(3,[]),(4,[]),(5,[])] (by kernel_rfl) (F:=parF v) (O:=parO r2 x0 x1 x2 j) (nx:=5) (zad [(0,0),(1,1),(2,2),(3,3),(4,4)] rfl ⟨rfl,rfl,rfl,⟨rfl,rfl⟩,trivial⟩ ⟨⟨_,_,rfl,cr,_,_,rfl,cr,rfl⟩,⟨_,_,rfl,cr,_,_,rfl,cr,_,_,rfl,cr,rfl⟩,⟨_,_,rfl,cr,_,_,rfl,cr,_,_,rfl,rfl,rfl⟩,⟨_,_,rfl,cr,_,_,rfl,cr,rfl⟩,⟨rfl,rfl,rfl,rfl,zn _⟩,trivial⟩) ?_)
  obtain⟨n,hn⟩: ∃n,n=numA 0 ((x2.drop (4*j)).take 4):=⟨_,rfl⟩
  have hnb:=late_bd x2 j
  rw[<-hn]at hnb
  refine⟨rfl,⟨λY=>zo _,λY=>zo _,trivial⟩,(28, .own 3)::parF v,parO r2 x0 x1 x2 j,5,λY=>zo _,?_⟩
  refine⟨rfl,⟨λY=>zo _,λY=>zo _,trivial⟩,(29, .r (U64 n))::(28, .own 3)::parF v,(3,some (rdO (bs ((x2.drop (4*j)).drop 4)) 0))::(3,none)::parO r2 x0 x1 x2 j,6,λY=>?_,?_⟩
  ·rw[hn]
   exact zj [(0,3)] [0] (λvs _=>zno (vs 0) (x2.drop (4*j)) 4 (by omega) (by omega)) (zi rfl ⟨_,_,rfl,rfl,_,_,rfl,cr,rfl⟩) rfl ⟨⟨_,_,rfl,cr,_,_,rfl,cr,rfl⟩,trivial⟩ ⟨zaa,trivial⟩ (zo _)
  refine⟨rfl,⟨λY=>zo _,λY=>zo _,trivial⟩,(30, .r (I n))::(29, .r (U64 n))::(28, .own 3)::parF v,(3,some (rdO (bs ((x2.drop (4*j)).drop 4)) 0))::(3,none)::parO r2 x0 x1 x2 j,6,λY=>zd rfl (by omega) (zo _),?_⟩
  refine⟨rfl,⟨λY=>zo _,λY=>zo _,trivial⟩,(31, .own 6)::(30, .r (I n))::(29, .r (U64 n))::(28, .own 3)::parF v,(6,some (.ch 3 1 1 [I n] true))::(3,some (rdO (bs ((x2.drop (4*j)).drop 4)) 0))::(3,none)::parO r2 x0 x1 x2 j,7,λY=>zx (zo _),?_⟩
  refine⟨rfl,⟨λY=>zo _,λY=>zo _,trivial⟩,?_⟩
  refine Vapp.mk' (j:=j+1) (zs:=(zdc x2 (j+1)).map I) (by simp only[maxLen];omega) (by simp;omega) rfl (by rw[z7n,List.map_append,hn];rfl) ?_
  exact⟨j+1,by omega,by omega,zad [(0,0),(1,1),(2,2),(3,3),(4,7)] rfl ⟨rfl,rfl,rfl,⟨rfl,rfl⟩,trivial⟩ ⟨⟨_,_,rfl,cr,_,_,rfl,cr,rfl⟩,⟨_,_,rfl,cr,_,_,rfl,cr,_,_,rfl,cr,rfl⟩,⟨_,_,rfl,cr,_,_,rfl,cr,_,_,rfl,rfl,rfl⟩,⟨_,_,rfl,zf (by rw[List.drop_drop];rfl),_,_,rfl,cr,rfl⟩,⟨rfl,rfl,rfl,rfl,zn _⟩,trivial⟩⟩
 ·simp only[zb]at hlt
  have hj4:x2.length/4=j:=by omega
  refine zt ?_
  refine zj [(0,3)] [0] (λvs _=>z4a (vs 0) (x2.drop (4*j))) (zi rfl ⟨_,_,rfl,rfl,rfl⟩) rfl ⟨⟨_,_,rfl,cr,_,_,rfl,cr,rfl⟩,trivial⟩ ⟨zaa,trivial⟩ ?_
  by_cases h4:x2.length%4=0
  ·refine zw (by simp only[zb];omega) ?_
   refine za rfl rfl ?_
   have hmk:zgc [x0,x1,x2]=⟨x0,x1,zdc x2 j⟩:=by rw[z61,hj4]
   rw[hmk]at h
   have hcv:Cv (.ag [bs x0,bs x1, .sl 1 j ((zdc x2 j).map I)]) (.ag (Par.c ⟨x0,x1,zdc x2 j⟩)):=Cv.ag (zk (cr) (zk (cr) (zk (zf (by unfold is;rw[ztk])) Cvs.nil)))
   have hfit:Par.fit ⟨x0,x1,zdc x2 j⟩:=⟨by simp only;omega,by simp only;omega,by simp only[ztk];omega,λy hy=>by have:=z1h x2 j y hy;unfold i64;omega⟩
   refine Vcall.mk' (z7u ⟨x0,x1,zdc x2 j⟩ hfit) (zk hcv Cvs.nil) ?_
   by_cases hR:Par.right ⟨x0,x1,zdc x2 j⟩=true
   ·rw[if_pos ⟨h4,hR⟩]at h
    obtain⟨rfl,rfl,rfl⟩:=h
    refine zw (by simp only[zb];exact hR) (zt ?_)
    refine za rfl rfl ?_
    exact zah (.inl rfl) [(0,0),(1,1)] [(2, .own 1),(3, .r (Er 0))] [(1,some (.box (([bs x0,bs x1, .sl 1 j ((zdc x2 j).map I)]:List RV).map .r)))] rfl ⟨rfl,cr,⟨rfl,rfl⟩,trivial⟩ ⟨⟨_,_,rfl,cr,_,_,rfl,cr,rfl⟩,⟨_,_,rfl,cr,_,_,rfl,cr,_,_,rfl,cr,rfl⟩,trivial⟩ ⟨⟨1000000,rfl⟩,trivial⟩ (za rfl rfl ⟨_,rfl,Cv.tu (zk hcv (zn _))⟩)
   ·rw[if_neg (λhh=>hR hh.2)]at h
    obtain⟨rfl,rfl,rfl⟩:=h
    refine zu (by simp only[zb];exact Bool.eq_false_iff.2 hR) (zq ?_)
    exact zah (.inl rfl) [(0,0),(1,1)] [(2, .own 1),(3, .r (Er _))] [(1,some (.box (zp3.map .r)))] rfl ⟨rfl,cr,⟨rfl,rfl⟩,trivial⟩ ⟨⟨_,_,rfl,trivial,_,_,rfl,trivial,rfl⟩,⟨_,_,rfl,cr,_,_,rfl,cr,_,_,rfl,cr,rfl⟩,trivial⟩ ⟨⟨1000000,rfl⟩,trivial⟩ (za rfl rfl ⟨_,rfl,Cv.tu (zk zup (zn _))⟩)
  ·rw[if_neg (λhh=>h4 hh.1)]at h
   obtain⟨rfl,rfl,rfl⟩:=h
   refine zu (by simp only[zb];omega) (zq ?_)
   exact zah (.inl rfl) [(0,0),(1,1)] [(2, .own 1),(3, .r (Er _))] [(1,some (.box (zp3.map .r)))] rfl ⟨rfl,cr,⟨rfl,rfl⟩,trivial⟩ ⟨⟨_,_,rfl,trivial,_,_,rfl,trivial,rfl⟩,⟨_,_,rfl,cr,_,_,rfl,cr,_,_,rfl,cr,rfl⟩,trivial⟩ ⟨⟨1000000,rfl⟩,trivial⟩ (za rfl rfl ⟨_,rfl,Cv.tu (zk zup (zn _))⟩)
end
end Go.Proofs.YtpdllgbfemnemaaGreat.Sx
