import Derived.Test.YtpdllgbfemnemaaGreatZRe
import Derived.Test.YtpdllgbfemnemaaGreatZSxU
namespace Go.Proofs.YtpdllgbfemnemaaGreat.Sx
open Go.RowKit
set_option linter.unusedVariables false
section
abbrev Er(e:Nat):RV:= .i .u8 (e:Int)
abbrev rdO(c:RV)(e:Nat):Ow:= .box [.r c, .r (Er e)]
abbrev rdL(l:List UInt8):List (Nat×Ow):=[(0,rdO (bs l) 0)]
abbrev rdX(e:Nat):List (Nat×Ow):=[(0,rdO .any e)]
theorem zjj:Tryz.prog.underlying 194=some (.pointer 214):=by kernel_rfl
theorem zb2(c c':RV)(e e':Nat)(v:Value):zkl [(0,rdO c e)] [(0,rdO c' e')] [(0,v)]:=⟨⟨_,_,rfl,rfl,zap,zap⟩,trivial⟩
theorem zuw:Cv (.x (.slice none 0 0)) (bs []):=Cv.nil 1
theorem zm9(v:Value)(l:List UInt8)(e:Nat):Acts Tryz.prog 214 1 (rdL l) [.own 0, .r (Er e)] [(0,v)] 1 (rdX e) (.r (.tu [])):=by
 refine zam (T:=Tab) mixed Tab_ok Tryz.func214 rfl (by kernel_rfl) rfl (zb2 _ _ _ _ _) ?_
 refine zu rfl (zq ?_)
 exact zah (.inr rfl) [(0,0)] [] [] rfl ⟨⟨rfl,rfl⟩,trivial⟩ ⟨⟨_,_,rfl,trivial,_,_,rfl,cr,rfl⟩,trivial⟩ ⟨⟨1000000,rfl⟩,trivial⟩ ⟨_,rfl,cr⟩
theorem zfn(v:Value)(l:List UInt8):Acts Tryz.prog 199 1 (rdL l) [.own 0] [(0,v)] 1 (rdL l) (.r (Er 0)):=by
 refine zam (T:=Tab) mixed Tab_ok Tryz.func199 rfl (by kernel_rfl) rfl (zb2 _ _ _ _ _) ?_
 refine⟨⟨_,zjj⟩,?_⟩
 refine zt ?_
 exact zah (.inl rfl) [(0,0)] [(2, .r (Er 0))] [] rfl ⟨cr,⟨rfl,rfl⟩,trivial⟩ ⟨⟨_,_,rfl,cr,_,_,rfl,cr,rfl⟩,trivial⟩ ⟨⟨1000000,rfl⟩,trivial⟩ (cr)
theorem zcy(v:Value)(e:Nat):Acts Tryz.prog 199 1 (rdX e) [.own 0] [(0,v)] 1 (rdX e) (.r (Er e)):=by
 refine zam (T:=Tab) mixed Tab_ok Tryz.func199 rfl (by kernel_rfl) rfl (zb2 _ _ _ _ _) ?_
 refine⟨⟨_,zjj⟩,?_⟩
 refine zt ?_
 exact zah (.inl rfl) [(0,0)] [(2, .r (Er e))] [] rfl ⟨cr,⟨rfl,rfl⟩,trivial⟩ ⟨⟨_,_,rfl,trivial,_,_,rfl,cr,rfl⟩,trivial⟩ ⟨⟨1000000,rfl⟩,trivial⟩ (cr)
theorem z4a(v:Value)(l:List UInt8):Acts Tryz.prog 234 1 (rdL l) [.own 0] [(0,v)] 1 (rdL l) (.r (I l.length)):=by
 refine zam (T:=Tab) mixed Tab_ok Tryz.func234 rfl (by kernel_rfl) rfl (zb2 _ _ _ _ _) ?_
 refine⟨⟨_,zjj⟩,?_⟩
 refine zt ?_
 exact zah (.inl rfl) [(0,0)] [(2, .r (I l.length))] [] rfl ⟨cr,⟨rfl,rfl⟩,trivial⟩ ⟨⟨_,_,rfl,cr,_,_,rfl,cr,rfl⟩,trivial⟩ ⟨⟨1000000,rfl⟩,trivial⟩ (cr)
theorem zsa(l:List UInt8):zaf Tryz.prog 178 [bs l] (.bx [bs l,Er 0]):=by
 refine zac (T:=Tab) mixed Tab_ok Tryz.func178 rfl (by kernel_rfl) ?_
 rfl
theorem zo4(v:Value)(e:Nat)(he:e≠0)(n:Int):Acts Tryz.prog 212 1 (rdX e) [.own 0, .r (I n)] [(0,v)] 1 (rdX e) (.r (.tu [bs [], .b false])):=by
 refine zam (T:=Tab) mixed Tab_ok Tryz.func212 rfl (by kernel_rfl) rfl (zb2 _ _ _ _ _) ?_
 refine⟨⟨_,zjj⟩,?_⟩
 refine zu (by simp only[zb];omega) (zq ?_)
 exact zah (.inl rfl) [(0,0)] [(4, .r (bs [])),(5, .r (.b false))] [] rfl ⟨zuw,cr,⟨rfl,rfl⟩,trivial⟩ ⟨⟨_,_,rfl,trivial,_,_,rfl,cr,rfl⟩,trivial⟩ ⟨⟨1000000,rfl⟩,trivial⟩ ⟨_,rfl,cr⟩
theorem zf5(v:Value)(l:List UInt8)(n:Nat)(hn:l.length<n):Acts Tryz.prog 212 1 (rdL l) [.own 0, .r (I n)] [(0,v)] 1 (rdX 4) (.r (.tu [bs [], .b false])):=by
 refine zam (T:=Tab) mixed Tab_ok Tryz.func212 rfl (by kernel_rfl) rfl (zb2 _ _ _ _ _) ?_
 refine⟨⟨_,zjj⟩,?_⟩
 refine zw rfl (zt ?_)
 refine zw (by simp only[zb];omega) (zt ?_)
 refine zu (by simp only[zb];omega) (zq ?_)
 refine zj [(0,0)] [0] (λvs _=>zm9 (vs 0) l 4) (zi rfl ⟨_,_,rfl,rfl,_,_,rfl,cr,rfl⟩) rfl ⟨⟨_,_,rfl,cr,_,_,rfl,cr,rfl⟩,trivial⟩ ⟨zaa,trivial⟩ ?_
 exact zah (.inl rfl) [(0,0)] [(4, .r (bs [])),(5, .r (.b false))] [] rfl ⟨zuw,cr,⟨rfl,rfl⟩,trivial⟩ ⟨⟨_,_,rfl,trivial,_,_,rfl,cr,rfl⟩,trivial⟩ ⟨⟨1000000,rfl⟩,trivial⟩ ⟨_,rfl,cr⟩
theorem zje(v:Value)(l:List UInt8)(n:Nat)(hn:n<=l.length):Acts Tryz.prog 212 1 (rdL l) [.own 0, .r (I n)] [(0,v)] 1 (rdL (l.drop n)) (.r (.tu [bs (l.take n), .b true])):=by
 refine zam (T:=Tab) mixed Tab_ok Tryz.func212 rfl (by kernel_rfl) rfl (zb2 _ _ _ _ _) ?_
 refine⟨⟨_,zjj⟩,?_⟩
 refine zw rfl (zt ?_)
 refine zw (by simp only[zb];omega) (zt ?_)
 refine zw (by simp only[zb];omega) (zt ?_)
 have e1:(l.take n).length=n:=by rw[List.length_take];omega
 have e2:(l.drop n).length=l.length-n:=List.length_drop
 refine⟨by omega,by omega,by omega,n,(l.take n).map U8,by omega,by simp[List.map_take],?_⟩
 refine⟨by omega,by omega,by omega,l.length-n,(l.drop n).map U8,by omega,by rw[Nat.mul_one,Int.toNat_natCast,Nat.mul_one,<-List.map_drop,List.take_of_length_le (by rw[List.length_map];omega)],?_⟩
 have c1:RV.sl 1 n ((l.take n).map U8)=bs (l.take n):=by unfold bs;rw[e1]
 have c2:RV.sl 1 (l.length-n) ((l.drop n).map U8)=bs (l.drop n):=by unfold bs;rw[e2]
 exact zah (.inl rfl) [(0,0)] [(4, .r (bs (l.take n))),(5, .r (.b true))] [] rfl ⟨zf c1,cr,⟨rfl,rfl⟩,trivial⟩ ⟨⟨_,_,rfl,zf c2,_,_,rfl,cr,rfl⟩,trivial⟩ ⟨⟨1000000,rfl⟩,trivial⟩ ⟨_,rfl,cr⟩
end
section
theorem z49(n:Int)(hn:n=1\/n=2\/n=4\/n=8):zaf Tryz.prog 166 [I n] (.r (.b true)):=by
 refine zac (T:=Tab) mixed Tab_ok Tryz.func166 rfl (by kernel_rfl) ?_
 rcases hn with rfl |rfl |rfl |rfl
 ·refine zu rfl ?_
  exact cr
 ·refine zw rfl (zu rfl ?_)
  exact cr
 ·refine zw rfl (zw rfl (zu rfl ?_))
  exact cr
 ·refine zw rfl (zw rfl (zw rfl (zu rfl ?_)))
  exact cr
theorem zx9(n:Nat)(hn:n<=1073741823):zaf Tryz.prog 192 [I n] (.r (I (zb4 n))):=by
 refine zac (T:=Tab) mixed Tab_ok Tryz.func192 rfl (by kernel_rfl) ?_
 refine zw (by simp only[zb];omega) (zw (by simp only[zb];omega) (zt ?_))
 by_cases h1:n<64
 ·refine zu (by simp only[zb];omega) (zq ?_)
  exact zf (by unfold zb4;rw[if_pos h1];rfl)
 refine zw (by simp only[zb];omega) (zt ?_)
 by_cases h2:n<16384
 ·refine zu (by simp only[zb];omega) (zq ?_)
  exact zf (by unfold zb4;rw[if_neg h1,if_pos h2];rfl)
 refine zw (by simp only[zb];omega) (zt ?_)
 exact zf (by unfold zb4;rw[if_neg h1,if_neg h2];rfl)
theorem Vshl.byte{a:Int}{K:Int->Prop}(n:Nat)(ha:a=(n:Int))(hn:n<72057594037927936)(hK:K ((256*n:Nat):Int)):Vshl .u64 a 8 K:=by
 subst ha
 refine⟨by omega,_,?_,hK⟩
 have e:((n:Int)*2^(min (8:Int).toNat IntKind.u64.bits))=((256*n:Nat):Int):=by
  show((n:Int)*2^8)=_
  omega
 rw[e,zhq (by omega)]
theorem Vbits.orByte{a b:Int}{K:Int->Prop}(n:Nat)(c:UInt8)(ha:a=((256*n:Nat):Int))(hb:b=(c.toNat:Int))(hn:n<72057594037927936)(hK:K ((256*n+c.toNat:Nat):Int)):Vbits .u64 .or a b K:=by
 subst ha;subst hb
 refine⟨_,?_,hK⟩
 have hc:=c.toNat_lt
 have e: ∀z:Nat,z<18446744073709551616->(BitVec.ofInt 64 (z:Int)).toNat=z:=λz hz=>by
  rw[BitVec.toNat_ofInt];omega
 show((256*n+c.toNat:Nat):Int)=IntKind.u64.wrap (((BitVec.ofInt 64 ((256*n:Nat):Int)|||BitVec.ofInt 64 (c.toNat:Int)).toNat:Nat):Int)
 rw[BitVec.toNat_or,e _ (by omega),e _ (by omega)]
 have h:(256*n|||c.toNat)=256*n+c.toNat:=by
  have:=Nat.two_pow_add_eq_or_of_lt (i:=8) (b:=c.toNat) (by omega) n
  rw[show(2:Nat)^8=256 from rfl]at this
  exact this.symm
 rw[h,zhq (by omega)]
theorem zj7(l:List UInt8)(hl:l.length<=8):zaf Tryz.prog 213 [bs l] (.r (U64 (numA 0 l))):=by
 refine zac (T:=Tab) mixed Tab_ok Tryz.func213 rfl (by kernel_rfl) ?_
 refine zy (λi:Nat=>⟨[(3, .r (U64 (numA 0 (l.take i)))),(6, .r (bs l)),(7, .r (I l.length)),(8, .r (I i))],[],0⟩) (λi=>i<=l.length) (λi=>l.length-i) 0 (Nat.zero_le _) (zad [] rfl ⟨cr,cr,cr,cr,trivial⟩ trivial) ?_
 intro i hi
 refine zh (λh=>?_) (λh=>?_)
 ·simp only[zb]at h
  have hlt:i<l.length:=by omega
  have hb:numA 0 (l.take i)<72057594037927936:=by
   have:=zia (l.take i) 0 1 (by omega)
   have h2:(256:Nat)^(l.take i).length<=256^7:=Nat.pow_le_pow_right (by omega) (by rw[List.length_take];omega)
   have:(256:Nat)^7=72057594037927936:=by decide
   omega
  refine zq ?_
  refine zm (by omega) (by omega) (zai rfl hlt) (zg rfl ?_)
  refine Vshl.byte _ rfl hb ?_
  refine Vint.u64 l[i].toNat rfl (by have:=l[i].toNat_lt;omega) ?_
  refine Vbits.orByte _ l[i] rfl rfl hb ?_
  rw[<-z7q 0 hlt]
  refine zd (m:=((i+1:Nat):Int)) (by omega) (by omega) ?_
  exact⟨i+1,hlt,by omega,zad [] rfl ⟨cr,cr,cr,cr,trivial⟩ trivial⟩
 ·simp only[zb]at h
  refine zt ?_
  have e:l.take i=l:=List.take_of_length_le (by omega)
  exact zf (by rw[e])
theorem zno(v:Value)(l:List UInt8)(n:Nat)(h1:n=1\/n=2\/n=4\/n=8)(hn:n<=l.length):Acts Tryz.prog 198 1 (rdL l) [.own 0, .r (I n)] [(0,v)] 1 (rdL (l.drop n)) (.r (U64 (numA 0 (l.take n)))):=by
 refine zam (T:=Tab) mixed Tab_ok Tryz.func198 rfl (by kernel_rfl) rfl (zb2 _ _ _ _ _) ?_
 refine ze (z49 n (by omega)) ?_
 refine zw rfl (zt ?_)
 refine zj [(0,0)] [0] (λvs _=>zje (vs 0) l n hn) (zi rfl ⟨_,_,rfl,rfl,_,_,rfl,cr,rfl⟩) rfl ⟨⟨_,_,rfl,cr,_,_,rfl,cr,rfl⟩,trivial⟩ ⟨zaa,trivial⟩ ?_
 refine ze (zj7 (l.take n) (by rw[List.length_take];omega)) ?_
 exact zah (.inl rfl) [(0,0)] [(4, .r (U64 (numA 0 (l.take n))))] [] rfl ⟨cr,⟨rfl,rfl⟩,trivial⟩ ⟨⟨_,_,rfl,cr,_,_,rfl,cr,rfl⟩,trivial⟩ ⟨⟨1000000,rfl⟩,trivial⟩ (cr)
theorem zik(v:Value)(l:List UInt8)(n:Nat)(h1:n=1\/n=2\/n=4\/n=8)(hn:l.length<n):Acts Tryz.prog 198 1 (rdL l) [.own 0, .r (I n)] [(0,v)] 1 (rdX 4) (.r (U64 0)):=by
 refine zam (T:=Tab) mixed Tab_ok Tryz.func198 rfl (by kernel_rfl) rfl (zb2 _ _ _ _ _) ?_
 refine ze (z49 n (by omega)) ?_
 refine zw rfl (zt ?_)
 refine zj [(0,0)] [0] (λvs _=>zf5 (vs 0) l n hn) (zi rfl ⟨_,_,rfl,rfl,_,_,rfl,cr,rfl⟩) rfl ⟨⟨_,_,rfl,cr,_,_,rfl,cr,rfl⟩,trivial⟩ ⟨zaa,trivial⟩ ?_
 refine ze (zj7 [] (by simp)) ?_
 exact zah (.inl rfl) [(0,0)] [(4, .r (U64 0))] [] rfl ⟨cr,⟨rfl,rfl⟩,trivial⟩ ⟨⟨_,_,rfl,trivial,_,_,rfl,cr,rfl⟩,trivial⟩ ⟨⟨1000000,rfl⟩,trivial⟩ (cr)
theorem zlo(v:Value)(e:Nat)(he:e≠0)(n:Nat)(h1:n=1\/n=2\/n=4\/n=8):Acts Tryz.prog 198 1 (rdX e) [.own 0, .r (I n)] [(0,v)] 1 (rdX e) (.r (U64 0)):=by
 refine zam (T:=Tab) mixed Tab_ok Tryz.func198 rfl (by kernel_rfl) rfl (zb2 _ _ _ _ _) ?_
 refine ze (z49 n (by omega)) ?_
 refine zw rfl (zt ?_)
 refine zj [(0,0)] [0] (λvs _=>zo4 (vs 0) e he n) (zi rfl ⟨_,_,rfl,rfl,_,_,rfl,cr,rfl⟩) rfl ⟨⟨_,_,rfl,trivial,_,_,rfl,cr,rfl⟩,trivial⟩ ⟨zaa,trivial⟩ ?_
 refine ze (zj7 [] (by simp)) ?_
 exact zah (.inl rfl) [(0,0)] [(4, .r (U64 0))] [] rfl ⟨cr,⟨rfl,rfl⟩,trivial⟩ ⟨⟨_,_,rfl,trivial,_,_,rfl,cr,rfl⟩,trivial⟩ ⟨⟨1000000,rfl⟩,trivial⟩ (cr)
theorem zs6(v:Value)(l:List UInt8)(n:Nat)(hl:l.length<=8000000000000)(hn:n<=l.length):Acts Tryz.prog 201 1 (rdL l) [.own 0, .r (I n)] [(0,v)] 1 (rdL (l.drop n)) (.r (bs (l.take n))):=by
 refine zam (T:=Tab) mixed Tab_ok Tryz.func201 rfl (by kernel_rfl) rfl (zb2 _ _ _ _ _) ?_
 refine zj [(0,0)] [0] (λvs _=>zje (vs 0) l n hn) (zi rfl ⟨_,_,rfl,rfl,_,_,rfl,cr,rfl⟩) rfl ⟨⟨_,_,rfl,cr,_,_,rfl,cr,rfl⟩,trivial⟩ ⟨zaa,trivial⟩ ?_
 refine ze (zfe (l.take n) (by rw[List.length_take];omega)) ?_
 exact zah (.inl rfl) [(0,0)] [(4, .r (bs (l.take n)))] [] rfl ⟨cr,⟨rfl,rfl⟩,trivial⟩ ⟨⟨_,_,rfl,cr,_,_,rfl,cr,rfl⟩,trivial⟩ ⟨⟨1000000,rfl⟩,trivial⟩ (cr)
theorem zlc(v:Value)(l:List UInt8)(n:Nat)(hn:l.length<n):Acts Tryz.prog 201 1 (rdL l) [.own 0, .r (I n)] [(0,v)] 1 (rdX 4) (.r (bs [])):=by
 refine zam (T:=Tab) mixed Tab_ok Tryz.func201 rfl (by kernel_rfl) rfl (zb2 _ _ _ _ _) ?_
 refine zj [(0,0)] [0] (λvs _=>zf5 (vs 0) l n hn) (zi rfl ⟨_,_,rfl,rfl,_,_,rfl,cr,rfl⟩) rfl ⟨⟨_,_,rfl,cr,_,_,rfl,cr,rfl⟩,trivial⟩ ⟨zaa,trivial⟩ ?_
 refine ze (zfe [] (by simp)) ?_
 exact zah (.inl rfl) [(0,0)] [(4, .r (bs []))] [] rfl ⟨cr,⟨rfl,rfl⟩,trivial⟩ ⟨⟨_,_,rfl,trivial,_,_,rfl,cr,rfl⟩,trivial⟩ ⟨⟨1000000,rfl⟩,trivial⟩ (cr)
theorem z3k(v:Value)(c:UInt8)(l:List UInt8)(hc:c.toNat<=1):Acts Tryz.prog 200 1 (rdL (c::l)) [.own 0] [(0,v)] 1 (rdL l) (.r (.b (decide (c.toNat=1)))):=by
 refine zam (T:=Tab) mixed Tab_ok Tryz.func200 rfl (by kernel_rfl) rfl (zb2 _ _ _ _ _) ?_
 refine zj [(0,0)] [0] (λvs _=>zje (vs 0) (c::l) 1 (by simp)) (zi rfl ⟨_,_,rfl,rfl,_,_,rfl,cr,rfl⟩) rfl ⟨⟨_,_,rfl,cr,_,_,rfl,cr,rfl⟩,trivial⟩ ⟨zaa,trivial⟩ ?_
 refine zw rfl (zt ?_)
 refine zm (by omega) (by simp) rfl (zg rfl ?_)
 refine zw (by simp only[zb];omega) (zt ?_)
 refine zm (by omega) (by simp) rfl (zg rfl ?_)
 refine Vcmp.mk' (m:=decide (c.toNat=1)) (by rw[Bool.eq_iff_iff];simp only[zb];omega) ?_
 exact zah (.inl rfl) [(0,0)] [(2, .r (.b (decide (c.toNat=1))))] [] rfl ⟨cr,⟨rfl,rfl⟩,trivial⟩ ⟨⟨_,_,rfl,cr,_,_,rfl,cr,rfl⟩,trivial⟩ ⟨⟨1000000,rfl⟩,trivial⟩ (cr)
end
end Go.Proofs.YtpdllgbfemnemaaGreat.Sx
