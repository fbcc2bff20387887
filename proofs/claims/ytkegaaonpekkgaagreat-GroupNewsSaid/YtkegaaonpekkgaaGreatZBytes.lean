import Derived.Test.YtkegaaonpekkgaaGreatZGeoB
namespace Go.Proofs.YtkegaaonpekkgaaGreat.Sx
open Go.RowKit
theorem zblb(n:Nat)(hn:n<=65536):aG 498 [.i .u64 n] (.r (I (zwi n))):=by
 refine aT Tryz.func498 rfl ?_
 obtain⟨a0,ha0,l0⟩: ∃a,(n/2&&&6148914691236517205)=a/\a<=65536:=⟨_,rfl,Nat.le_trans Nat.and_le_left (by omega)⟩
 obtain⟨a1,ha1,l1⟩: ∃a,(n&&&6148914691236517205)=a/\a<=65536:=⟨_,rfl,Nat.le_trans Nat.and_le_left (by omega)⟩
 obtain⟨b0,hb0,m0⟩: ∃a,((a0+a1)/4&&&3689348814741910323)=a/\a<=131072:=⟨_,rfl,Nat.le_trans Nat.and_le_left (by omega)⟩
 obtain⟨b1,hb1,m1⟩: ∃a,(a0+a1&&&3689348814741910323)=a/\a<=131072:=⟨_,rfl,Nat.le_trans Nat.and_le_left (by omega)⟩
 obtain⟨c0,hc0,p0⟩: ∃a,((b0+b1)/16+(b0+b1)&&&1085102592571150095)=a/\a<=1048576:=⟨_,rfl,Nat.le_trans Nat.and_le_left (by omega)⟩
 refine Vshr.nat (.inl rfl) n 1 (n/2) rfl rfl (by decide) rfl ?_
 refine Vbits.nat (.inl rfl) (n/2) 6148914691236517205 a0 rfl rfl (by omega) (by decide) (by omega) ha0 ?_
 refine Vbits.nat (.inl rfl) n 6148914691236517205 a1 rfl rfl (by omega) (by decide) (by omega) ha1 ?_
 refine Vint.nat (.inl rfl) (a0+a1) (by omega) (by omega) ?_
 refine Vshr.nat (.inl rfl) (a0+a1) 2 ((a0+a1)/4) rfl rfl (by decide) rfl ?_
 refine Vbits.nat (.inl rfl) ((a0+a1)/4) 3689348814741910323 b0 rfl rfl (by omega) (by decide) (by omega) hb0 ?_
 refine Vbits.nat (.inl rfl) (a0+a1) 3689348814741910323 b1 rfl rfl (by omega) (by decide) (by omega) hb1 ?_
 refine Vint.nat (.inl rfl) (b0+b1) (by omega) (by omega) ?_
 refine Vshr.nat (.inl rfl) (b0+b1) 4 ((b0+b1)/16) rfl rfl (by decide) rfl ?_
 refine Vint.nat (.inl rfl) ((b0+b1)/16+(b0+b1)) (by omega) (by omega) ?_
 refine Vbits.nat (.inl rfl) ((b0+b1)/16+(b0+b1)) 1085102592571150095 c0 rfl rfl (by omega) (by decide) (by omega) hc0 ?_
 refine Vshr.nat (.inl rfl) c0 8 (c0/256) rfl rfl (by decide) rfl ?_
 refine Vint.nat (.inl rfl) (c0+c0/256) (by omega) (by omega) ?_
 obtain⟨d,hd⟩: ∃d,c0+c0/256=d:=⟨_,rfl⟩
 rw[hd]
 refine Vshr.nat (.inl rfl) d 16 (d/65536) rfl rfl (by decide) rfl ?_
 refine Vint.nat (.inl rfl) (d+d/65536) (by omega) (by omega) ?_
 obtain⟨e,he⟩: ∃e,d+d/65536=e:=⟨_,rfl⟩
 rw[he]
 refine Vshr.nat (.inl rfl) e 32 (e/4294967296) rfl rfl (by decide) rfl ?_
 refine Vint.nat (.inl rfl) (e+e/4294967296) (by omega) (by omega) ?_
 refine Vint.nat (.inr rfl) (e+e/4294967296) rfl (by omega) ?_
 refine Vbits.nat (.inr rfl) (e+e/4294967296) 127 _ rfl rfl (by omega) (by decide) (Nat.lt_of_le_of_lt Nat.and_le_left (by omega:e+e/4294967296<_)) rfl ?_
 subst he hd hc0 hb0 hb1 ha0 ha1
 exact cr
theorem zjhb(n:Nat)(hn:n<=65536):aG 440 [.i .u64 n] (.r (I (zwi n))):=by
 refine aT Tryz.func440 rfl ?_
 refine zq ?_
 exact ze (zblb n hn) (cr)
theorem zw5{n:Int}(h: ¬(1<=n/\n<=65536)):zd9 n=false:=by
 rcases hf:zd9 n with _ |_
 ·rfl
 ·exact absurd (zik hf) h
theorem zrj(n:Int):aG 357 [I n] (.r (.b (zd9 n))):=by
 refine aT Tryz.func357 rfl ?_
 refine zh (λh1=>?_) (λh1=>?_)
 ·refine zh (λh2=>?_) (λh2=>?_)
  ·simp only[zb]at h1 h2
   obtain⟨m,rfl⟩:=Int.eq_ofNat_of_zero_le (show 0<=n by omega)
   have h:=zddb (n:=m) (by omega) (by omega)
   refine Vint.nat (.inl rfl) m rfl (by omega) ?_
   refine ze (zjhb m (by omega)) ?_
   refine zh (λh3=>?_) (λh3=>?_)
   ·simp only[zb]at h3
    exact zf (congrArg RV.b (Eq.symm (h.1 (by omega))))
   ·simp only[zb]at h3
    exact zf (congrArg RV.b (Eq.symm (Bool.eq_false_iff.2 λh4=>h3 (by rw[h.2 h4];rfl))))
  ·simp only[zb]at h2
   exact zf (congrArg RV.b (Eq.symm (zw5 (by omega))))
 ·simp only[zb]at h1
  exact zf (congrArg RV.b (Eq.symm (zw5 (by omega))))
theorem zrk(x:Int):aG 370 [I x] (.r (.b (zdn x))):=by
 refine aT Tryz.func370 rfl ?_
 (repeat' (first|refine zh (λh=>?_) (λh=>?_)|refine zf ?_|refine zp ?_|refine zq ?_))
 all_goals refine congrArg RV.b (Eq.symm ?_)
 all_goals simp only[zdn,Bool.and_eq_true,Bool.and_eq_false_iff,zb]at*
 all_goals omega
theorem g_of(x n:Int):aG 291 [I x,I n] (.r (.b (ofI x n))):=by
 refine aT Tryz.func291 rfl ?_
 refine Vcall.bool (zrj n) (λhf=>?_) (λhf=>zf (by simp[ofI,hf,ofC]))
 have hb:=zik hf
 refine zh (λh1=>?_) (λh1=>?_)
 ·refine zd rfl (by omega) (zd rfl (by omega) ?_)
  refine zh (λh2=>?_) (λh2=>?_)
  all_goals refine zf (congrArg RV.b (Eq.symm ?_))
  all_goals simp only[zb]at h1 h2
  all_goals simp[ofI,hf]
  all_goals omega
 ·simp only[zb]at h1
  refine zf (congrArg RV.b (Eq.symm ?_))
  simp[ofI,hf]
  omega
theorem zkmb{m k:Nat}(hm:m<=131070)(hk:k<=lv m):m/2^k%2=if k<lv m then 1 else 0:=by
 obtain⟨h1,h2,h0⟩:=zgw hm
 generalize lv m=l at*
 rcases Nat.lt_or_ge k l with hk' |hk'
 ·rw[if_pos hk']
  obtain⟨j,rfl⟩: ∃j,l=k+(j+1):=⟨l-k-1,by omega⟩
  have h3:m%2^(k+(j+1))/2^k%2=m/2^k%2:=by
   rw[Nat.pow_add,Nat.mod_mul_right_div_self,Nat.pow_succ,Nat.mul_comm,Nat.mod_mul_right_mod]
  have hp:=zal k
  have hj:=zal j
  have e1:2^(k+(j+1))-1=2^k*(2*2^j-1)+(2^k-1):=by
   rw[Nat.pow_add,Nat.pow_succ,Nat.mul_comm (2^j) 2,Nat.mul_sub,Nat.mul_one]
   have:2^k*1<=2^k*(2*2^j):=Nat.mul_le_mul_left _ (by omega)
   omega
  rw[<-h3,h2,e1,Nat.mul_add_div hp,Nat.div_eq_of_lt (by omega)]
  omega
 ·obtain rfl:k=l:=by omega
  rw[if_neg (by omega)];exact h0
theorem zs4(x:Int):aG 371 [I x] (.r (I (lvI x))):=by
 refine aT Tryz.func371 rfl ?_
 cases hx:zdn x with
 |false=>
  refine Vcode.scope mixed Tab_ok 0 (λk:Nat=>{F:=[],O:=[],nx:=0}) (λ_=>False) (λ_=>0) rfl ?_ λ_ h=>h.elim
  refine ze (zrk x) ?_
  rw[hx]
  exact zt rfl (zp (zf (congrArg I (zl5 hx).symm)))
 |true=>
 have hl:=zl4 hx
 have hg:=zrk x
 rw[hx]at hg
 rw[zdo]at hx
 obtain⟨m,rfl⟩:=Int.eq_ofNat_of_zero_le hx.1
 rw[Int.toNat_natCast]at hl
 have hm:m<=131070:=by omega
 have h16:=(zgw hm).1
 have hb: ∀k,k<=lv m->m/2^k%2=(if k<lv m then 1 else 0)/\m/2^k<9223372036854775808:=λk hk=>⟨zkmb hm hk,Nat.lt_of_le_of_lt (Nat.div_le_self _ _) (by omega)⟩
 rw[hl]
 refine Vcode.scope mixed Tab_ok 0 (λk:Nat=>{F:=[(0, .r (I m)),(3, .r (I k))],O:=[],nx:=0}) (λk=>k<=lv m) (λk=>lv m-k) rfl ?_ ?_
 ·refine ze hg (zu rfl (zq ?_))
  have hb:=hb 0 (by omega)
  refine Vshr.nat (.inr rfl) m 0 (m/2^0) rfl rfl (by omega) rfl ?_
  refine Vbits.nat (.inr rfl) (m/2^0) 1 (m/2^0%2) rfl rfl hb.2 (by decide) (by omega) (Nat.and_one_is_mod _) ?_
  refine zh (λh=>zp ?_) (λh=>zq ?_)<;>simp only[zb]at h<;>split at hb<;>try omega
  ·refine zd (m:=((1:Nat):Int)) rfl (by omega) ?_
   exact⟨1,by omega,zac [] rfl ⟨cr,cr,trivial⟩ trivial⟩
  ·exact zf (congrArg I (by omega))
 ·intro k hk
  have hb:=hb k hk
  refine Vshr.nat (.inr rfl) m k (m/2^k) rfl rfl (by omega) rfl ?_
  refine Vbits.nat (.inr rfl) (m/2^k) 1 (m/2^k%2) rfl rfl hb.2 (by decide) (by omega) (Nat.and_one_is_mod _) ?_
  refine zh (λh=>zp ?_) (λh=>zq ?_)<;>simp only[zb]at h<;>split at hb<;>try omega
  ·refine zd (m:=((k+1:Nat):Int)) (by omega) (by omega) ?_
   exact⟨k+1,by omega,by omega,zac [] rfl ⟨cr,cr,trivial⟩ trivial⟩
  ·exact zf (congrArg I (by omega))
theorem z7n(n:Int):aG 451 [I n] (.r (I (z58 n))):=by
 refine aT Tryz.func451 rfl ?_
 refine Vcall.bool (zrj n) (λhf=>zu rfl (zq ?_)) (λhf=>zt rfl (zp (zf (by simp[z58,hf,ofC]))))
 have:=zik hf
 exact zd rfl (by omega) (zf (by simp[z58,hf]))
theorem zwl{d:Nat}(h:d<=16):1<=2^d/\2^d<=65536:=⟨zal d,Nat.le_trans (Nat.pow_le_pow_right (by omega) h) (by decide)⟩
theorem zx2(x:Int):0<=zdj x/\zdj x<=32768:=by
 have:=znt x
 unfold zdj
 split
 ·have h1:=zal (lvI x-1).toNat
  have h2:2^(lvI x-1).toNat<=2^15:=Nat.pow_le_pow_right (by omega) (by omega)
  have e:(2:Int)^(lvI x-1).toNat=((2^(lvI x-1).toNat:Nat):Int):=by simp
  omega
 ·omega
theorem z7d(x:Int):aG 422 [I x] (.r (I (zdj x))):=by
 refine aT Tryz.func422 rfl ?_
 refine ze (zs4 x) ?_
 have hb:=znt x
 refine zh (λh=>zp ?_) (λh=>zq ?_)
 ·simp only[zb]at h
  refine zd rfl (by omega) ?_
  have:=zwl (d:=(lvI x-1).toNat) (by omega)
  refine Vshl.nat (.inr rfl) 1 (lvI x-1).toNat _ rfl (by omega) (by omega) (Nat.one_mul _) (by omega) ?_
  exact zf (congrArg I (by unfold zdj;rw[if_pos h];simp))
 ·simp only[zb]at h
  exact zf (congrArg I (by unfold zdj;rw[if_neg h]))
theorem zjgb(x:Int):aG 315 [I x] (.r (I (ze8 x))):=by
 refine aT Tryz.func315 rfl ?_
 refine ze (z7d x) ?_
 have hb:=zx2 x
 refine zh (λh=>zp ?_) (λh=>zq ?_)
 ·simp only[zb]at h
  exact zf (congrArg I (by unfold ze8;rw[if_pos h]))
 ·simp only[zb]at h
  have hx:0<=x/\x<=131070:=by
   rcases hn:zdn x with _ |_
   ·exact absurd (by simp[zdj,zl5 hn]) h
   ·rwa[zdo]at hn
  exact zd rfl (by omega) (zf (congrArg I (by unfold ze8;rw[if_neg h])))
theorem zfxb(x:Int):aG 317 [I x] (.r (I (zd4 x))):=by
 refine aT Tryz.func317 rfl ?_
 refine ze (z7d x) ?_
 have hb:=zx2 x
 refine zh (λh=>zp ?_) (λh=>zq ?_)
 ·simp only[zb]at h
  exact zf (congrArg I (by unfold zd4;rw[if_pos h]))
 ·simp only[zb]at h
  have hx:0<=x/\x<=131070:=by
   rcases hn:zdn x with _ |_
   ·exact absurd (by simp[zdj,zl5 hn]) h
   ·rwa[zdo]at hn
  exact zd rfl (by omega) (zf (congrArg I (by unfold zd4;rw[if_neg h])))
theorem zf1b(x y:Int):aG 272 [I x,I y] (.r (.b (ze1 x y))):=by
 refine aT Tryz.func272 rfl ?_
 refine Vcall.bool (zrk x) (λhx=>zu rfl ?_) (λhx=>zt rfl (zp (zf (by simp[ze1,hx,ofC]))))
 refine Vcall.bool (zrk y) (λhy=>zu rfl (zq ?_)) (λhy=>zt rfl (zp (zf (by simp[ze1,hx,hy,ofC]))))
 refine ze (zs4 y) ?_
 have hl:0<=lvI y:=by rw[zl4 hy];omega
 have hb:=znt y
 have hp:=zwl (d:=(lvI y).toNat) (by omega)
 have hw:zka y=((2^(lvI y).toNat:Nat):Int)-1:=by rw[zd7b];simp
 have hx':=zdo.1 hx
 have hy':=zdo.1 hy
 refine Vshl.nat (.inr rfl) 1 (lvI y).toNat _ rfl (by omega) (by omega) (Nat.one_mul _) (by omega) ?_
 refine zd rfl (by omega) ?_
 refine zd rfl (by omega) ?_
 have fin: ∀b:Bool,(b=true↔y-zka y<=x/\x<=y+zka y)->b=ze1 x y:=λb h=>by
  rw[Bool.eq_iff_iff,z6j,h]
  exact⟨λh=>⟨⟨hx,hy⟩,h⟩,λh=>h.2⟩
 refine zh (λh1=>?_) (λh1=>?_)
 ·refine zd rfl (by omega) ?_
  refine zh (λh2=>?_) (λh2=>?_)
  all_goals simp only[zb]at h1 h2
  all_goals refine zf (congrArg RV.b (fin _ ?_))
  ·exact⟨λ_=>by omega,λ_=>rfl⟩
  ·exact⟨λh=>(by cases h),λ_=>by omega⟩
 ·simp only[zb]at h1
  exact zf (congrArg RV.b (fin _ ⟨λh=>(by cases h),λ_=>by omega⟩))
theorem z9l{x n:Int}(h:ofI x n=true):0<=x/\x<=131070/\1<=n/\n<=65536/\x<=2*n-2:=by
 rw[zin]at h
 have:=zik h.1
 omega
theorem zux{x n:Int}(h:ofI x n=false\/x=n-1):parI x n= -1:=by
 rcases h with h |h<;>simp[parI,h]
theorem zg8b{m d:Nat}(hd:d<=16)(hm:m<=2*2^d-2)(hne:m≠2^d-1):lv m<d:=by
 have h16:2^d<=2^16:=Nat.pow_le_pow_right (by omega) hd
 obtain⟨_,h1,h2⟩:=zgw (x:=m) (by omega)
 have hp:=zal d
 rcases Nat.lt_or_ge (lv m) d with h |h
 ·exact h
 ·exfalso
  have h3:2^d<=2^lv m:=Nat.pow_le_pow_right (by omega) h
  have h4:=Nat.div_add_mod m (2^lv m)
  rw[h1]at h4
  rcases Nat.eq_zero_or_pos (m/2^lv m)with h5 |h5
  ·rw[h5]at h4
   have:2^lv m<2^(d+1):=by rw[Nat.pow_succ];omega
   have:lv m<d+1:=(Nat.pow_lt_pow_iff_right (by omega)).1 this
   have:lv m=d:=by omega
   rw[this]at h4
   omega
  ·have:2^lv m*1<=2^lv m*(m/2^lv m):=Nat.mul_le_mul_left _ h5
   omega
theorem zhpb{m l:Nat}(hm:m<=131070)(hl:l=lv m)(h16:l<16):(m|||2^l)=m+2^l/\(m+2^l)&&&(18446744073709551615-2^(l+1))=upN m:=by
 obtain⟨_,h1,h2⟩:=zgw hm
 rw[<-hl]at h1 h2
 have hp:=zal l
 have hb:2^(l+1)<=2^16:=Nat.pow_le_pow_right (by omega) (by omega)
 have e2:2^(l+1)=2*2^l:=by rw[Nat.pow_succ];omega
 refine⟨z9p h2,?_⟩
 rw[show 18446744073709551615-2^(l+1)=2^64-(2^(l+1)+1)by omega,z6y (by omega) (by omega)]
 have hd:(m+2^l)/2^(l+1)=m/2^(l+1):=by
  have e4:=Nat.div_add_mod m (2^(l+1))
  have e5:m%2^(l+1)=2^l-1:=by
   rw[Nat.pow_succ,Nat.mod_mul,h1,h2];omega
  rw[e5]at e4
  have e6:m+2^l=(2^(l+1)-1)+m/2^(l+1)*2^(l+1):=by rw[Nat.mul_comm (m/2^(l+1))];omega
  rw[e6,Nat.add_mul_div_right _ _ (zal _),Nat.div_eq_of_lt (by omega)]
  omega
 rw[hd]
 unfold upN
 rw[<-hl]
 have hge:m/2^(l+1)%2=1->2^(l+1)<=m:=λh=>by
  rcases Nat.lt_or_ge m (2^(l+1))with h3 |h3
  ·rw[Nat.div_eq_of_lt h3]at h;omega
  ·exact h3
 rcases Nat.mod_two_eq_zero_or_one (m/2^(l+1))with h |h
 ·rw[h];simp
 ·have:=hge h
  rw[h,if_neg (by omega)]
  omega
theorem zp9(x n:Int):aG 387 [I x,I n] (.r (I (parI x n))):=by
 refine aT Tryz.func387 rfl ?_
 refine Vcall.bool (g_of x n) (λho=>zu rfl ?_) (λho=>zt rfl (zp (zf (congrArg I (zux (.inl ho)).symm))))
 obtain⟨b1,b2,b3,b4,b5⟩:=z9l ho
 refine zd rfl (by omega) ?_
 refine zh (λh=>zp ?_) (λh=>zq ?_)
 ·simp only[zb]at h
  exact zf (congrArg I (zux (.inr h)).symm)
 simp only[zb]at h
 refine ze (zs4 x) ?_
 obtain⟨m,rfl⟩:=Int.eq_ofNat_of_zero_le b1
 have hl:lvI (m:Int)=((lv m:Nat):Int):=by rw[zl4 (zdo.2 (by omega)),Int.toNat_natCast]
 obtain⟨d,hd,hn⟩:=zgs (zin.1 ho).1
 have h16:lv m<16:=by have:=zg8b (m:=m) hd (by omega) (by have:=zal d;omega);omega
 obtain⟨e1,e2⟩:=zhpb (m:=m) (by omega) rfl h16
 have hp:=zwl (d:=lv m) (by omega)
 have hp2:2^(lv m+1)=2*2^lv m:=by rw[Nat.pow_succ];omega
 rw[hl]
 refine aV ?_
 refine Vshl.nat (.inr rfl) 1 (lv m) _ rfl rfl (by omega) (Nat.one_mul _) (by omega) ?_
 refine Vbits.nat (.inr rfl) m (2^lv m) (m+2^lv m) rfl rfl (by omega) (by omega) (by omega) e1 ?_
 refine zd (m:=((lv m+1:Nat):Int)) (by omega) (by omega) ?_
 refine Vshl.nat (.inr rfl) 1 (lv m+1) _ rfl rfl (by omega) (Nat.one_mul _) (by omega) ?_
 refine Vbits.nat (.inr rfl) (m+2^lv m) (2^(lv m+1)) (upN m) rfl rfl (by omega) (by omega) (by rw[<-e2];exact Nat.lt_of_le_of_lt Nat.and_le_left (by omega)) e2 ?_
 refine zf (congrArg I ?_)
 unfold parI
 rw[ho,Bool.true_and,if_pos (by rw[decide_eq_true_eq];exact h),Int.toNat_natCast]
theorem z7o(x n:Int):aG 386 [I x,I n] (.r (I (sibI x n))):=by
 refine aT Tryz.func386 rfl ?_
 refine ze (zp9 x n) ?_
 refine zh (λh=>zp ?_) (λh=>zq ?_)
 ·simp only[zb]at h
  exact zf (congrArg I (by unfold sibI;rw[if_pos h]))
 simp only[zb]at h
 refine zh (λh2=>zp ?_) (λh2=>zq ?_)
 ·simp only[zb]at h2
  exact ze (zfxb _) (zf (congrArg I (by unfold sibI;rw[if_neg h,if_pos h2])))
 ·simp only[zb]at h2
  exact ze (zjgb _) (zf (congrArg I (by unfold sibI;rw[if_neg h,if_neg h2])))
theorem zuy{n:Int}: ∀(f:Nat) (x:Int),(zem n f x).length<=f
 |0,x=>by simp[zem]
 |f+1,x=>by
  unfold zem
  split
  ·simp
  ·simp only[List.length_cons];have:=zuy (n:=n) f (parI x n);omega
theorem z9w(x n:Int):(zo1 x n).length<=17:=zuy 17 x
theorem zxa(x n:Int):aG 284 [I x,I n] (ich (zo1 x n)):=by
 refine aT Tryz.func284 rfl ?_
 refine ze (zp9 x n) ?_
 refine zy (λi:List Int×Int=>{F:=[(0, .r (I (parI i.2 n))),(1, .r (I n)),(5, .own 0)],O:=[(0,some (.ch 3 1 i.1.length (i.1.map I) true))],nx:=1}) (λi=>∃f,i.1++zem n f i.2=zo1 x n/\i.1.length+f=17/\(i.1.length:Int)<=lvI i.2+1) (λi=>17-i.1.length) ([],x)
  ⟨17,rfl,rfl,by have:=znt x;show(0:Int)<=lvI x+1;omega⟩ ((zd7 5 3 1 rfl).trans (zac [(0,0)] rfl ⟨cr,cr,rfl,trivial⟩ ⟨⟨rfl,rfl,rfl,rfl,zn _⟩,trivial⟩)) ?_
 rintro⟨l,y⟩ ⟨f,h1,h2,h3⟩
 dsimp only at h1 h2 h3⊢
 refine zh (λh=>zp ?_) (λh=>zq ?_)
 ·simp only[zb]at h
  obtain⟨_,_,h5,h6⟩:=z9u (x:=y) (n:=n) h
  have h7:=znt (parI y n)
  obtain⟨f,rfl⟩: ∃g,f=g+1:=⟨f-1,by omega⟩
  rw[zem,if_neg (by omega)]at h1
  refine zw ?_
  refine Vapp.mk' (j:=(l++[parI y n]).length) (zs:=(l++[parI y n]).map I) (by simp only[maxLen];omega) (by show(l.length+1)*8<=_;omega) (by simp) (by simp[zde,cellsOf]) ?_
  refine ze (zp9 _ n) ?_
  exact⟨(l++[parI y n],parI y n),⟨f,by rw[<-h1];simp,by simp;omega,by simp;omega⟩,by simp;omega,zac [(0,_)] rfl ⟨cr,cr,rfl,trivial⟩ ⟨z3v rfl,trivial⟩⟩
 ·simp only[zb]at h
  have e:zem n f y=[]:=by
   cases f with
   |zero=>rfl
   |succ f=>rw[zem,if_pos (by omega)]
  rw[e,List.append_nil]at h1
  subst h1
  exact rfl
theorem z0g{n y:Int}{k:Nat}{l:List Int}{j:Nat}(h:l.drop j=zem n k y)(hj:j<l.length): ∃k',k=k'+1/\l[j]=parI y n/\0<=parI y n/\l.drop (j+1)=zem n k' (parI y n)/\zfy n k y=sibI y n::zfy n k' (parI y n):=by
 rw[List.drop_eq_getElem_cons hj]at h
 cases k with
 |zero=>cases h
 |succ k=>
  rw[zem]at h
  split at h
  ·cases h
  ·obtain⟨h1,h2⟩:=List.cons.inj h
   exact⟨k,rfl,h1,by omega,h2,by rw[zfy,if_neg (by assumption)]⟩
theorem zw7(x n:Int):aG 283 [I x,I n] (ich (zon x n)):=by
 refine aT Tryz.func283 rfl ?_
 refine ze (zxa x n) ?_
 have hpl:=z9w x n
 obtain⟨p,hp⟩: ∃p,zo1 x n=p:=⟨_,rfl⟩
 rw[hp]at hpl⊢
 refine zy (λi:List Int×Int=>{F:=[(0, .r (I i.2)),(1, .r (I n)),(5, .own 0),(10, .r (is p)),(11, .r (I p.length)),(12, .r (I i.1.length))],O:=[(0,some (.ch 3 1 i.1.length (i.1.map I) true))],nx:=1}) (λi=>i.1.length<=p.length/\∃k,p.drop i.1.length=zem n k i.2/\i.1++zfy n k i.2=zon x n) (λi=>p.length-i.1.length) ([],x)
  ⟨by simp,17,hp.symm,rfl⟩ ((zd7 5 3 1 rfl).trans (zac [(0,1)] rfl ⟨cr,cr,rfl,cr,cr,cr,trivial⟩ ⟨⟨rfl,rfl,rfl,rfl,zn _⟩,trivial⟩)) ?_
 rintro⟨l,y⟩ ⟨h0,k,h1,h2⟩
 dsimp only at h0 h1 h2⊢
 refine zh (λh=>zp ?_) (λh=>zq ?_)
 ·simp only[zb]at h
  have hj:l.length<p.length:=by omega
  obtain⟨k',rfl,e1,e2,e3,e4⟩:=z0g h1 hj
  refine zm (by omega) (by omega) (za3 rfl hj) (zg rfl ?_)
  refine ze (z7o y n) ?_
  refine zw ?_
  refine Vapp.mk' (j:=(l++[sibI y n]).length) (zs:=(l++[sibI y n]).map I) (by simp only[maxLen];omega) (by show(l.length+1)*8<=_;omega) (by simp) (by simp[zde,cellsOf]) ?_
  refine zd (m:=(((l++[sibI y n]).length:Nat):Int)) (by simp) (by omega) ?_
  exact⟨(l++[sibI y n],p[l.length]),⟨by simp;omega,k',by rw[e1];simpa using e3,by rw[e1,<-h2,e4];simp⟩,by simp;omega,zac [(0,_)] rfl ⟨cr,cr,rfl,cr,cr,cr,trivial⟩ ⟨z3v rfl,trivial⟩⟩
 ·simp only[zb]at h
  rw[List.drop_eq_nil_of_le (by omega)]at h1
  have e:zfy n k y=[]:=by
   cases k with
   |zero=>rfl
   |succ k=>
    rw[zem]at h1
    split at h1
    ·rw[zfy,if_pos (by assumption)]
    ·cases h1
  rw[e,List.append_nil]at h2
  subst h2
  exact rfl
def zcz(x n:Int):D3:=((zc5 x n).getLast?).getD ⟨0,0,0⟩
theorem zm4(x:Int): ∀(f:Nat) (a b:Int),(zf9 x f a b).length<=f
 |0,a,b=>Nat.le_refl _
 |f+1,a,b=>by
  unfold zf9
  simp only[List.length_cons]
  have h1:=zm4 x f a ((a+b)/2-1)
  have h2:=zm4 x f ((a+b)/2+1) b
  split
  ·simp
  ·split<;>omega
theorem z61(x n:Int):(zc5 x n).length<=17:=by
 unfold zc5
 split
 ·exact zm4 _ _ _ _
 ·simp
theorem z62{x n:Int}:0< (zc5 x n).length↔ofI x n=true:=by
 unfold zc5
 split
 ·rename_i h;exact⟨λ_=>h,λ_=>by unfold zf9;exact Nat.succ_pos _⟩
 ·rename_i h;simp[h]
theorem zqf{x n:Int}(ho:ofI x n=true): ∃d h k,d<=16/\h<=d/\k<2^(d-h)/\n=((2^d:Nat):Int)/\x=(nd h k:Int)/\zcz x n=trip h k:=by
 obtain⟨d,h,k,hd,hh,hk,rfl,rfl,_,hl⟩:=z65 ho
 exact⟨d,h,k,hd,hh,hk,rfl,rfl,by unfold zcz;rw[hl];rfl⟩
theorem zrx{x n:Int}(ho:ofI x n=false):zcz x n=⟨0,0,0⟩:=by unfold zcz;rw[zlm ho];rfl
theorem zc2b{x n:Int}:0<=(zcz x n).lo/\(zcz x n).lo<=131070/\0<=(zcz x n).hi/\(zcz x n).hi<=131070/\(zcz x n).lo<=(zcz x n).hi:=by
 rcases ho:ofI x n with _ |_
 ·rw[zrx ho];simp
 ·obtain⟨d,h,k,hd,hh,hk,rfl,rfl,hl⟩:=zqf ho
  rw[hl]
  have hp:=zal h
  have e2:2^(h+1)=2*2^h:=by rw[Nat.pow_succ];omega
  have h1:(k+1)*2^(h+1)<=2^(d+1):=by
   have:=Nat.mul_le_mul_right (2^(h+1)) (show k+1<=2^(d-h)from hk)
   rw[<-Nat.pow_add,show d-h+(h+1)=d+1 by omega]at this
   exact this
  have h2:2^(d+1)<=2^17:=Nat.pow_le_pow_right (by omega) (by omega)
  rw[Nat.add_mul]at h1
  simp only[trip,e2]at*
  generalize k*(2*2^h)=q at*
  omega
theorem z83{x n:Int}(ho:ofI x n=true)(h:(zcz x n).lo≠(zcz x n).hi):1<=x:=by
 obtain⟨d,g,k,hd,hh,hk,rfl,rfl,hl⟩:=zqf ho
 rw[hl]at h
 rcases Nat.eq_zero_or_pos g with rfl |hg
 ·simp[trip]at h
 ·have:2^1<=2^g:=Nat.pow_le_pow_right (by omega) hg
  unfold nd
  omega
abbrev d3r(t:D3):List RV:=[I t.at_,I t.lo,I t.hi]
def ds(l:List D3):RV:= .sl 3 l.length (l.flatMap d3r)
theorem zm7b{l:List D3}{i:Int}{j:Nat}(h:i=j)(hj:j<l.length):((l.flatMap d3r).drop (i.toNat*3)).take 3=d3r l[j]:=zi6 (sz:=3) (λ_=>rfl) h hj
theorem zbgb(n:Int):aG 493 [I n] (.r (.b (zd9 n))):=by
 refine aT Tryz.func493 rfl ?_
 refine zy (λj:Nat=>{F:=[(0, .r (I n)),(3, .r (I ((2^j:Nat):Int)))],O:=[],nx:=0}) (λj=>j<=17/\∀i,i<j->n≠((2^i:Nat):Int)) (λj=>17-j) 0 ⟨by omega,by omega⟩ (zac [] rfl ⟨cr,cr,trivial⟩ trivial) ?_
 rintro j ⟨hj,hn⟩
 have hp:=zal j
 have e2:2^(j+1)=2*2^j:=by rw[Nat.pow_succ];omega
 have hpj:2^j<=2^17:=Nat.pow_le_pow_right (by omega) hj
 refine zh (λh=>zp ?_) (λh=>zq ?_)
 ·simp only[zb]at h
  have hj':j<17:=by
   rcases Nat.lt_or_ge j 17 with h' |h'
   ·exact h'
   ·obtain rfl:j=17:=by omega
    omega
  refine zh (λh2=>zp ?_) (λh2=>zq ?_)
  ·simp only[zb]at h2
   exact zf (congrArg RV.b (by rw[<-h2,zqq j (by omega)]))
  ·simp only[zb]at h2
   refine zd (m:=((2^(j+1):Nat):Int)) (by omega) (by omega) ?_
   refine⟨j+1,⟨by omega,λi hi=>?_⟩,by omega,zac [] rfl ⟨cr,cr,trivial⟩ trivial⟩
   rcases Nat.lt_or_ge i j with h3 |h3
   ·exact hn i h3
   ·obtain rfl:i=j:=by omega
    exactλe=>h2 e.symm
 ·simp only[zb]at h
  refine zf (congrArg RV.b (Eq.symm (Bool.eq_false_iff.2 λhf=>?_)))
  obtain⟨d,hd,e⟩:=zgs hf
  rcases Nat.lt_or_ge d j with h3 |h3
  ·exact hn d h3 e
  ·have:=Nat.pow_le_pow_right (n:=2) (by omega) h3
   have:=(zwl hd).2
   omega
theorem zjeb(x n:Int):aG 431 [I x,I n] (.r (ds (zc5 x n))):=by
 refine aT Tryz.func431 rfl ?_
 have out:ofI x n=false->Cv (.x (.slice none 0 0)) (ds (zc5 x n)):=λho=>by rw[zlm ho];exact Cv.nil 3
 refine Vcall.bool (zbgb n) (λhf=>zu rfl ?_) (λhf=>zt rfl (zp (out (by simp[ofI,hf]))))
 have hb:=zik hf
 refine zh (λh=>zp ?_) (λh=>?_)
 ·simp only[zb]at h
  exact out (by simp[ofI,hf];omega)
 simp only[zb]at h
 refine zd rfl (by omega) (zd rfl (by omega) ?_)
 refine zh (λh2=>zp ?_) (λh2=>zq ?_)
 ·simp only[zb]at h2
  exact out (by simp[ofI,hf];omega)
 simp only[zb]at h2
 refine zd rfl (by omega) (zd rfl (by omega) ?_)
 have ho:ofI x n=true:=zin.2 ⟨hf,by omega,by omega⟩
 refine zy (λi:List D3×Nat×Int×Int=>{F:=[(0, .r (I x)),(5, .r (I i.2.2.1)),(6, .r (I i.2.2.2)),(7, .own 0)],O:=[(0,some (.ch 403 3 i.1.length (i.1.flatMap d3r) true))],nx:=1})
  (λi=>zc5 x n=i.1++zf9 x i.2.1 i.2.2.1 i.2.2.2/\i.1.length+i.2.1<=17/\0<=i.2.2.1/\i.2.2.1<=x/\x<=i.2.2.2/\i.2.2.2<=131070/\i.2.2.2-i.2.2.1+2<=((2^i.2.1:Nat):Int)) (λi=>i.2.1) ([],17,0,2*n-2)
  ⟨by simp[zc5,ho],by simp,by simp,by dsimp only;omega,by dsimp only;omega,by dsimp only;omega,by dsimp only;omega⟩ ((zd7 7 403 3 rfl).trans (zac [(0,0)] rfl ⟨cr,cr,cr,rfl,trivial⟩ ⟨⟨rfl,rfl,rfl,rfl,zn _⟩,trivial⟩)) ?_
 rintro⟨l,f,a,b⟩ ⟨e1,e2,e3,e4,e5,e6,e7⟩
 dsimp only at e1 e2 e3 e4 e5 e6 e7⊢
 obtain⟨f,rfl⟩: ∃g,f=g+1:=⟨f-1,by
  rcases Nat.eq_zero_or_pos f with h |h
  ·subst h;omega
  ·omega⟩
 have e8:2^(f+1)=2*2^f:=by rw[Nat.pow_succ];omega
 rw[zf9]at e1
 refine zd rfl (by omega) ?_
 refine⟨by decide,(a+b)/2,by rw[Int.tdiv_eq_ediv_of_nonneg (by omega)];exact wrap_i64 (by omega),?_⟩
 refine zw ?_
 refine Vapp.mk' (j:=(l++[(⟨(a+b)/2,a,b⟩:D3)]).length) (zs:=(l++[(⟨(a+b)/2,a,b⟩:D3)]).flatMap d3r) (by simp only[maxLen];omega) (by show(l.length+1)*24<=_;omega) (by simp) (by rw[List.flatMap_append];rfl) ?_
 refine zh (λh3=>zp ?_) (λh3=>zq ?_)
 ·simp only[zb]at h3
  rw[if_pos h3]at e1
  rw[e1]
  exact cr
 simp only[zb]at h3
 rw[if_neg h3]at e1
 refine zh (λh4=>zp ?_) (λh4=>zq ?_)
 ·simp only[zb]at h4
  rw[if_pos h4]at e1
  refine zd rfl (by omega) ?_
  exact⟨(l++[⟨(a+b)/2,a,b⟩],f,a,(a+b)/2-1),⟨by rw[e1];simp,by simp;omega,by dsimp only;omega,by dsimp only;omega,by dsimp only;omega,by dsimp only;omega,by dsimp only;omega⟩,by dsimp only;omega,zac [(0,_)] rfl ⟨cr,cr,cr,rfl,trivial⟩ ⟨⟨rfl,rfl,rfl,rfl,zn _⟩,trivial⟩⟩
 ·simp only[zb]at h4
  rw[if_neg h4]at e1
  refine zd rfl (by omega) ?_
  exact⟨(l++[⟨(a+b)/2,a,b⟩],f,(a+b)/2+1,b),⟨by rw[e1];simp,by simp;omega,by dsimp only;omega,by dsimp only;omega,by dsimp only;omega,by dsimp only;omega,by dsimp only;omega⟩,by dsimp only;omega,zac [(0,_)] rfl ⟨cr,cr,cr,rfl,trivial⟩ ⟨⟨rfl,rfl,rfl,rfl,zn _⟩,trivial⟩⟩
theorem zbjb(x n:Int):aG 341 [I x,I n] (.r (.tu [.ag (d3r (zcz x n)), .b (ofI x n)])):=by
 refine aT Tryz.func341 rfl ?_
 refine ze (zjeb x n) ?_
 have hlen:=z61 x n
 have hpos:=z62 (x:=x) (n:=n)
 cases ho:ofI x n with
 |false=>
  have e:=zlm ho
  rw[e,zrx ho]
  exact zt rfl (zp (za rfl rfl ⟨_,rfl,cr⟩))
 |true=>
  have h0:=hpos.2 ho
  refine zu (by simp only[zb];omega) (zq ?_)
  refine zd (m:=(((zc5 x n).length-1:Nat):Int)) (by omega) (by omega) ?_
  refine zm (by omega) (by omega) (zm7b rfl (show(zc5 x n).length-1<_ by omega)) ?_
  have e:(zc5 x n)[(zc5 x n).length-1]=zcz x n:=by
   unfold zcz
   rw[List.getLast?_eq_getElem?,List.getElem?_eq_getElem (by omega)]
   rfl
  rw[e]
  refine za rfl rfl ?_
  exact za rfl rfl ⟨_,rfl,cr⟩
theorem z5o{x:Int}(ho:ofI x 65536=true):(if(zcz x 65536).lo=(zcz x 65536).hi then((-1:Int),(-1:Int))else(((zcz x 65536).lo+x-1)/2,(x+1+(zcz x 65536).hi)/2))=(ze8 x,zd4 x):=by
 obtain⟨d,h,k,hd,hh,hk,_,e,hl⟩:=zqf ho
 rw[hl,e]
 exact zvi hd hh hk
theorem z5e{x:Int}(h:zdn x=false):zdj x=0:=by simp[zdj,zl5 h]
theorem zw6(x:Int):aG 235 [I x] (.r (.tu [I (ze8 x),I (zd4 x)])):=by
 refine aT Tryz.func235 rfl ?_
 obtain⟨b1,b2,b3,b4,b5⟩:=zc2b (x:=x) (n:=65536)
 refine ze (zbjb x 65536) ?_
 cases ho:ofI x 65536 with
 |false=>
  have h0:zdj x=0:=z5e (by rw[zdbb];exact ho)
  refine zt rfl (zp ⟨_,rfl,zf ?_⟩)
  simp[ze8,zd4,h0,ofC]
 |true=>
  have hx:=z9l ho
  have hc:=z5o ho
  have h1:=z83 ho
  generalize zcz x 65536=T at*
  refine zu rfl ?_
  refine zh (λh=>zp ?_) (λh=>zq ?_)
  ·simp only[zb]at h
   rw[if_pos h]at hc
   injection hc with e1 e2
   exact⟨_,rfl,zf (by rw[<-e1,<-e2];rfl)⟩
  ·simp only[zb]at h
   have h2:=h1 h
   rw[if_neg h]at hc
   injection hc with e1 e2
   refine aV ?_
   refine zd rfl (by omega) (zd rfl (by omega) ?_)
   refine⟨by decide,ze8 x,by rw[<-e1,Int.tdiv_eq_ediv_of_nonneg (by omega)];exact wrap_i64 (by omega),?_⟩
   refine zd rfl (by omega) (zd rfl (by omega) ?_)
   refine⟨by decide,zd4 x,by rw[<-e2,Int.tdiv_eq_ediv_of_nonneg (by omega)];exact wrap_i64 (by omega),?_⟩
   exact⟨_,rfl,cr⟩
theorem zbpb(l m:List Int)(hl: ∀x∈l,i64 x)(hm: ∀x∈m,i64 x):aG 242 [is l,is m] (.r (.b (decide (l=m)))):=by
 refine zne (zdt Tryz.func242 rfl (by kernel_rfl)) λhml=>?_
 refine aT Tryz.func242 rfl ?_
 refine zh (λh=>zp ?_) (λh=>zq ?_)
 ·simp only[zb]at h
  exact zf (congrArg RV.b (Eq.symm (decide_eq_false λe=>h (by rw[e]))))
 simp only[zb]at h
 refine zy (λi:Nat=>⟨[(0, .r (is l)),(1, .r (is m)),(5, .r (I i))],[],0⟩) (λi=>i<=l.length/\l.take i=m.take i) (λi=>l.length-i) 0 ⟨by omega,by simp⟩ (zac [] rfl ⟨cr,cr,cr,trivial⟩ trivial) ?_
 rintro i ⟨hi,he⟩
 refine zh (λh3=>zp ?_) (λh3=>zq ?_)
 ·simp only[zb]at h3
  have h1:i<l.length:=by omega
  have h2:i<m.length:=by omega
  refine aV ?_
  refine zm (by omega) (by omega) (za3 rfl h1) (zg rfl ?_)
  refine zm (by omega) (by omega) (za3 rfl h2) (zg rfl ?_)
  refine zh (λh4=>zp ?_) (λh4=>zq ?_)
  ·simp only[zb]at h4
   refine zf (congrArg RV.b (Eq.symm (decide_eq_false λe=>?_)))
   subst e;exact h4 rfl
  ·simp only[zb]at h4
   refine zd (m:=((i+1:Nat):Int)) (by omega) (by omega) ?_
   refine⟨i+1,⟨h1,?_⟩,by omega,zac [] rfl ⟨cr,cr,cr,trivial⟩ trivial⟩
   rw[List.take_succ_eq_append_getElem h1,List.take_succ_eq_append_getElem h2,he,h4]
 ·simp only[zb]at h3
  refine zf (congrArg RV.b (Eq.symm ?_))
  rw[decide_eq_true_eq,<-List.take_of_length_le (show l.length<=i by omega),he,List.take_of_length_le (by omega)]
end Go.Proofs.YtkegaaonpekkgaaGreat.Sx

namespace Go.Proofs.YtkegaaonpekkgaaGreat
def beB:Nat->Nat->List UInt8
 |0,_=>[]
 |s+1,n=>UInt8.ofNat (n/256^s)::beB s n
theorem zak: ∀(s n:Nat),(beB s n).length=s
 |0,_=>rfl
 |s+1,n=>by rw[beB,List.length_cons,zak s n]
def lenB(n:Nat):List UInt8:=if n<64 then beB 1 n else if n<16384 then beB 2 (16384+n)else beB 4 (2147483648+n)
def zc6(n:Nat):Nat:=if n<64 then 1 else if n<16384 then 2 else 4
theorem zqh(n:Nat):(lenB n).length=zc6 n:=by
 unfold lenB zc6
 split
 ·exact zak _ _
 ·split<;>exact zak _ _
theorem zja(n:Nat):1<=zc6 n/\zc6 n<=4:=by unfold zc6;split<;>(try split)<;>omega
def vecB(v:List UInt8):List UInt8:=lenB v.length++v
theorem zqz(v:List UInt8):(vecB v).length=zc6 v.length+v.length:=by rw[vecB,List.length_append,zqh]
theorem zag(v:List UInt8):(vecB v).length<=v.length+4:=by rw[zqz];have:=zja v.length;omega
theorem z90(i:Nat):2^(8*i)=256^i:=by rw[Nat.pow_mul]
end Go.Proofs.YtkegaaonpekkgaaGreat
