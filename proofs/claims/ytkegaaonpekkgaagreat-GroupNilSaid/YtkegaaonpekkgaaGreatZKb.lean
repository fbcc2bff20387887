import Derived.Test.YtkegaaonpekkgaaGreatZGeoB
namespace Go.Proofs.YtkegaaonpekkgaaGreat.Sx
open Go.RowKit
theorem z89(n:Nat)(hn:n<=65536):aG 498 [.i .u64 n] (.r (I (zuw n))):=by
 refine aT Tryz.func498 rfl ?_
 obtain⟨a0,ha0,l0⟩: ∃a,(n/2&&&6148914691236517205)=a/\a<=65536:=⟨_,rfl,Nat.le_trans Nat.and_le_left (by omega)⟩
 obtain⟨a1,ha1,l1⟩: ∃a,(n&&&6148914691236517205)=a/\a<=65536:=⟨_,rfl,Nat.le_trans Nat.and_le_left (by omega)⟩
 obtain⟨b0,hb0,m0⟩: ∃a,((a0+a1)/4&&&3689348814741910323)=a/\a<=131072:=⟨_,rfl,Nat.le_trans Nat.and_le_left (by omega)⟩
 obtain⟨b1,hb1,m1⟩: ∃a,(a0+a1&&&3689348814741910323)=a/\a<=131072:=⟨_,rfl,Nat.le_trans Nat.and_le_left (by omega)⟩
 obtain⟨c0,hc0,p0⟩: ∃a,((b0+b1)/16+(b0+b1)&&&1085102592571150095)=a/\a<=1048576:=⟨_,rfl,Nat.le_trans Nat.and_le_left (by omega)⟩
 refine Vshr.nat (.inl rfl) n 1 (n/2) rfl rfl (by decide) rfl ?_
 refine Vbits.nat (.inl rfl) (n/2) 6148914691236517205 a0 rfl rfl (by omega) (by decide) (by omega) ha0 ?_
 refine Vbits.nat (.inl rfl) n 6148914691236517205 a1 rfl rfl (by omega) (by decide) (by omega) ha1 ?_
 refine Vint.nat (.inl rfl) (a0+a1) (by omega) (by omega) ?_
 refine Vshr.nat (.inl rfl) (a0+a1) 2 ((a0+a1)/4) rfl rfl (by decide) rfl ?_
 refine Vbits.nat (.inl rfl) ((a0+a1)/4) 3689348814741910323 b0 rfl rfl (by omega) (by decide) (by omega) hb0 ?_
 refine Vbits.nat (.inl rfl) (a0+a1) 3689348814741910323 b1 rfl rfl (by omega) (by decide) (by omega) hb1 ?_
 refine Vint.nat (.inl rfl) (b0+b1) (by omega) (by omega) ?_
 refine Vshr.nat (.inl rfl) (b0+b1) 4 ((b0+b1)/16) rfl rfl (by decide) rfl ?_
 refine Vint.nat (.inl rfl) ((b0+b1)/16+(b0+b1)) (by omega) (by omega) ?_
 refine Vbits.nat (.inl rfl) ((b0+b1)/16+(b0+b1)) 1085102592571150095 c0 rfl rfl (by omega) (by decide) (by omega) hc0 ?_
 refine Vshr.nat (.inl rfl) c0 8 (c0/256) rfl rfl (by decide) rfl ?_
 refine Vint.nat (.inl rfl) (c0+c0/256) (by omega) (by omega) ?_
 obtain⟨d,hd⟩: ∃d,c0+c0/256=d:=⟨_,rfl⟩
 rw[hd]
 refine Vshr.nat (.inl rfl) d 16 (d/65536) rfl rfl (by decide) rfl ?_
 refine Vint.nat (.inl rfl) (d+d/65536) (by omega) (by omega) ?_
 obtain⟨e,he⟩: ∃e,d+d/65536=e:=⟨_,rfl⟩
 rw[he]
 refine Vshr.nat (.inl rfl) e 32 (e/4294967296) rfl rfl (by decide) rfl ?_
 refine Vint.nat (.inl rfl) (e+e/4294967296) (by omega) (by omega) ?_
 refine Vint.nat (.inr rfl) (e+e/4294967296) rfl (by omega) ?_
 refine Vbits.nat (.inr rfl) (e+e/4294967296) 127 _ rfl rfl (by omega) (by decide) (Nat.lt_of_le_of_lt Nat.and_le_left (by omega:e+e/4294967296<_)) rfl ?_
 subst he hd hc0 hb0 hb1 ha0 ha1
 exact cr
theorem zgnb(n:Nat)(hn:n<=65536):aG 440 [.i .u64 n] (.r (I (zuw n))):=by
 refine aT Tryz.func440 rfl ?_
 refine zq ?_
 exact ze (z89 n hn) (cr)
theorem zvh{n:Int}(h: ¬(1<=n/\n<=65536)):zeo n=false:=by
 rcases hf:zeo n with _ |_
 ·rfl
 ·exact absurd (zjr hf) h
theorem zqa(n:Int):aG 357 [I n] (.r (.b (zeo n))):=by
 refine aT Tryz.func357 rfl ?_
 refine zh (λh1=>?_) (λh1=>?_)
 ·refine zh (λh2=>?_) (λh2=>?_)
  ·simp only[zb]at h1 h2
   obtain⟨m,rfl⟩:=Int.eq_ofNat_of_zero_le (show 0<=n by omega)
   have h:=zaqb (n:=m) (by omega) (by omega)
   refine Vint.nat (.inl rfl) m rfl (by omega) ?_
   refine ze (zgnb m (by omega)) ?_
   refine zh (λh3=>?_) (λh3=>?_)
   ·simp only[zb]at h3
    exact zf (congrArg RV.b (Eq.symm (h.1 (by omega))))
   ·simp only[zb]at h3
    exact zf (congrArg RV.b (Eq.symm (Bool.eq_false_iff.2 λh4=>h3 (by rw[h.2 h4];rfl))))
  ·simp only[zb]at h2
   exact zf (congrArg RV.b (Eq.symm (zvh (by omega))))
 ·simp only[zb]at h1
  exact zf (congrArg RV.b (Eq.symm (zvh (by omega))))
theorem zqb(x:Int):aG 370 [I x] (.r (.b (zdv x))):=by
 refine aT Tryz.func370 rfl ?_
 (repeat' (first|refine zh (λh=>?_) (λh=>?_)|refine zf ?_|refine zp ?_|refine zq ?_))
 all_goals refine congrArg RV.b (Eq.symm ?_)
 all_goals simp only[zdv,Bool.and_eq_true,Bool.and_eq_false_iff,zb]at*
 all_goals omega
theorem g_of(x n:Int):aG 291 [I x,I n] (.r (.b (ofI x n))):=by
 refine aT Tryz.func291 rfl ?_
 refine Vcall.bool (zqa n) (λhf=>?_) (λhf=>zf (by simp[ofI,hf,ofC]))
 have hb:=zjr hf
 refine zh (λh1=>?_) (λh1=>?_)
 ·refine zd rfl (by omega) (zd rfl (by omega) ?_)
  refine zh (λh2=>?_) (λh2=>?_)
  all_goals refine zf (congrArg RV.b (Eq.symm ?_))
  all_goals simp only[zb]at h1 h2
  all_goals simp[ofI,hf]
  all_goals omega
 ·simp only[zb]at h1
  refine zf (congrArg RV.b (Eq.symm ?_))
  simp[ofI,hf]
  omega
theorem zhrb{m k:Nat}(hm:m<=131070)(hk:k<=lv m):m/2^k%2=if k<lv m then 1 else 0:=by
 obtain⟨h1,h2,h0⟩:=zgb hm
 generalize lv m=l at*
 rcases Nat.lt_or_ge k l with hk' |hk'
 ·rw[if_pos hk']
  obtain⟨j,rfl⟩: ∃j,l=k+(j+1):=⟨l-k-1,by omega⟩
  have h3:m%2^(k+(j+1))/2^k%2=m/2^k%2:=by
   rw[Nat.pow_add,Nat.mod_mul_right_div_self,Nat.pow_succ,Nat.mul_comm,Nat.mod_mul_right_mod]
  have hp:=zaz k
  have hj:=zaz j
  have e1:2^(k+(j+1))-1=2^k*(2*2^j-1)+(2^k-1):=by
   rw[Nat.pow_add,Nat.pow_succ,Nat.mul_comm (2^j) 2,Nat.mul_sub,Nat.mul_one]
   have:2^k*1<=2^k*(2*2^j):=Nat.mul_le_mul_left _ (by omega)
   omega
  rw[<-h3,h2,e1,Nat.mul_add_div hp,Nat.div_eq_of_lt (by omega)]
  omega
 ·obtain rfl:k=l:=by omega
  rw[if_neg (by omega)];exact h0
theorem zru(x:Int):aG 371 [I x] (.r (I (lvI x))):=by
 refine aT Tryz.func371 rfl ?_
 cases hx:zdv x with
 |false=>
  refine Vcode.scope mixed Tab_ok 0 (λk:Nat=>{F:=[],O:=[],nx:=0}) (λ_=>False) (λ_=>0) rfl ?_ λ_ h=>h.elim
  refine ze (zqb x) ?_
  rw[hx]
  exact zt rfl (zp (zf (congrArg I (zo9 hx).symm)))
 |true=>
 have hl:=zla hx
 have hg:=zqb x
 rw[hx]at hg
 rw[zdr]at hx
 obtain⟨m,rfl⟩:=Int.eq_ofNat_of_zero_le hx.1
 rw[Int.toNat_natCast]at hl
 have hm:m<=131070:=by omega
 have h16:=(zgb hm).1
 have hb: ∀k,k<=lv m->m/2^k%2=(if k<lv m then 1 else 0)/\m/2^k<9223372036854775808:=λk hk=>⟨zhrb hm hk,Nat.lt_of_le_of_lt (Nat.div_le_self _ _) (by omega)⟩
 rw[hl]
 refine Vcode.scope mixed Tab_ok 0 (λk:Nat=>{F:=[(0, .r (I m)),(3, .r (I k))],O:=[],nx:=0}) (λk=>k<=lv m) (λk=>lv m-k) rfl ?_ ?_
 ·refine ze hg (zu rfl (zq ?_))
  have hb:=hb 0 (by omega)
  refine Vshr.nat (.inr rfl) m 0 (m/2^0) rfl rfl (by omega) rfl ?_
  refine Vbits.nat (.inr rfl) (m/2^0) 1 (m/2^0%2) rfl rfl hb.2 (by decide) (by omega) (Nat.and_one_is_mod _) ?_
  refine zh (λh=>zp ?_) (λh=>zq ?_)<;>simp only[zb]at h<;>split at hb<;>try omega
  ·refine zd (m:=((1:Nat):Int)) rfl (by omega) ?_
   exact⟨1,by omega,zad [] rfl ⟨cr,cr,trivial⟩ trivial⟩
  ·exact zf (congrArg I (by omega))
 ·intro k hk
  have hb:=hb k hk
  refine Vshr.nat (.inr rfl) m k (m/2^k) rfl rfl (by omega) rfl ?_
  refine Vbits.nat (.inr rfl) (m/2^k) 1 (m/2^k%2) rfl rfl hb.2 (by decide) (by omega) (Nat.and_one_is_mod _) ?_
  refine zh (λh=>zp ?_) (λh=>zq ?_)<;>simp only[zb]at h<;>split at hb<;>try omega
  ·refine zd (m:=((k+1:Nat):Int)) (by omega) (by omega) ?_
   exact⟨k+1,by omega,by omega,zad [] rfl ⟨cr,cr,trivial⟩ trivial⟩
  ·exact zf (congrArg I (by omega))
theorem z5i(n:Int):aG 451 [I n] (.r (I (z37 n))):=by
 refine aT Tryz.func451 rfl ?_
 refine Vcall.bool (zqa n) (λhf=>zu rfl (zq ?_)) (λhf=>zt rfl (zp (zf (by simp[z37,hf,ofC]))))
 have:=zjr hf
 exact zd rfl (by omega) (zf (by simp[z37,hf]))
theorem z30{d:Nat}(h:d<=16):1<=2^d/\2^d<=65536:=⟨zaz d,Nat.le_trans (Nat.pow_le_pow_right (by omega) h) (by decide)⟩
theorem zwj(x:Int):0<=zfa x/\zfa x<=32768:=by
 have:=zmt x
 unfold zfa
 split
 ·have h1:=zaz (lvI x-1).toNat
  have h2:2^(lvI x-1).toNat<=2^15:=Nat.pow_le_pow_right (by omega) (by omega)
  have e:(2:Int)^(lvI x-1).toNat=((2^(lvI x-1).toNat:Nat):Int):=by simp
  omega
 ·omega
theorem z48(x:Int):aG 422 [I x] (.r (I (zfa x))):=by
 refine aT Tryz.func422 rfl ?_
 refine ze (zru x) ?_
 have hb:=zmt x
 refine zh (λh=>zp ?_) (λh=>zq ?_)
 ·simp only[zb]at h
  refine zd rfl (by omega) ?_
  have:=z30 (d:=(lvI x-1).toNat) (by omega)
  refine Vshl.nat (.inr rfl) 1 (lvI x-1).toNat _ rfl (by omega) (by omega) (Nat.one_mul _) (by omega) ?_
  exact zf (congrArg I (by unfold zfa;rw[if_pos h];simp))
 ·simp only[zb]at h
  exact zf (congrArg I (by unfold zfa;rw[if_neg h]))
theorem zgmb(x:Int):aG 315 [I x] (.r (I (zus x))):=by
 refine aT Tryz.func315 rfl ?_
 refine ze (z48 x) ?_
 have hb:=zwj x
 refine zh (λh=>zp ?_) (λh=>zq ?_)
 ·simp only[zb]at h
  exact zf (congrArg I (by unfold zus;rw[if_pos h]))
 ·simp only[zb]at h
  have hx:0<=x/\x<=131070:=by
   rcases hn:zdv x with _ |_
   ·exact absurd (by simp[zfa,zo9 hn]) h
   ·rwa[zdr]at hn
  exact zd rfl (by omega) (zf (congrArg I (by unfold zus;rw[if_neg h])))
theorem zc7b(x:Int):aG 317 [I x] (.r (I (zq3 x))):=by
 refine aT Tryz.func317 rfl ?_
 refine ze (z48 x) ?_
 have hb:=zwj x
 refine zh (λh=>zp ?_) (λh=>zq ?_)
 ·simp only[zb]at h
  exact zf (congrArg I (by unfold zq3;rw[if_pos h]))
 ·simp only[zb]at h
  have hx:0<=x/\x<=131070:=by
   rcases hn:zdv x with _ |_
   ·exact absurd (by simp[zfa,zo9 hn]) h
   ·rwa[zdr]at hn
  exact zd rfl (by omega) (zf (congrArg I (by unfold zq3;rw[if_neg h])))
theorem zdab(x y:Int):aG 272 [I x,I y] (.r (.b (zem x y))):=by
 refine aT Tryz.func272 rfl ?_
 refine Vcall.bool (zqb x) (λhx=>zu rfl ?_) (λhx=>zt rfl (zp (zf (by simp[zem,hx,ofC]))))
 refine Vcall.bool (zqb y) (λhy=>zu rfl (zq ?_)) (λhy=>zt rfl (zp (zf (by simp[zem,hx,hy,ofC]))))
 refine ze (zru y) ?_
 have hl:0<=lvI y:=by rw[zla hy];omega
 have hb:=zmt y
 have hp:=z30 (d:=(lvI y).toNat) (by omega)
 have hw:zjg y=((2^(lvI y).toNat:Nat):Int)-1:=by rw[zbhb];simp
 have hx':=zdr.1 hx
 have hy':=zdr.1 hy
 refine Vshl.nat (.inr rfl) 1 (lvI y).toNat _ rfl (by omega) (by omega) (Nat.one_mul _) (by omega) ?_
 refine zd rfl (by omega) ?_
 refine zd rfl (by omega) ?_
 have fin: ∀b:Bool,(b=true↔y-zjg y<=x/\x<=y+zjg y)->b=zem x y:=λb h=>by
  rw[Bool.eq_iff_iff,z4h,h]
  exact⟨λh=>⟨⟨hx,hy⟩,h⟩,λh=>h.2⟩
 refine zh (λh1=>?_) (λh1=>?_)
 ·refine zd rfl (by omega) ?_
  refine zh (λh2=>?_) (λh2=>?_)
  all_goals simp only[zb]at h1 h2
  all_goals refine zf (congrArg RV.b (fin _ ?_))
  ·exact⟨λ_=>by omega,λ_=>rfl⟩
  ·exact⟨λh=>(by cases h),λ_=>by omega⟩
 ·simp only[zb]at h1
  exact zf (congrArg RV.b (fin _ ⟨λh=>(by cases h),λ_=>by omega⟩))
theorem zh6b{x n:Int}(h:ofI x n=true):0<=x/\x<=131070/\1<=n/\n<=65536/\x<=2*n-2:=by
 rw[znx]at h
 have:=zjr h.1
 omega
theorem ztj{x n:Int}(h:ofI x n=false\/x=n-1):parI x n= -1:=by
 rcases h with h |h<;>simp[parI,h]
theorem zekb{m d:Nat}(hd:d<=16)(hm:m<=2*2^d-2)(hne:m≠2^d-1):lv m<d:=by
 have h16:2^d<=2^16:=Nat.pow_le_pow_right (by omega) hd
 obtain⟨_,h1,h2⟩:=zgb (x:=m) (by omega)
 have hp:=zaz d
 rcases Nat.lt_or_ge (lv m) d with h |h
 ·exact h
 ·exfalso
  have h3:2^d<=2^lv m:=Nat.pow_le_pow_right (by omega) h
  have h4:=Nat.div_add_mod m (2^lv m)
  rw[h1]at h4
  rcases Nat.eq_zero_or_pos (m/2^lv m)with h5 |h5
  ·rw[h5]at h4
   have:2^lv m<2^(d+1):=by rw[Nat.pow_succ];omega
   have:lv m<d+1:=(Nat.pow_lt_pow_iff_right (by omega)).1 this
   have:lv m=d:=by omega
   rw[this]at h4
   omega
  ·have:2^lv m*1<=2^lv m*(m/2^lv m):=Nat.mul_le_mul_left _ h5
   omega
theorem zeyb{m l:Nat}(hm:m<=131070)(hl:l=lv m)(h16:l<16):(m|||2^l)=m+2^l/\(m+2^l)&&&(18446744073709551615-2^(l+1))=upN m:=by
 obtain⟨_,h1,h2⟩:=zgb hm
 rw[<-hl]at h1 h2
 have hp:=zaz l
 have hb:2^(l+1)<=2^16:=Nat.pow_le_pow_right (by omega) (by omega)
 have e2:2^(l+1)=2*2^l:=by rw[Nat.pow_succ];omega
 refine⟨z7g h2,?_⟩
 rw[show 18446744073709551615-2^(l+1)=2^64-(2^(l+1)+1)by omega,z4v (by omega) (by omega)]
 have hd:(m+2^l)/2^(l+1)=m/2^(l+1):=by
  have e4:=Nat.div_add_mod m (2^(l+1))
  have e5:m%2^(l+1)=2^l-1:=by
   rw[Nat.pow_succ,Nat.mod_mul,h1,h2];omega
  rw[e5]at e4
  have e6:m+2^l=(2^(l+1)-1)+m/2^(l+1)*2^(l+1):=by rw[Nat.mul_comm (m/2^(l+1))];omega
  rw[e6,Nat.add_mul_div_right _ _ (zaz _),Nat.div_eq_of_lt (by omega)]
  omega
 rw[hd]
 unfold upN
 rw[<-hl]
 have hge:m/2^(l+1)%2=1->2^(l+1)<=m:=λh=>by
  rcases Nat.lt_or_ge m (2^(l+1))with h3 |h3
  ·rw[Nat.div_eq_of_lt h3]at h;omega
  ·exact h3
 rcases Nat.mod_two_eq_zero_or_one (m/2^(l+1))with h |h
 ·rw[h];simp
 ·have:=hge h
  rw[h,if_neg (by omega)]
  omega
theorem zo5(x n:Int):aG 387 [I x,I n] (.r (I (parI x n))):=by
 refine aT Tryz.func387 rfl ?_
 refine Vcall.bool (g_of x n) (λho=>zu rfl ?_) (λho=>zt rfl (zp (zf (congrArg I (ztj (.inl ho)).symm))))
 obtain⟨b1,b2,b3,b4,b5⟩:=zh6b ho
 refine zd rfl (by omega) ?_
 refine zh (λh=>zp ?_) (λh=>zq ?_)
 ·simp only[zb]at h
  exact zf (congrArg I (ztj (.inr h)).symm)
 simp only[zb]at h
 refine ze (zru x) ?_
 obtain⟨m,rfl⟩:=Int.eq_ofNat_of_zero_le b1
 have hl:lvI (m:Int)=((lv m:Nat):Int):=by rw[zla (zdr.2 (by omega)),Int.toNat_natCast]
 obtain⟨d,hd,hn⟩:=zh0 (znx.1 ho).1
 have h16:lv m<16:=by have:=zekb (m:=m) hd (by omega) (by have:=zaz d;omega);omega
 obtain⟨e1,e2⟩:=zeyb (m:=m) (by omega) rfl h16
 have hp:=z30 (d:=lv m) (by omega)
 have hp2:2^(lv m+1)=2*2^lv m:=by rw[Nat.pow_succ];omega
 rw[hl]
 refine aV ?_
 refine Vshl.nat (.inr rfl) 1 (lv m) _ rfl rfl (by omega) (Nat.one_mul _) (by omega) ?_
 refine Vbits.nat (.inr rfl) m (2^lv m) (m+2^lv m) rfl rfl (by omega) (by omega) (by omega) e1 ?_
 refine zd (m:=((lv m+1:Nat):Int)) (by omega) (by omega) ?_
 refine Vshl.nat (.inr rfl) 1 (lv m+1) _ rfl rfl (by omega) (Nat.one_mul _) (by omega) ?_
 refine Vbits.nat (.inr rfl) (m+2^lv m) (2^(lv m+1)) (upN m) rfl rfl (by omega) (by omega) (by rw[<-e2];exact Nat.lt_of_le_of_lt Nat.and_le_left (by omega)) e2 ?_
 refine zf (congrArg I ?_)
 unfold parI
 rw[ho,Bool.true_and,if_pos (by rw[decide_eq_true_eq];exact h),Int.toNat_natCast]
theorem z5j(x n:Int):aG 386 [I x,I n] (.r (I (sibI x n))):=by
 refine aT Tryz.func386 rfl ?_
 refine ze (zo5 x n) ?_
 refine zh (λh=>zp ?_) (λh=>zq ?_)
 ·simp only[zb]at h
  exact zf (congrArg I (by unfold sibI;rw[if_pos h]))
 simp only[zb]at h
 refine zh (λh2=>zp ?_) (λh2=>zq ?_)
 ·simp only[zb]at h2
  exact ze (zc7b _) (zf (congrArg I (by unfold sibI;rw[if_neg h,if_pos h2])))
 ·simp only[zb]at h2
  exact ze (zgmb _) (zf (congrArg I (by unfold sibI;rw[if_neg h,if_neg h2])))
theorem ztk{n:Int}: ∀(f:Nat) (x:Int),(zd9 n f x).length<=f
 |0,x=>by simp[zd9]
 |f+1,x=>by
  unfold zd9
  split
  ·simp
  ·simp only[List.length_cons];have:=ztk (n:=n) f (parI x n);omega
theorem z7n(x n:Int):(zny x n).length<=17:=ztk 17 x
theorem zvl(x n:Int):aG 284 [I x,I n] (ich (zny x n)):=by
 refine aT Tryz.func284 rfl ?_
 refine ze (zo5 x n) ?_
 refine zy (λi:List Int×Int=>{F:=[(0, .r (I (parI i.2 n))),(1, .r (I n)),(5, .own 0)],O:=[(0,some (.ch 3 1 i.1.length (i.1.map I) true))],nx:=1}) (λi=>∃f,i.1++zd9 n f i.2=zny x n/\i.1.length+f=17/\(i.1.length:Int)<=lvI i.2+1) (λi=>17-i.1.length) ([],x)
  ⟨17,rfl,rfl,by have:=zmt x;show(0:Int)<=lvI x+1;omega⟩ ((zjb 5 3 1 rfl).trans (zad [(0,0)] rfl ⟨cr,cr,rfl,trivial⟩ ⟨⟨rfl,rfl,rfl,rfl,zn _⟩,trivial⟩)) ?_
 rintro⟨l,y⟩ ⟨f,h1,h2,h3⟩
 dsimp only at h1 h2 h3⊢
 refine zh (λh=>zp ?_) (λh=>zq ?_)
 ·simp only[zb]at h
  obtain⟨_,_,h5,h6⟩:=z7l (x:=y) (n:=n) h
  have h7:=zmt (parI y n)
  obtain⟨f,rfl⟩: ∃g,f=g+1:=⟨f-1,by omega⟩
  rw[zd9,if_neg (by omega)]at h1
  refine zw ?_
  refine Vapp.mk' (j:=(l++[parI y n]).length) (zs:=(l++[parI y n]).map I) (by simp only[maxLen];omega) (by show(l.length+1)*8<=_;omega) (by simp) (by simp[zc6,cellsOf]) ?_
  refine ze (zo5 _ n) ?_
  exact⟨(l++[parI y n],parI y n),⟨f,by rw[<-h1];simp,by simp;omega,by simp;omega⟩,by simp;omega,zad [(0,_)] rfl ⟨cr,cr,rfl,trivial⟩ ⟨zbqb rfl,trivial⟩⟩
 ·simp only[zb]at h
  have e:zd9 n f y=[]:=by
   cases f with
   |zero=>rfl
   |succ f=>rw[zd9,if_pos (by omega)]
  rw[e,List.append_nil]at h1
  subst h1
  exact rfl
theorem zyw{n y:Int}{k:Nat}{l:List Int}{j:Nat}(h:l.drop j=zd9 n k y)(hj:j<l.length): ∃k',k=k'+1/\l[j]=parI y n/\0<=parI y n/\l.drop (j+1)=zd9 n k' (parI y n)/\zfg n k y=sibI y n::zfg n k' (parI y n):=by
 rw[List.drop_eq_getElem_cons hj]at h
 cases k with
 |zero=>cases h
 |succ k=>
  rw[zd9]at h
  split at h
  ·cases h
  ·obtain⟨h1,h2⟩:=List.cons.inj h
   exact⟨k,rfl,h1,by omega,h2,by rw[zfg,if_neg (by assumption)]⟩
theorem zvi(x n:Int):aG 283 [I x,I n] (ich (znk x n)):=by
 refine aT Tryz.func283 rfl ?_
 refine ze (zvl x n) ?_
 have hpl:=z7n x n
 obtain⟨p,hp⟩: ∃p,zny x n=p:=⟨_,rfl⟩
 rw[hp]at hpl⊢
 refine zy (λi:List Int×Int=>{F:=[(0, .r (I i.2)),(1, .r (I n)),(5, .own 0),(10, .r (is p)),(11, .r (I p.length)),(12, .r (I i.1.length))],O:=[(0,some (.ch 3 1 i.1.length (i.1.map I) true))],nx:=1}) (λi=>i.1.length<=p.length/\∃k,p.drop i.1.length=zd9 n k i.2/\i.1++zfg n k i.2=znk x n) (λi=>p.length-i.1.length) ([],x)
  ⟨by simp,17,hp.symm,rfl⟩ ((zjb 5 3 1 rfl).trans (zad [(0,1)] rfl ⟨cr,cr,rfl,cr,cr,cr,trivial⟩ ⟨⟨rfl,rfl,rfl,rfl,zn _⟩,trivial⟩)) ?_
 rintro⟨l,y⟩ ⟨h0,k,h1,h2⟩
 dsimp only at h0 h1 h2⊢
 refine zh (λh=>zp ?_) (λh=>zq ?_)
 ·simp only[zb]at h
  have hj:l.length<p.length:=by omega
  obtain⟨k',rfl,e1,e2,e3,e4⟩:=zyw h1 hj
  refine zm (by omega) (by omega) (zbh rfl hj) (zg rfl ?_)
  refine ze (z5j y n) ?_
  refine zw ?_
  refine Vapp.mk' (j:=(l++[sibI y n]).length) (zs:=(l++[sibI y n]).map I) (by simp only[maxLen];omega) (by show(l.length+1)*8<=_;omega) (by simp) (by simp[zc6,cellsOf]) ?_
  refine zd (m:=(((l++[sibI y n]).length:Nat):Int)) (by simp) (by omega) ?_
  exact⟨(l++[sibI y n],p[l.length]),⟨by simp;omega,k',by rw[e1];simpa using e3,by rw[e1,<-h2,e4];simp⟩,by simp;omega,zad [(0,_)] rfl ⟨cr,cr,rfl,cr,cr,cr,trivial⟩ ⟨zbqb rfl,trivial⟩⟩
 ·simp only[zb]at h
  rw[List.drop_eq_nil_of_le (by omega)]at h1
  have e:zfg n k y=[]:=by
   cases k with
   |zero=>rfl
   |succ k=>
    rw[zd9]at h1
    split at h1
    ·rw[zfg,if_pos (by assumption)]
    ·cases h1
  rw[e,List.append_nil]at h2
  subst h2
  exact rfl
abbrev d3r(t:D3):List RV:=[I t.at_,I t.lo,I t.hi]
def ds(l:List D3):RV:= .sl 3 l.length (l.flatMap d3r)
end Go.Proofs.YtkegaaonpekkgaaGreat.Sx

namespace Go.Proofs.YtkegaaonpekkgaaGreat
def beB:Nat->Nat->List UInt8
 |0,_=>[]
 |s+1,n=>UInt8.ofNat (n/256^s)::beB s n
theorem zao: ∀(s n:Nat),(beB s n).length=s
 |0,_=>rfl
 |s+1,n=>by rw[beB,List.length_cons,zao s n]
def lenB(n:Nat):List UInt8:=if n<64 then beB 1 n else if n<16384 then beB 2 (16384+n)else beB 4 (2147483648+n)
def zct(n:Nat):Nat:=if n<64 then 1 else if n<16384 then 2 else 4
theorem zo8(n:Nat):(lenB n).length=zct n:=by
 unfold lenB zct
 split
 ·exact zao _ _
 ·split<;>exact zao _ _
theorem zic(n:Nat):1<=zct n/\zct n<=4:=by unfold zct;split<;>(try split)<;>omega
def vecB(v:List UInt8):List UInt8:=lenB v.length++v
theorem zpp(v:List UInt8):(vecB v).length=zct v.length+v.length:=by rw[vecB,List.length_append,zo8]
theorem zai(v:List UInt8):(vecB v).length<=v.length+4:=by rw[zpp];have:=zic v.length;omega
theorem z7r(i:Nat):2^(8*i)=256^i:=by rw[Nat.pow_mul]
end Go.Proofs.YtkegaaonpekkgaaGreat

namespace Go.Proofs.YtkegaaonpekkgaaGreat.Sx
open Go.RowKit
def och(l:List UInt8):Res:= .own 5 1 l.length (l.map U8)
theorem zkt{ρ:List (Nat×Nat)}{S:St}{e:TypeId}{b:Bool}{l m:List UInt8}(h:l=m):cvOw ρ S (.ch e 1 l.length (l.map U8) b) (.ch e 1 m.length (m.map U8) b):=by
 subst h;exact⟨rfl,rfl,rfl,rfl,zn _⟩
theorem zst(l:List UInt8)(hl:l.length<=140737488355328):aG 237 [bs l] (och l):=by
 refine za1 (T:=Tab) mixed Tab_ok Tryz.func237 rfl (by kernel_rfl) ?_
 refine Vstep.nilSl rfl rfl rfl Tryz.underlying22 (λh0=>zp ?_) (zq ?_)
 ·obtain rfl:=List.eq_nil_of_length_eq_zero h0
  exact⟨_,zhm 2 5 1 rfl,rfl⟩
 ·refine Vpub.own ?_
  refine Vapp.mk' (j:=l.length) (zs:=l.map U8) (by simp only[maxLen];omega) (by show(0+l.length)*1<=_;omega) (by omega) rfl ?_
  exact⟨_,zo _,rfl⟩
theorem zsq(l:List UInt8)(hl:l.length<=140737488355328):aG 42 [bs l] (och l):=by
 refine za1 (T:=Tab) mixed Tab_ok Tryz.func42 rfl (by kernel_rfl) ?_
 refine Vstep.nilSl rfl rfl rfl Tryz.underlying22 (λh0=>zp ?_) (zq ?_)
 ·obtain rfl:=List.eq_nil_of_length_eq_zero h0
  exact⟨_,zhm 2 5 1 rfl,rfl⟩
 ·refine Vpub.own ?_
  refine Vapp.mk' (j:=l.length) (zs:=l.map U8) (by simp only[maxLen];omega) (by show(0+l.length)*1<=_;omega) (by omega) rfl ?_
  exact⟨_,zo _,rfl⟩
theorem z5c(l:List Int)(hl:l.length<=17592186044416):aG 308 [is l] (.own 3 1 l.length (l.map I)):=by
 refine za1 (T:=Tab) mixed Tab_ok Tryz.func308 rfl (by kernel_rfl) ?_
 refine Vstep.nilSl rfl rfl rfl Tryz.underlying36 (λh0=>zp ?_) (zq ?_)
 ·obtain rfl:=List.eq_nil_of_length_eq_zero h0
  exact⟨_,zhm 2 3 1 rfl,rfl⟩
 ·refine Vpub.own ?_
  refine Vapp.mk' (j:=l.length) (zs:=l.map I) (by simp only[maxLen];omega) (by show(0+l.length)*8<=_;omega) (by omega) rfl ?_
  exact⟨_,zo _,rfl⟩
theorem zvo(l:List UInt8)(hl:l.length<=140737488355328):aG 237 [bs l] (bch l):=zit (zst l hl)
theorem zbu(l:List UInt8)(hl:l.length<=140737488355328):aG 42 [bs l] (bch l):=zit (zsq l hl)
theorem z87(l:List Int)(hl:l.length<=17592186044416):aG 308 [is l] (ich l):=zit (z5c l hl)
theorem zun(n:Int)(hn:n=1\/n=2\/n=4\/n=8):aG 318 [I n] (.r (.b true)):=by
 refine aT Tryz.func318 rfl ?_
 rcases hn with rfl |rfl |rfl |rfl
 ·refine zt rfl ?_
  exact cr
 ·refine zu rfl (zt rfl ?_)
  exact cr
 ·refine zu rfl (zu rfl (zt rfl ?_))
  exact cr
 ·refine zu rfl (zu rfl (zu rfl (zt rfl ?_)))
  exact cr
theorem zu8{s n i:Nat}(hi:i<s):(beB s n).take (i+1)=(beB s n).take i++[UInt8.ofNat (n/256^(s-1-i))]:=by
 have: ∀(s i:Nat),i<s->(beB s n)[i]?=some (UInt8.ofNat (n/256^(s-1-i))):=by
  intro s
  induction s with
  |zero=>intro i h;omega
  |succ s ih=>
   intro i h
   cases i with
   |zero=>simp[beB]
   |succ i=>
    rw[beB,List.getElem?_cons_succ,ih i (by omega)]
    rw[show s+1-1-(i+1)=s-1-i by omega]
 rw[List.take_add_one,this s i hi];rfl
theorem z5g(l:List UInt8)(size m:Nat)(hl:l.length<=1000000000000)(hs:size=1\/size=2\/size=4\/size=8):aG 205 [bs l,I size, .i .u64 m] (och (l++beB size m)):=by
 refine aT Tryz.func205 rfl ?_
 have hlen: ∀j,(l++(beB size m).take j).length<=l.length+8:=λj=>by rw[List.length_append,List.length_take,zao];omega
 refine ze (zst l (by omega)) ?_
 refine ze (zun size (by omega)) ?_
 refine zu rfl (zq ?_)
 refine zd rfl (by omega) ?_
 refine zy (λj:Nat=>{F:=[(0, .own 0),(2, .r (.i .u64 m)),(7, .r (I ((size:Int)-1-j)))],O:=[(0,some (.ch 5 1 (l++(beB size m).take j).length ((l++(beB size m).take j).map U8) false))],nx:=1}) (λj=>j<=size) (λj=>size-j) 0 (by omega)
  (zad [(0,0)] rfl ⟨rfl,cr,zf (congrArg I (by simp)),trivial⟩ ⟨zkt (by simp),trivial⟩) ?_
 intro j hj
 have hlj:=hlen j
 refine zh (λh=>zp ?_) (λh=>zq ?_)
 ·simp only[zb]at h
  have hj':j<size:=by omega
  have ht:=zu8 (n:=m) hj'
  refine zd (m:=((8*(size-1-j):Nat):Int)) (by omega) (by omega) ?_
  refine Vshr.nat (.inl rfl) m (8*(size-1-j)) (m/256^(size-1-j)) rfl rfl (by omega) (by rw[z7r]) ?_
  refine Vint.u8 (m/256^(size-1-j)) rfl ?_
  refine zw ?_
  refine Vapp.mk' (j:=(l++(beB size m).take (j+1)).length) (zs:=(l++(beB size m).take (j+1)).map U8) (by simp only[maxLen];omega) (by show((l++(beB size m).take j).length+1)*1<=_;omega) (by rw[ht];simp only[List.length_append,List.length_cons,List.length_nil];omega)
   (by rw[ht,<-List.append_assoc];exact(List.map_append (f:=U8) (l₁:=l++(beB size m).take j) (l₂:=[UInt8.ofNat (m/256^(size-1-j))])).symm) ?_
  refine zd (m:=(size:Int)-1-((j+1:Nat):Int)) (by omega) (by omega) ?_
  exact⟨j+1,by omega,by omega,zad [(0,_)] rfl ⟨rfl,cr,cr,trivial⟩ ⟨zkt rfl,trivial⟩⟩
 ·simp only[zb]at h
  obtain rfl:j=size:=by omega
  rw[List.take_of_length_le (by rw[zao];omega)]
  exact rfl
theorem zef(l:List UInt8)(size m:Nat)(hl:l.length<=1000000000000)(hs:size=1\/size=2\/size=4\/size=8):aG 205 [bs l,I size, .i .u64 m] (bch (l++beB size m)):=zit (z5g l size m hl hs)
theorem zmd(n:Nat)(hn:n<=1073741823):aG 319 [I n] (.r (I (zct n))):=by
 refine aT Tryz.func319 rfl ?_
 unfold zct
 (repeat' (first|refine zh (λh=>?_) (λh=>?_)|refine zf ?_|refine zp ?_|refine zq ?_))
 all_goals simp only[zb]at*
 all_goals first|omega|(refine congrArg I ?_;split<;>(try split)<;>omega)
theorem z9b(l:List UInt8)(n:Nat)(hl:l.length<=1000000000000)(hn:n<=1073741823):aG 207 [bs l,I n] (bch (l++lenB n)):=by
 refine aT Tryz.func207 rfl ?_
 refine ze (zmd n hn) ?_
 obtain⟨s,k,v,h1,h2,h3,h4,h5⟩: ∃s k v,zct n=s/\lenB n=beB s v/\(s=1\/s=2\/s=4)/\k=s/2/\(k*2^(8*s-2)|||n)=v:=by
  unfold zct lenB
  split
  ·exact⟨1,0,n,rfl,rfl,by omega,rfl,by simp⟩
  ·split
   ·exact⟨2,1,16384+n,rfl,rfl,by omega,rfl,nat_join 14 (1*2^14) n (by decide) (by omega)⟩
   ·exact⟨4,2,2147483648+n,rfl,rfl,by omega,rfl,nat_join 30 (2*2^30) n (by decide) (by omega)⟩
 rw[h1,h2]
 have hk:k*2^(8*s-2)<=2147483648:=by
  rcases h3 with rfl |rfl |rfl<;>subst h4<;>decide
 have hv:v<9223372036854775808:=by rw[<-h5];exact Nat.or_lt_two_pow (n:=63) (by omega) (by omega)
 refine zu (by simp only[zb];omega) (zq ?_)
 refine⟨by decide,(k:Int),by rw[Int.tdiv_eq_ediv_of_nonneg (by omega)];exact(by omega:(k:Int)=(s:Int)/2).trans (wrap_i64 (by omega)),?_⟩
 refine Vint.nat (.inl rfl) k rfl (by omega) ?_
 refine zd (m:=((8*s:Nat):Int)) (by omega) (by omega) ?_
 refine zd (m:=((8*s-2:Nat):Int)) (by omega) (by omega) ?_
 refine Vshl.nat (.inl rfl) k (8*s-2) _ rfl rfl (by omega) rfl (by omega) ?_
 refine Vint.nat (.inl rfl) n rfl (by omega) ?_
 refine Vbits.nat (.inl rfl) (k*2^(8*s-2)) n v rfl rfl (by omega) (by omega) hv h5 ?_
 exact ze (zef l s v hl (by omega)) rfl
theorem zbj(l m:List UInt8)(hl:l.length<=1000000000000)(hm:m.length<=1073741823):aG 120 [bs l,bs m] (bch (l++vecB m)):=by
 refine aT Tryz.func120 rfl ?_
 have hv:=zai m
 have hb:(l++lenB m.length).length<=l.length+4:=by rw[List.length_append,zo8];have:=zic m.length;omega
 have e:l++vecB m=l++lenB m.length++m:=by rw[vecB,List.append_assoc]
 refine ze (z9b l m.length hl hm) ?_
 refine Vapp.mk' (j:=(l++vecB m).length) (zs:=(l++vecB m).map U8) (by simp only[maxLen];omega) (by show((l++lenB m.length).length+m.length)*1<=_;omega) (by rw[e,List.length_append (bs:=m)]) (by rw[e,List.map_append (l₂:=m)]) ?_
 exact rfl
theorem zc5b(n:Nat)(hn:n<=1073741823):aG 138 [I n] (bch (lenB n)):=by
 refine aT Tryz.func138 rfl ?_
 have tq: ∀d:Int,0<d->((n:Int).tdiv d)=(n:Int)/d:=λd _=>Int.tdiv_eq_ediv_of_nonneg (by omega)
 have tr: ∀a d:Nat,((a:Int).tmod d)=((a%d:Nat):Int):=λa d=>by rw[Int.tmod_eq_emod_of_nonneg (by omega)];rfl
 refine zh (λh=>zp ?_) (λh=>zq ?_)
 ·simp only[zb]at h
  have e:lenB n=[UInt8.ofNat n]:=by unfold lenB;rw[if_pos (by omega)];simp[beB]
  refine Vint.u8 n rfl ?_
  rw[e]
  exact zw rfl
 simp only[zb]at h
 refine zh (λh2=>zp ?_) (λh2=>zq ?_)
 ·simp only[zb]at h2
  have e:lenB n=[UInt8.ofNat (64+n/256),UInt8.ofNat (n%256)]:=by
   unfold lenB;rw[if_neg (by omega),if_pos (by omega)]
   simp only[beB,List.cons.injEq,and_true,Nat.pow_zero,Nat.div_one]
   exact⟨congrArg UInt8.ofNat (by omega),by apply UInt8.toNat_inj.1;first|(simp;done)|(simp;omega)⟩
  refine⟨by decide,((n/256:Nat):Int),by rw[tq 256 (by decide)];exact(by omega:((n/256:Nat):Int)=(n:Int)/256).trans (wrap_i64 (by omega)),?_⟩
  refine zd (m:=((64+n/256:Nat):Int)) (by omega) (by omega) ?_
  refine Vint.u8 (64+n/256) rfl ?_
  refine⟨by decide,_,(tr n 256).symm,?_⟩
  refine Vint.u8 (n%256) rfl ?_
  rw[e]
  exact zw rfl
 ·simp only[zb]at h2
  have e:lenB n=[UInt8.ofNat (128+n/16777216),UInt8.ofNat (n/65536%256),UInt8.ofNat (n/256%256),UInt8.ofNat (n%256)]:=by
   unfold lenB;rw[if_neg (by omega),if_neg (by omega)]
   simp only[beB,List.cons.injEq,and_true,Nat.pow_zero,Nat.div_one]
   refine⟨congrArg UInt8.ofNat (by omega),?_,?_,?_⟩<;>(apply UInt8.toNat_inj.1;first|(simp;done)|(simp;omega))
  refine⟨by decide,((n/16777216:Nat):Int),by rw[tq 16777216 (by decide)];exact(by omega:((n/16777216:Nat):Int)=(n:Int)/16777216).trans (wrap_i64 (by omega)),?_⟩
  refine zd (m:=((128+n/16777216:Nat):Int)) (by omega) (by omega) ?_
  refine Vint.u8 (128+n/16777216) rfl ?_
  refine⟨by decide,((n/65536:Nat):Int),by rw[tq 65536 (by decide)];exact(by omega:((n/65536:Nat):Int)=(n:Int)/65536).trans (wrap_i64 (by omega)),?_⟩
  refine⟨by decide,_,(tr (n/65536) 256).symm,?_⟩
  refine Vint.u8 (n/65536%256) rfl ?_
  refine⟨by decide,((n/256:Nat):Int),by rw[tq 256 (by decide)];exact(by omega:((n/256:Nat):Int)=(n:Int)/256).trans (wrap_i64 (by omega)),?_⟩
  refine⟨by decide,_,(tr (n/256) 256).symm,?_⟩
  refine Vint.u8 (n/256%256) rfl ?_
  refine⟨by decide,_,(tr n 256).symm,?_⟩
  refine Vint.u8 (n%256) rfl ?_
  rw[e]
  exact zw rfl
theorem zdj(m:List UInt8)(hm:m.length<=1073741823):aG 61 [bs m] (bch (vecB m)):=by
 refine aT Tryz.func61 rfl ?_
 have hb:(lenB m.length).length<=4:=by rw[zo8];have:=zic m.length;omega
 refine ze (zc5b m.length hm) ?_
 refine Vapp.mk' (j:=(vecB m).length) (zs:=(vecB m).map U8) (by simp only[maxLen];omega) (by show((lenB m.length).length+m.length)*1<=_;omega) (by rw[vecB,List.length_append]) (by rw[vecB,List.map_append]) ?_
 exact rfl
theorem z0c(size m:Nat)(hs:size<=8)(hm:m<18446744073709551616):aG 60 [I size, .i .u64 m] (bch (beB size m)):=by
 refine aT Tryz.func60 rfl ?_
 refine zy (λj:Nat=>{F:=[(0, .r (I size)),(1, .r (.i .u64 ((m/256^j:Nat):Int))),(5, .own 0),(6, .r (I j))],O:=[(0,some (.ch 5 1 (beB j m).length ((beB j m).map U8) true))],nx:=1}) (λj=>j<=size) (λj=>size-j) 0 (by omega)
  ((zjb 5 5 1 rfl).trans (zad [(0,0)] rfl ⟨cr,zf (by simp),rfl,cr,trivial⟩ ⟨⟨rfl,rfl,rfl,rfl,zn _⟩,trivial⟩)) ?_
 intro j hj
 have hbl:=zao j m
 have hd:m/256^j<18446744073709551616:=Nat.lt_of_le_of_lt (Nat.div_le_self _ _) hm
 refine zh (λh=>zp ?_) (λh=>zq ?_)
 ·simp only[zb]at h
  refine Vrem.nat (m/256^j) 256 rfl rfl (by decide) ?_
  refine Vint.u8 (m/256^j%256) rfl ?_
  refine zw ?_
  refine Vapp.mk' (j:=(beB (j+1) m).length) (zs:=(beB (j+1) m).map U8) (by simp only[maxLen];omega) (by show(1+(beB j m).length)*1<=_;omega) (by rw[zao,zao];omega) (by rw[beB,zjvb];rfl) ?_
  refine Vquo.nat (m/256^j) 256 rfl rfl (by decide) hd ?_
  refine zd (m:=((j+1:Nat):Int)) (by omega) (by omega) ?_
  exact⟨j+1,by omega,by omega,zad [(0,_)] rfl ⟨cr,zf (by rw[Nat.pow_succ,Nat.div_div_eq_div_mul]),rfl,cr,trivial⟩ ⟨zkt rfl,trivial⟩⟩
 ·simp only[zb]at h
  obtain rfl:j=size:=by omega
  exact rfl
theorem z9d(l m:List UInt8):aG 24 [bs l,bs m] (.r (.b (decide (l=m)))):=by
 refine zsw (zdu Tryz.func24 rfl (by kernel_rfl)) λhml=>?_
 refine aT Tryz.func24 rfl ?_
 refine zh (λh=>zp ?_) (λh=>zq ?_)
 ·simp only[zb]at h
  exact zf (congrArg RV.b (Eq.symm (decide_eq_false λe=>h (by rw[e]))))
 simp only[zb]at h
 refine zy (λi:Nat=>⟨[(0, .r (bs l)),(1, .r (bs m)),(5, .r (I i))],[],0⟩) (λi=>i<=l.length/\l.take i=m.take i) (λi=>l.length-i) 0 ⟨by omega,by simp⟩ (zad [] rfl ⟨cr,cr,cr,trivial⟩ trivial) ?_
 rintro i ⟨hi,he⟩
 refine zh (λh3=>zp ?_) (λh3=>zq ?_)
 ·simp only[zb]at h3
  have h1:i<l.length:=by omega
  have h2:i<m.length:=by omega
  refine aV ?_
  refine zm (by omega) (by omega) (zbh rfl h1) (zg rfl ?_)
  refine zm (by omega) (by omega) (zbh rfl h2) (zg rfl ?_)
  refine zh (λh4=>zp ?_) (λh4=>zq ?_)
  ·simp only[zb,Int.natCast_inj,UInt8.toNat_inj]at h4
   refine zf (congrArg RV.b (Eq.symm (decide_eq_false λe=>?_)))
   subst e;exact h4 rfl
  ·simp only[zb,Int.natCast_inj,UInt8.toNat_inj]at h4
   refine zd (m:=((i+1:Nat):Int)) (by omega) (by omega) ?_
   refine⟨i+1,⟨h1,?_⟩,by omega,zad [] rfl ⟨cr,cr,cr,trivial⟩ trivial⟩
   rw[List.take_succ_eq_append_getElem h1,List.take_succ_eq_append_getElem h2,he,h4]
 ·simp only[zb]at h3
  refine zf (congrArg RV.b (Eq.symm ?_))
  rw[decide_eq_true_eq,<-List.take_of_length_le (show l.length<=i by omega),he,List.take_of_length_le (by omega)]
theorem zcb(l m:List UInt8)(hl:l.length<=1000000000000)(hm:m.length<=1000000000000):aG 340 [bs l,bs m] (bch (l++m)):=by
 refine aT Tryz.func340 rfl ?_
 refine zw ?_
 refine Vapp.mk' (j:=l.length) (zs:=l.map U8) (by simp only[maxLen];omega) (by show(0+l.length)*1<=_;omega) (by omega) rfl ?_
 refine Vapp.mk' (j:=(l++m).length) (zs:=(l++m).map U8) (by simp only[maxLen];omega) (by show(l.length+m.length)*1<=_;omega) (by simp) (by simp) ?_
 exact rfl
def Leaf.right(l:Leaf):Bool:=decide (l.box.length=32/\l.sign.length=32/\0<l.ident.length/\l.ident.length<=64/\0<l.src.toNat/\l.src.toNat<4/\(l.parent.length=0\/l.src.toNat=3/\l.parent.length=32)/\l.sig.length=64)
theorem zbg{ρ:List (Nat×Nat)}{S:St}(v:RV):cvTF ρ S (.r v) (.r v):=by
 cases v<;>first|trivial|exact cr
theorem zae{ρ:List (Nat×Nat)}{S:St}: ∀l:List RV,zfh ρ S (l.map .r) (l.map .r)
 |[]=>rfl
 |v::r=>⟨_,_,rfl,zbg v,zae r⟩
def Leaf.fit(l:Leaf):Prop:=l.box.length<=1000000000/\l.sign.length<=1000000000/\l.ident.length<=1000000000/\l.parent.length<=1000000000/\l.sig.length<=1000000000
def Par.fit(p:Par):Prop:=p.box.length<=1000000000/\p.hash.length<=1000000000/\p.late.length<=100000000/\∀x∈p.late,i64 x
def zi1:Int->List Int->Bool
 |_,[]=>true
 |last,x::r=>decide (last<x/\x<65536)&&zi1 x r
def Par.right(p:Par):Bool:=zi1 (-1) p.late&&decide (p.box.length=32/\(p.hash.length=0\/p.hash.length=32))
def Leaf.none(l:Leaf):Bool:=decide (l.src.toNat=0/\l.box.length=0/\l.sign.length=0/\l.ident.length=0/\l.parent.length=0/\l.sig.length=0)
def Par.none(p:Par):Bool:=decide (p.box.length=0/\p.hash.length=0/\p.late.length=0)
theorem zvk(l:Leaf)(hl:l.fit):aG 499 [.ag l.c] (.r (.b l.none)):=by
 refine aT Tryz.func499 rfl ?_
 obtain⟨h1,h2,h3,h4,h5⟩:=hl
 refine zh (λh=>?_) (λh=>?_)
 ·refine zd rfl (by omega) ?_
  refine zd rfl (by omega) ?_
  refine zd rfl (by omega) ?_
  refine zd rfl (by omega) ?_
  refine Vcmp.mk' rfl (zf (congrArg RV.b ?_))
  simp only[Leaf.none,zb]at*
  rw[Bool.eq_iff_iff]
  simp only[zb]at*
  omega
 ·refine zf (congrArg RV.b ?_)
  simp only[Leaf.none,zb]at*
  rw[eq_comm]
  simp only[zb]at*
  omega
theorem z0b(p:Par)(hp:p.fit):aG 500 [.ag p.c] (.r (.b p.none)):=by
 refine aT Tryz.func500 rfl ?_
 obtain⟨h1,h2,h3,_⟩:=hp
 refine zd rfl (by omega) ?_
 refine zd rfl (by omega) ?_
 refine Vcmp.mk' rfl (zf (congrArg RV.b ?_))
 simp only[Par.none,zb]at*
 rw[Bool.eq_iff_iff]
 simp only[zb]at*
 omega
theorem zfi(l:Leaf):aG 129 [.ag l.c] (.r (.b l.right)):=by
 refine aT Tryz.func129 rfl ?_
 (repeat' (first|refine zh (λh=>?_) (λh=>?_)|refine zf ?_|refine zp ?_|refine zq ?_))
 all_goals refine congrArg RV.b (Eq.symm ?_)
 all_goals simp only[Leaf.right,zb]at*
 all_goals omega
theorem zgpb(p:Par)(hp:p.fit):aG 501 [.ag p.c] (.r (.b p.right)):=by
 refine aT Tryz.func501 rfl ?_
 obtain⟨hp1,hp2,hp3,hp4⟩:=hp
 refine zy (λi:Nat×Int=>{F:=[(1, .own 0),(2, .r (.b false)),(3, .r (I i.2)),(7, .r (is p.late)),(8, .r (I p.late.length)),(9, .r (I i.1))],O:=[(0,some (.box (p.c.map .r)))],nx:=1})
  (λi=>i.1<=p.late.length/\zi1 (-1) p.late=zi1 i.2 (p.late.drop i.1)) (λi=>p.late.length-i.1) (0, -1) ⟨by simp,by simp⟩ (zad [(0,0)] rfl ⟨rfl,cr,cr,cr,cr,cr,trivial⟩ ⟨zae _,trivial⟩) ?_
 rintro⟨j,last⟩ ⟨hj,hlate⟩
 simp only at hj hlate
 refine zh (λh=>zp ?_) (λh=>zq ?_)
 ·simp only[zb]at h
  have hj':j<p.late.length:=by omega
  have hx:=hp4 _ (List.getElem_mem hj')
  rw[List.drop_eq_getElem_cons hj']at hlate
  simp only[zi1]at hlate
  refine zm (by omega) (by omega) (zbh rfl hj') (zg rfl ?_)
  refine zh (λh1=>?_) (λh1=>?_)
  ·simp only[zb]at h1
   refine zp (zf (congrArg RV.b (Eq.symm ?_)))
   have: ¬(last<p.late[j]/\p.late[j]<65536):=by omega
   simp[Par.right,hlate,this]
  ·refine zh (λh2=>?_) (λh2=>?_)
   ·simp only[zb]at h2
    refine zp (zf (congrArg RV.b (Eq.symm ?_)))
    have: ¬(last<p.late[j]/\p.late[j]<65536):=by omega
    simp[Par.right,hlate,this]
   ·simp only[zb]at h1 h2
    refine zq ?_
    refine zd (m:=((j+1:Nat):Int)) (by omega) (by omega) ?_
    have:last<p.late[j]/\p.late[j]<65536:=by omega
    rw[decide_eq_true this,Bool.true_and]at hlate
    exact⟨(j+1,p.late[j]),⟨by simp only;omega,hlate⟩,by simp only;omega,zad [(0,0)] rfl ⟨rfl,cr,cr,cr,cr,cr,trivial⟩ ⟨zae _,trivial⟩⟩
 ·simp only[zb]at h
  have:p.late.drop j=[]:=List.drop_eq_nil_of_le (by omega)
  rw[this]at hlate
  simp only[zi1]at hlate
  (repeat' (first|refine zh (λh=>?_) (λh=>?_)|refine zf ?_|refine zp ?_|refine zq ?_))
  all_goals refine congrArg RV.b (Eq.symm ?_)
  all_goals simp only[Par.right,hlate,Bool.true_and,zb]at*
  all_goals omega
end Go.Proofs.YtkegaaonpekkgaaGreat.Sx
