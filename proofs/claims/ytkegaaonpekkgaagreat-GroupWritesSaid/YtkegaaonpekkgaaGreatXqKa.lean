import Derived.Test.YtkegaaonpekkgaaGreatXqGeoB
import Derived.WalkKit
import Derived.WalkSpells
import Derived.WalkLawsBesides
import Derived.Lib.Hide
import Derived.Deep.Draws
import Derived.Deep.AppendLies
import Derived.Test.YtkegaaonpekkgaaGreatXqSxV
namespace Go.Proofs.YtkegaaonpekkgaaGreat.Sx
open Go.RowKit
theorem LF(n:Nat)(hn:n<=65536):aG 498 [.i .u64 n] (.r (I (WV n))):=by
 refine aT Tryz.func498 rfl ?_
 obtain⟨a0,ha0,l0⟩: ∃a,(n/2&&&6148914691236517205)=a/\a<=65536:=⟨_,rfl,Nat.le_trans Nat.and_le_left (by omega)⟩
 obtain⟨a1,ha1,l1⟩: ∃a,(n&&&6148914691236517205)=a/\a<=65536:=⟨_,rfl,Nat.le_trans Nat.and_le_left (by omega)⟩
 obtain⟨b0,hb0,m0⟩: ∃a,((a0+a1)/4&&&3689348814741910323)=a/\a<=131072:=⟨_,rfl,Nat.le_trans Nat.and_le_left (by omega)⟩
 obtain⟨b1,hb1,m1⟩: ∃a,(a0+a1&&&3689348814741910323)=a/\a<=131072:=⟨_,rfl,Nat.le_trans Nat.and_le_left (by omega)⟩
 obtain⟨c0,hc0,p0⟩: ∃a,((b0+b1)/16+(b0+b1)&&&1085102592571150095)=a/\a<=1048576:=⟨_,rfl,Nat.le_trans Nat.and_le_left (by omega)⟩
 refine Vshr.nat (.inl rfl) n 1 (n/2) rfl rfl (by decide) rfl ?_
 refine zL (.inl rfl) (n/2) 6148914691236517205 a0 rfl rfl (by omega) (by decide) (by omega) ha0 ?_
 refine zL (.inl rfl) n 6148914691236517205 a1 rfl rfl (by omega) (by decide) (by omega) ha1 ?_
 refine zK (.inl rfl) (a0+a1) (by omega) (by omega) ?_
 refine Vshr.nat (.inl rfl) (a0+a1) 2 ((a0+a1)/4) rfl rfl (by decide) rfl ?_
 refine zL (.inl rfl) ((a0+a1)/4) 3689348814741910323 b0 rfl rfl (by omega) (by decide) (by omega) hb0 ?_
 refine zL (.inl rfl) (a0+a1) 3689348814741910323 b1 rfl rfl (by omega) (by decide) (by omega) hb1 ?_
 refine zK (.inl rfl) (b0+b1) (by omega) (by omega) ?_
 refine Vshr.nat (.inl rfl) (b0+b1) 4 ((b0+b1)/16) rfl rfl (by decide) rfl ?_
 refine zK (.inl rfl) ((b0+b1)/16+(b0+b1)) (by omega) (by omega) ?_
 refine zL (.inl rfl) ((b0+b1)/16+(b0+b1)) 1085102592571150095 c0 rfl rfl (by omega) (by decide) (by omega) hc0 ?_
 refine Vshr.nat (.inl rfl) c0 8 (c0/256) rfl rfl (by decide) rfl ?_
 refine zK (.inl rfl) (c0+c0/256) (by omega) (by omega) ?_
 obtain⟨d,hd⟩: ∃d,c0+c0/256=d:=⟨_,rfl⟩
 rw[hd]
 refine Vshr.nat (.inl rfl) d 16 (d/65536) rfl rfl (by decide) rfl ?_
 refine zK (.inl rfl) (d+d/65536) (by omega) (by omega) ?_
 obtain⟨e,he⟩: ∃e,d+d/65536=e:=⟨_,rfl⟩
 rw[he]
 refine Vshr.nat (.inl rfl) e 32 (e/4294967296) rfl rfl (by decide) rfl ?_
 refine zK (.inl rfl) (e+e/4294967296) (by omega) (by omega) ?_
 refine zK (.inr rfl) (e+e/4294967296) rfl (by omega) ?_
 refine zL (.inr rfl) (e+e/4294967296) 127 _ rfl rfl (by omega) (by decide) (Nat.lt_of_le_of_lt Nat.and_le_left (by omega:e+e/4294967296<_)) rfl ?_
 subst he hd hc0 hb0 hb1 ha0 ha1
 exact cr
theorem E5(n:Nat)(hn:n<=65536):aG 440 [.i .u64 n] (.r (I (WV n))):=by
 refine aT Tryz.func440 rfl ?_
 refine zq ?_
 exact ze (LF n hn) (cr)
theorem Vx{n:Int}(h: ¬(1<=n/\n<=65536)):sK n=false:=by
 rcases hf:sK n with _ |_
 ·rfl
 ·exact absurd (kp hf) h
theorem Zf(n:Int):aG 357 [I n] (.r (.b (sK n))):=by
 refine aT Tryz.func357 rfl ?_
 refine zh (λh1=>?_) (λh1=>?_)
 ·refine zh (λh2=>?_) (λh2=>?_)
  ·simp only[zb]at h1 h2
   obtain⟨m,rfl⟩:=Int.eq_ofNat_of_zero_le (show 0<=n by omega)
   have h:=KQ (n:=m) (by omega) (by omega)
   refine zK (.inl rfl) m rfl (by omega) ?_
   refine ze (E5 m (by omega)) ?_
   refine zh (λh3=>?_) (λh3=>?_)
   ·simp only[zb]at h3
    exact zf (congrArg RV.b (Eq.symm (h.1 (by omega))))
   ·simp only[zb]at h3
    exact zf (congrArg RV.b (Eq.symm (Bool.eq_false_iff.2 λh4=>h3 (by rw[h.2 h4];rfl))))
  ·simp only[zb]at h2
   exact zf (congrArg RV.b (Eq.symm (Vx (by omega))))
 ·simp only[zb]at h1
  exact zf (congrArg RV.b (Eq.symm (Vx (by omega))))
theorem Zg(x:Int):aG 370 [I x] (.r (.b (t7 x))):=by
 refine aT Tryz.func370 rfl ?_
 (repeat' (first|refine zh (λh=>?_) (λh=>?_)|refine zf ?_|refine zp ?_|refine zq ?_))
 all_goals refine congrArg RV.b (Eq.symm ?_)
 all_goals simp only[t7,Bool.and_eq_true,Bool.and_eq_false_iff,zb]at*
 all_goals omega
theorem Af(x n:Int):aG 291 [I x,I n] (.r (.b (li x n))):=by
 refine aT Tryz.func291 rfl ?_
 refine z6 (Zf n) (λhf=>?_) (λhf=>zf (by simp[li,hf,xT]))
 have hb:=kp hf
 refine zh (λh1=>?_) (λh1=>?_)
 ·refine zd rfl (by omega) (zd rfl (by omega) ?_)
  refine zh (λh2=>?_) (λh2=>?_)
  all_goals refine zf (congrArg RV.b (Eq.symm ?_))
  all_goals simp only[zb]at h1 h2
  all_goals simp[li,hf]
  all_goals omega
 ·simp only[zb]at h1
  refine zf (congrArg RV.b (Eq.symm ?_))
  simp[li,hf]
  omega
theorem Dn{m k:Nat}(hm:m<=131070)(hk:k<=lv m):m/2^k%2=if k<lv m then 1 else 0:=by
 obtain⟨h1,h2,h0⟩:=pD hm
 generalize lv m=l at*
 rcases Nat.lt_or_ge k l with hk' |hk'
 ·rw[if_pos hk']
  obtain⟨j,rfl⟩: ∃j,l=k+(j+1):=⟨l-k-1,by omega⟩
  have h3:m%2^(k+(j+1))/2^k%2=m/2^k%2:=by
   rw[Nat.pow_add,Nat.mod_mul_right_div_self,Nat.pow_succ,Nat.mul_comm,Nat.mod_mul_right_mod]
  have hp:=yy k
  have hj:=yy j
  have e1:2^(k+(j+1))-1=2^k*(2*2^j-1)+(2^k-1):=by
   rw[Nat.pow_add,Nat.pow_succ,Nat.mul_comm (2^j) 2,Nat.mul_sub,Nat.mul_one]
   have:2^k*1<=2^k*(2*2^j):=Nat.mul_le_mul_left _ (by omega)
   omega
  rw[<-h3,h2,e1,Nat.mul_add_div hp,Nat.div_eq_of_lt (by omega)]
  omega
 ·obtain rfl:k=l:=by omega
  rw[if_neg (by omega)];exact h0
theorem Y8(x:Int):aG 371 [I x] (.r (I (uB x))):=by
 refine aT Tryz.func371 rfl ?_
 cases hx:t7 x with
 |false=>
  refine Vcode.scope mixed Tab_ok 0 (λk:Nat=>{F:=[],O:=[],nx:=0}) (λ_=>False) (λ_=>0) rfl ?_ λ_ h=>h.elim
  refine ze (Zg x) ?_
  rw[hx]
  exact zt rfl (zp (zf (congrArg I (dM hx).symm)))
 |true=>
 have hl:=jU hx
 have hg:=Zg x
 rw[hx]at hg
 rw[tp]at hx
 obtain⟨m,rfl⟩:=Int.eq_ofNat_of_zero_le hx.1
 rw[Int.toNat_natCast]at hl
 have hm:m<=131070:=by omega
 have h16:=(pD hm).1
 have hb: ∀k,k<=lv m->m/2^k%2=(if k<lv m then 1 else 0)/\m/2^k<9223372036854775808:=λk hk=>⟨Dn hm hk,Nat.lt_of_le_of_lt (Nat.div_le_self _ _) (by omega)⟩
 rw[hl]
 refine Vcode.scope mixed Tab_ok 0 (λk:Nat=>{F:=[(0,.r (I m)),(3,.r (I k))],O:=[],nx:=0}) (λk=>k<=lv m) (λk=>lv m-k) rfl ?_ ?_
 ·refine ze hg (zu rfl (zq ?_))
  have hb:=hb 0 (by omega)
  refine Vshr.nat (.inr rfl) m 0 (m/2^0) rfl rfl (by omega) rfl ?_
  refine zL (.inr rfl) (m/2^0) 1 (m/2^0%2) rfl rfl hb.2 (by decide) (by omega) (Nat.and_one_is_mod _) ?_
  refine zh (λh=>zp ?_) (λh=>zq ?_)<;>simp only[zb]at h<;>split at hb<;>try omega
  ·refine zd (m:=((1:Nat):Int)) rfl (by omega) ?_
   exact⟨1,by omega,zX [] rfl ⟨cr,cr,trivial⟩ trivial⟩
  ·exact zf (congrArg I (by omega))
 ·intro k hk
  have hb:=hb k hk
  refine Vshr.nat (.inr rfl) m k (m/2^k) rfl rfl (by omega) rfl ?_
  refine zL (.inr rfl) (m/2^k) 1 (m/2^k%2) rfl rfl hb.2 (by decide) (by omega) (Nat.and_one_is_mod _) ?_
  refine zh (λh=>zp ?_) (λh=>zq ?_)<;>simp only[zb]at h<;>split at hb<;>try omega
  ·refine zd (m:=((k+1:Nat):Int)) (by omega) (by omega) ?_
   exact⟨k+1,by omega,by omega,zX [] rfl ⟨cr,cr,trivial⟩ trivial⟩
  ·exact zf (congrArg I (by omega))
theorem OX(n:Int):aG 451 [I n] (.r (I (PU n))):=by
 refine aT Tryz.func451 rfl ?_
 refine z6 (Zf n) (λhf=>zu rfl (zq ?_)) (λhf=>zt rfl (zp (zf (by simp[PU,hf,xT]))))
 have:=kp hf
 exact zd rfl (by omega) (zf (by simp[PU,hf]))
theorem PM{d:Nat}(h:d<=16):1<=2^d/\2^d<=65536:=⟨yy d,Nat.le_trans (Nat.pow_le_pow_right (by omega) h) (by decide)⟩
theorem Ue(x:Int):0<=rE x/\rE x<=32768:=by
 have:=gI x
 unfold rE
 split
 ·have h1:=yy (uB x-1).toNat
  have h2:2^(uB x-1).toNat<=2^15:=Nat.pow_le_pow_right (by omega) (by omega)
  have e:(2:Int)^(uB x-1).toNat=((2^(uB x-1).toNat:Nat):Int):=by simp
  omega
 ·omega
theorem OL(x:Int):aG 422 [I x] (.r (I (rE x))):=by
 refine aT Tryz.func422 rfl ?_
 refine ze (Y8 x) ?_
 have hb:=gI x
 refine zh (λh=>zp ?_) (λh=>zq ?_)
 ·simp only[zb]at h
  refine zd rfl (by omega) ?_
  have:=PM (d:=(uB x-1).toNat) (by omega)
  refine Vshl.nat (.inr rfl) 1 (uB x-1).toNat _ rfl (by omega) (by omega) (Nat.one_mul _) (by omega) ?_
  exact zf (congrArg I (by unfold rE;rw[if_pos h];simp))
 ·simp only[zb]at h
  exact zf (congrArg I (by unfold rE;rw[if_neg h]))
theorem E0(x:Int):aG 315 [I x] (.r (I (WR x))):=by
 refine aT Tryz.func315 rfl ?_
 refine ze (OL x) ?_
 have hb:=Ue x
 refine zh (λh=>zp ?_) (λh=>zq ?_)
 ·simp only[zb]at h
  exact zf (congrArg I (by unfold WR;rw[if_pos h]))
 ·simp only[zb]at h
  have hx:0<=x/\x<=131070:=by
   rcases hn:t7 x with _ |_
   ·exact absurd (by simp[rE,dM hn]) h
   ·rwa[tp]at hn
  exact zd rfl (by omega) (zf (congrArg I (by unfold WR;rw[if_neg h])))
theorem HR(x:Int):aG 317 [I x] (.r (I (ZQ x))):=by
 refine aT Tryz.func317 rfl ?_
 refine ze (OL x) ?_
 have hb:=Ue x
 refine zh (λh=>zp ?_) (λh=>zq ?_)
 ·simp only[zb]at h
  exact zf (congrArg I (by unfold ZQ;rw[if_pos h]))
 ·simp only[zb]at h
  have hx:0<=x/\x<=131070:=by
   rcases hn:t7 x with _ |_
   ·exact absurd (by simp[rE,dM hn]) h
   ·rwa[tp]at hn
  exact zd rfl (by omega) (zf (congrArg I (by unfold ZQ;rw[if_neg h])))
theorem HV(x y:Int):aG 272 [I x,I y] (.r (.b (sI x y))):=by
 refine aT Tryz.func272 rfl ?_
 refine z6 (Zg x) (λhx=>zu rfl ?_) (λhx=>zt rfl (zp (zf (by simp[sI,hx,xT]))))
 refine z6 (Zg y) (λhy=>zu rfl (zq ?_)) (λhy=>zt rfl (zp (zf (by simp[sI,hx,hy,xT]))))
 refine ze (Y8 y) ?_
 have hl:0<=uB y:=by rw[jU hy];omega
 have hb:=gI y
 have hp:=PM (d:=(uB y).toNat) (by omega)
 have hw:lH y=((2^(uB y).toNat:Nat):Int)-1:=by rw[J6];simp
 have hx':=tp.1 hx
 have hy':=tp.1 hy
 refine Vshl.nat (.inr rfl) 1 (uB y).toNat _ rfl (by omega) (by omega) (Nat.one_mul _) (by omega) ?_
 refine zd rfl (by omega) ?_
 refine zd rfl (by omega) ?_
 have fin: ∀b:Bool,(b=true↔y-lH y<=x/\x<=y+lH y)->b=sI x y:=λb h=>by
  rw[Bool.eq_iff_iff,Oj,h]
  exact⟨λh=>⟨⟨hx,hy⟩,h⟩,λh=>h.2⟩
 refine zh (λh1=>?_) (λh1=>?_)
 ·refine zd rfl (by omega) ?_
  refine zh (λh2=>?_) (λh2=>?_)
  all_goals simp only[zb]at h1 h2
  all_goals refine zf (congrArg RV.b (fin _ ?_))
  ·exact⟨λ_=>by omega,λ_=>rfl⟩
  ·exact⟨λh=>(by cases h),λ_=>by omega⟩
 ·simp only[zb]at h1
  exact zf (congrArg RV.b (fin _ ⟨λh=>(by cases h),λ_=>by omega⟩))
theorem DA{x n:Int}(h:li x n=true):0<=x/\x<=131070/\1<=n/\n<=65536/\x<=2*n-2:=by
 rw[fU]at h
 have:=kp h.1
 omega
theorem Wb{x n:Int}(h:li x n=false\/x=n-1):wG x n= -1:=by
 rcases h with h |h<;>simp[wG,h]
theorem GP{m d:Nat}(hd:d<=16)(hm:m<=2*2^d-2)(hne:m≠2^d-1):lv m<d:=by
 have h16:2^d<=2^16:=Nat.pow_le_pow_right (by omega) hd
 obtain⟨_,h1,h2⟩:=pD (x:=m) (by omega)
 have hp:=yy d
 rcases Nat.lt_or_ge (lv m) d with h |h
 ·exact h
 ·exfalso
  have h3:2^d<=2^lv m:=Nat.pow_le_pow_right (by omega) h
  have h4:=Nat.div_add_mod m (2^lv m)
  rw[h1]at h4
  rcases Nat.eq_zero_or_pos (m/2^lv m)with h5 |h5
  ·rw[h5]at h4
   have:2^lv m<2^(d+1):=by rw[Nat.pow_succ];omega
   have:lv m<d+1:=(Nat.pow_lt_pow_iff_right (by omega)).1 this
   have:lv m=d:=by omega
   rw[this]at h4
   omega
  ·have:2^lv m*1<=2^lv m*(m/2^lv m):=Nat.mul_le_mul_left _ h5
   omega
theorem Fi{m l:Nat}(hm:m<=131070)(hl:l=lv m)(h16:l<16):(m|||2^l)=m+2^l/\(m+2^l)&&&(18446744073709551615-2^(l+1))=RP m:=by
 obtain⟨_,h1,h2⟩:=pD hm
 rw[<-hl]at h1 h2
 have hp:=yy l
 have hb:2^(l+1)<=2^16:=Nat.pow_le_pow_right (by omega) (by omega)
 have e2:2^(l+1)=2*2^l:=by rw[Nat.pow_succ];omega
 refine⟨Mt h2,?_⟩
 rw[show 18446744073709551615-2^(l+1)=2^64-(2^(l+1)+1)by omega,O9 (by omega) (by omega)]
 have hd:(m+2^l)/2^(l+1)=m/2^(l+1):=by
  have e4:=Nat.div_add_mod m (2^(l+1))
  have e5:m%2^(l+1)=2^l-1:=by
   rw[Nat.pow_succ,Nat.mod_mul,h1,h2];omega
  rw[e5]at e4
  have e6:m+2^l=(2^(l+1)-1)+m/2^(l+1)*2^(l+1):=by rw[Nat.mul_comm (m/2^(l+1))];omega
  rw[e6,Nat.add_mul_div_right _ _ (yy _),Nat.div_eq_of_lt (by omega)]
  omega
 rw[hd]
 unfold RP
 rw[<-hl]
 have hge:m/2^(l+1)%2=1->2^(l+1)<=m:=λh=>by
  rcases Nat.lt_or_ge m (2^(l+1))with h3 |h3
  ·rw[Nat.div_eq_of_lt h3]at h;omega
  ·exact h3
 rcases Nat.mod_two_eq_zero_or_one (m/2^(l+1))with h |h
 ·rw[h];simp
 ·have:=hge h
  rw[h,if_neg (by omega)]
  omega
theorem d9(x n:Int):aG 387 [I x,I n] (.r (I (wG x n))):=by
 refine aT Tryz.func387 rfl ?_
 refine z6 (Af x n) (λho=>zu rfl ?_) (λho=>zt rfl (zp (zf (congrArg I (Wb (.inl ho)).symm))))
 obtain⟨b1,b2,b3,b4,b5⟩:=DA ho
 refine zd rfl (by omega) ?_
 refine zh (λh=>zp ?_) (λh=>zq ?_)
 ·simp only[zb]at h
  exact zf (congrArg I (Wb (.inr h)).symm)
 simp only[zb]at h
 refine ze (Y8 x) ?_
 obtain⟨m,rfl⟩:=Int.eq_ofNat_of_zero_le b1
 have hl:uB (m:Int)=((lv m:Nat):Int):=by rw[jU (tp.2 (by omega)),Int.toNat_natCast]
 obtain⟨d,hd,hn⟩:=mc (fU.1 ho).1
 have h16:lv m<16:=by have:=GP (m:=m) hd (by omega) (by have:=yy d;omega);omega
 obtain⟨e1,e2⟩:=Fi (m:=m) (by omega) rfl h16
 have hp:=PM (d:=lv m) (by omega)
 have hp2:2^(lv m+1)=2*2^lv m:=by rw[Nat.pow_succ];omega
 rw[hl]
 refine aV ?_
 refine Vshl.nat (.inr rfl) 1 (lv m) _ rfl rfl (by omega) (Nat.one_mul _) (by omega) ?_
 refine zL (.inr rfl) m (2^lv m) (m+2^lv m) rfl rfl (by omega) (by omega) (by omega) e1 ?_
 refine zd (m:=((lv m+1:Nat):Int)) (by omega) (by omega) ?_
 refine Vshl.nat (.inr rfl) 1 (lv m+1) _ rfl rfl (by omega) (Nat.one_mul _) (by omega) ?_
 refine zL (.inr rfl) (m+2^lv m) (2^(lv m+1)) (RP m) rfl rfl (by omega) (by omega) (by rw[<-e2];exact Nat.lt_of_le_of_lt Nat.and_le_left (by omega)) e2 ?_
 refine zf (congrArg I ?_)
 unfold wG
 rw[ho,Bool.true_and,if_pos (by rw[decide_eq_true_eq];exact h),Int.toNat_natCast]
theorem OY(x n:Int):aG 386 [I x,I n] (.r (I (lW x n))):=by
 refine aT Tryz.func386 rfl ?_
 refine ze (d9 x n) ?_
 refine zh (λh=>zp ?_) (λh=>zq ?_)
 ·simp only[zb]at h
  exact zf (congrArg I (by unfold lW;rw[if_pos h]))
 simp only[zb]at h
 refine zh (λh2=>zp ?_) (λh2=>zq ?_)
 ·simp only[zb]at h2
  exact ze (HR _) (zf (congrArg I (by unfold lW;rw[if_neg h,if_pos h2])))
 ·simp only[zb]at h2
  exact ze (E0 _) (zf (congrArg I (by unfold lW;rw[if_neg h,if_neg h2])))
theorem Wc{n:Int}: ∀(f:Nat) (x:Int),(sa n f x).length<=f
 |0,x=>by simp[sa]
 |f+1,x=>by
  unfold sa
  split
  ·simp
  ·simp only[List.length_cons];have:=Wc (n:=n) f (wG x n);omega
theorem M0(x n:Int):(fV x n).length<=17:=Wc 17 x
theorem V5(x n:Int):aG 284 [I x,I n] (Uh (fV x n)):=by
 refine aT Tryz.func284 rfl ?_
 refine ze (d9 x n) ?_
 refine zy (λi:List Int×Int=>{F:=[(0,.r (I (wG i.2 n))),(1,.r (I n)),(5,.own 0)],O:=[(0,some (.ch 3 1 i.1.length (i.1.map I) true))],nx:=1}) (λi=>∃f,i.1++sa n f i.2=fV x n/\i.1.length+f=17/\(i.1.length:Int)<=uB i.2+1) (λi=>17-i.1.length) ([],x)
  ⟨17,rfl,rfl,by have:=gI x;show(0:Int)<=uB x+1;omega⟩ ((uh 5 3 1 rfl).trans (zX [(0,0)] rfl ⟨cr,cr,rfl,trivial⟩ ⟨⟨rfl,rfl,rfl,rfl,zn _⟩,trivial⟩)) ?_
 rintro⟨l,y⟩ ⟨f,h1,h2,h3⟩
 dsimp only at h1 h2 h3⊢
 refine zh (λh=>zp ?_) (λh=>zq ?_)
 ·simp only[zb]at h
  obtain⟨_,_,h5,h6⟩:=My (x:=y) (n:=n) h
  have h7:=gI (wG y n)
  obtain⟨f,rfl⟩: ∃g,f=g+1:=⟨f-1,by omega⟩
  rw[sa,if_neg (by omega)]at h1
  refine zw ?_
  refine z7 (j:=(l++[wG y n]).length) (zs:=(l++[wG y n]).map I) (by simp only[maxLen];omega) (by show(l.length+1)*8<=_;omega) (by simp) (by simp[uu,cellsOf]) ?_
  refine ze (d9 _ n) ?_
  exact⟨(l++[wG y n],wG y n),⟨f,by rw[<-h1];simp,by simp;omega,by simp;omega⟩,by simp;omega,zX [(0,_)] rfl ⟨cr,cr,rfl,trivial⟩ ⟨JK rfl,trivial⟩⟩
 ·simp only[zb]at h
  have e:sa n f y=[]:=by
   cases f with
   |zero=>rfl
   |succ f=>rw[sa,if_pos (by omega)]
  rw[e,List.append_nil]at h1
  subst h1
  exact rfl
theorem TR{n y:Int}{k:Nat}{l:List Int}{j:Nat}(h:l.drop j=sa n k y)(hj:j<l.length): ∃k',k=k'+1/\l[j]=wG y n/\0<=wG y n/\l.drop (j+1)=sa n k' (wG y n)/\rX n k y=lW y n::rX n k' (wG y n):=by
 rw[List.drop_eq_getElem_cons hj]at h
 cases k with
 |zero=>cases h
 |succ k=>
  rw[sa]at h
  split at h
  ·cases h
  ·obtain⟨h1,h2⟩:=List.cons.inj h
   exact⟨k,rfl,h1,by omega,h2,by rw[rX,if_neg (by assumption)]⟩
theorem V1(x n:Int):aG 283 [I x,I n] (Uh (fG x n)):=by
 refine aT Tryz.func283 rfl ?_
 refine ze (V5 x n) ?_
 have hpl:=M0 x n
 obtain⟨p,hp⟩: ∃p,fV x n=p:=⟨_,rfl⟩
 rw[hp]at hpl⊢
 refine zy (λi:List Int×Int=>{F:=[(0,.r (I i.2)),(1,.r (I n)),(5,.own 0),(10,.r (is p)),(11,.r (I p.length)),(12,.r (I i.1.length))],O:=[(0,some (.ch 3 1 i.1.length (i.1.map I) true))],nx:=1}) (λi=>i.1.length<=p.length/\∃k,p.drop i.1.length=sa n k i.2/\i.1++rX n k i.2=fG x n) (λi=>p.length-i.1.length) ([],x)
  ⟨by simp,17,hp.symm,rfl⟩ ((uh 5 3 1 rfl).trans (zX [(0,1)] rfl ⟨cr,cr,rfl,cr,cr,cr,trivial⟩ ⟨⟨rfl,rfl,rfl,rfl,zn _⟩,trivial⟩)) ?_
 rintro⟨l,y⟩ ⟨h0,k,h1,h2⟩
 dsimp only at h0 h1 h2⊢
 refine zh (λh=>zp ?_) (λh=>zq ?_)
 ·simp only[zb]at h
  have hj:l.length<p.length:=by omega
  obtain⟨k',rfl,e1,e2,e3,e4⟩:=TR h1 hj
  refine zm (by omega) (by omega) (xn rfl hj) (zg rfl ?_)
  refine ze (OY y n) ?_
  refine zw ?_
  refine z7 (j:=(l++[lW y n]).length) (zs:=(l++[lW y n]).map I) (by simp only[maxLen];omega) (by show(l.length+1)*8<=_;omega) (by simp) (by simp[uu,cellsOf]) ?_
  refine zd (m:=(((l++[lW y n]).length:Nat):Int)) (by simp) (by omega) ?_
  exact⟨(l++[lW y n],p[l.length]),⟨by simp;omega,k',by rw[e1];simpa using e3,by rw[e1,<-h2,e4];simp⟩,by simp;omega,zX [(0,_)] rfl ⟨cr,cr,rfl,cr,cr,cr,trivial⟩ ⟨JK rfl,trivial⟩⟩
 ·simp only[zb]at h
  rw[List.drop_eq_nil_of_le (by omega)]at h1
  have e:rX n k y=[]:=by
   cases k with
   |zero=>rfl
   |succ k=>
    rw[sa]at h1
    split at h1
    ·rw[rX,if_pos (by assumption)]
    ·cases h1
  rw[e,List.append_nil]at h2
  subst h2
  exact rfl
abbrev A8(t:D3):List RV:=[I t.at_,I t.lo,I t.hi]
def ds(l:List D3):RV:= .sl 3 l.length (l.flatMap A8)
end Go.Proofs.YtkegaaonpekkgaaGreat.Sx

namespace Go.Proofs.YtkegaaonpekkgaaGreat
def yg:Nat->Nat->List UInt8
 |0,_=>[]
 |s+1,n=>UInt8.ofNat (n/256^s)::yg s n
theorem yj: ∀(s n:Nat),(yg s n).length=s
 |0,_=>rfl
 |s+1,n=>by rw[yg,List.length_cons,yj s n]
def uY(n:Nat):List UInt8:=if n<64 then yg 1 n else if n<16384 then yg 2 (16384+n)else yg 4 (2147483648+n)
def vX(n:Nat):Nat:=if n<64 then 1 else if n<16384 then 2 else 4
theorem dK(n:Nat):(uY n).length=vX n:=by
 unfold uY vX
 split
 ·exact yj _ _
 ·split<;>exact yj _ _
theorem mu(n:Nat):1<=vX n/\vX n<=4:=by unfold vX;split<;>(try split)<;>omega
def zZ(v:List UInt8):List UInt8:=uY v.length++v
theorem bn(v:List UInt8):(zZ v).length=vX v.length+v.length:=by rw[zZ,List.length_append,dK]
theorem yf(v:List UInt8):(zZ v).length<=v.length+4:=by rw[bn];have:=mu v.length;omega
theorem M9(i:Nat):2^(8*i)=256^i:=by rw[Nat.pow_mul]
end Go.Proofs.YtkegaaonpekkgaaGreat

namespace Go.Proofs.YtkegaaonpekkgaaGreat.Sx
open Go.RowKit
def D9(l:List UInt8):Res:= .own 5 1 l.length (l.map U8)
theorem jx{ρ:List (Nat×Nat)}{S:St}{e:TypeId}{b:Bool}{l m:List UInt8}(h:l=m):jy ρ S (.ch e 1 l.length (l.map U8) b) (.ch e 1 m.length (m.map U8) b):=by
 subst h;exact⟨rfl,rfl,rfl,rfl,zn _⟩
theorem X4(l:List UInt8)(hl:l.length<=140737488355328):aG 237 [bs l] (D9 l):=by
 refine yT (T:=Tab) mixed Tab_ok Tryz.func237 rfl (by kernel_rfl) ?_
 refine Vstep.nilSl rfl rfl rfl Tryz.underlying22 (λh0=>zp ?_) (zq ?_)
 ·obtain rfl:=List.eq_nil_of_length_eq_zero h0
  exact⟨_,nH 2 5 1 rfl,rfl⟩
 ·refine Vpub.own ?_
  refine z7 (j:=l.length) (zs:=l.map U8) (by simp only[maxLen];omega) (by show(0+l.length)*1<=_;omega) (by omega) rfl ?_
  exact⟨_,zo _,rfl⟩
theorem Xz(l:List UInt8)(hl:l.length<=140737488355328):aG 42 [bs l] (D9 l):=by
 refine yT (T:=Tab) mixed Tab_ok Tryz.func42 rfl (by kernel_rfl) ?_
 refine Vstep.nilSl rfl rfl rfl Tryz.underlying22 (λh0=>zp ?_) (zq ?_)
 ·obtain rfl:=List.eq_nil_of_length_eq_zero h0
  exact⟨_,nH 2 5 1 rfl,rfl⟩
 ·refine Vpub.own ?_
  refine z7 (j:=l.length) (zs:=l.map U8) (by simp only[maxLen];omega) (by show(0+l.length)*1<=_;omega) (by omega) rfl ?_
  exact⟨_,zo _,rfl⟩
theorem OP(l:List Int)(hl:l.length<=17592186044416):aG 308 [is l] (.own 3 1 l.length (l.map I)):=by
 refine yT (T:=Tab) mixed Tab_ok Tryz.func308 rfl (by kernel_rfl) ?_
 refine Vstep.nilSl rfl rfl rfl Tryz.underlying36 (λh0=>zp ?_) (zq ?_)
 ·obtain rfl:=List.eq_nil_of_length_eq_zero h0
  exact⟨_,nH 2 3 1 rfl,rfl⟩
 ·refine Vpub.own ?_
  refine z7 (j:=l.length) (zs:=l.map I) (by simp only[maxLen];omega) (by show(0+l.length)*8<=_;omega) (by omega) rfl ?_
  exact⟨_,zo _,rfl⟩
theorem V8(l:List UInt8)(hl:l.length<=140737488355328):aG 237 [bs l] (xJ l):=mQ (X4 l hl)
theorem x4(l:List UInt8)(hl:l.length<=140737488355328):aG 42 [bs l] (xJ l):=mQ (Xz l hl)
theorem LD(l:List Int)(hl:l.length<=17592186044416):aG 308 [is l] (Uh l):=mQ (OP l hl)
theorem WN(n:Int)(hn:n=1\/n=2\/n=4\/n=8):aG 318 [I n] (.r (.b true)):=by
 refine aT Tryz.func318 rfl ?_
 rcases hn with rfl |rfl |rfl |rfl
 ·refine zt rfl ?_
  exact cr
 ·refine zu rfl (zt rfl ?_)
  exact cr
 ·refine zu rfl (zu rfl (zt rfl ?_))
  exact cr
 ·refine zu rfl (zu rfl (zu rfl (zt rfl ?_)))
  exact cr
theorem dm{s n i:Nat}(hi:i<s):(yg s n).take (i+1)=(yg s n).take i++[UInt8.ofNat (n/256^(s-1-i))]:=by
 have: ∀(s i:Nat),i<s->(yg s n)[i]?=some (UInt8.ofNat (n/256^(s-1-i))):=by
  intro s
  induction s with
  |zero=>intro i h;omega
  |succ s ih=>
   intro i h
   cases i with
   |zero=>simp[yg]
   |succ i=>
    rw[yg,List.getElem?_cons_succ,ih i (by omega)]
    rw[show s+1-1-(i+1)=s-1-i by omega]
 rw[List.take_add_one,this s i hi];rfl
theorem OU(l:List UInt8)(size m:Nat)(hl:l.length<=1000000000000)(hs:size=1\/size=2\/size=4\/size=8):aG 205 [bs l,I size,.i .u64 m] (D9 (l++yg size m)):=by
 refine aT Tryz.func205 rfl ?_
 have hlen: ∀j,(l++(yg size m).take j).length<=l.length+8:=λj=>by rw[List.length_append,List.length_take,yj];omega
 refine ze (X4 l (by omega)) ?_
 refine ze (WN size (by omega)) ?_
 refine zu rfl (zq ?_)
 refine zd rfl (by omega) ?_
 refine zy (λj:Nat=>{F:=[(0,.own 0),(2,.r (.i .u64 m)),(7,.r (I ((size:Int)-1-j)))],O:=[(0,some (.ch 5 1 (l++(yg size m).take j).length ((l++(yg size m).take j).map U8) false))],nx:=1}) (λj=>j<=size) (λj=>size-j) 0 (by omega)
  (zX [(0,0)] rfl ⟨rfl,cr,zf (congrArg I (by simp)),trivial⟩ ⟨jx (by simp),trivial⟩) ?_
 intro j hj
 have hlj:=hlen j
 refine zh (λh=>zp ?_) (λh=>zq ?_)
 ·simp only[zb]at h
  have hj':j<size:=by omega
  have ht:=dm (n:=m) hj'
  refine zd (m:=((8*(size-1-j):Nat):Int)) (by omega) (by omega) ?_
  refine Vshr.nat (.inl rfl) m (8*(size-1-j)) (m/256^(size-1-j)) rfl rfl (by omega) (by rw[M9]) ?_
  refine Vint.u8 (m/256^(size-1-j)) rfl ?_
  refine zw ?_
  refine z7 (j:=(l++(yg size m).take (j+1)).length) (zs:=(l++(yg size m).take (j+1)).map U8) (by simp only[maxLen];omega) (by show((l++(yg size m).take j).length+1)*1<=_;omega) (by rw[ht];simp only[List.length_append,List.length_cons,List.length_nil];omega)
   (by rw[ht,<-List.append_assoc];exact(List.map_append (f:=U8) (l₁:=l++(yg size m).take j) (l₂:=[UInt8.ofNat (m/256^(size-1-j))])).symm) ?_
  refine zd (m:=(size:Int)-1-((j+1:Nat):Int)) (by omega) (by omega) ?_
  exact⟨j+1,by omega,by omega,zX [(0,_)] rfl ⟨rfl,cr,cr,trivial⟩ ⟨jx rfl,trivial⟩⟩
 ·simp only[zb]at h
  obtain rfl:j=size:=by omega
  rw[List.take_of_length_le (by rw[yj];omega)]
  exact rfl
theorem sp(l:List UInt8)(size m:Nat)(hl:l.length<=1000000000000)(hs:size=1\/size=2\/size=4\/size=8):aG 205 [bs l,I size,.i .u64 m] (xJ (l++yg size m)):=mQ (OU l size m hl hs)
theorem gm(n:Nat)(hn:n<=1073741823):aG 319 [I n] (.r (I (vX n))):=by
 refine aT Tryz.func319 rfl ?_
 unfold vX
 (repeat' (first|refine zh (λh=>?_) (λh=>?_)|refine zf ?_|refine zp ?_|refine zq ?_))
 all_goals simp only[zb]at*
 all_goals first|omega|(refine congrArg I ?_;split<;>(try split)<;>omega)
theorem LH(l:List UInt8)(n:Nat)(hl:l.length<=1000000000000)(hn:n<=1073741823):aG 207 [bs l,I n] (xJ (l++uY n)):=by
 refine aT Tryz.func207 rfl ?_
 refine ze (gm n hn) ?_
 obtain⟨s,k,v,h1,h2,h3,h4,h5⟩: ∃s k v,vX n=s/\uY n=yg s v/\(s=1\/s=2\/s=4)/\k=s/2/\(k*2^(8*s-2)|||n)=v:=by
  unfold vX uY
  split
  ·exact⟨1,0,n,rfl,rfl,by omega,rfl,by simp⟩
  ·split
   ·exact⟨2,1,16384+n,rfl,rfl,by omega,rfl,nat_join 14 (1*2^14) n (by decide) (by omega)⟩
   ·exact⟨4,2,2147483648+n,rfl,rfl,by omega,rfl,nat_join 30 (2*2^30) n (by decide) (by omega)⟩
 rw[h1,h2]
 have hk:k*2^(8*s-2)<=2147483648:=by
  rcases h3 with rfl |rfl |rfl<;>subst h4<;>decide
 have hv:v<9223372036854775808:=by rw[<-h5];exact Nat.or_lt_two_pow (n:=63) (by omega) (by omega)
 refine zu (by simp only[zb];omega) (zq ?_)
 refine⟨by decide,(k:Int),by rw[Int.tdiv_eq_ediv_of_nonneg (by omega)];exact(by omega:(k:Int)=(s:Int)/2).trans (wrap_i64 (by omega)),?_⟩
 refine zK (.inl rfl) k rfl (by omega) ?_
 refine zd (m:=((8*s:Nat):Int)) (by omega) (by omega) ?_
 refine zd (m:=((8*s-2:Nat):Int)) (by omega) (by omega) ?_
 refine Vshl.nat (.inl rfl) k (8*s-2) _ rfl rfl (by omega) rfl (by omega) ?_
 refine zK (.inl rfl) n rfl (by omega) ?_
 refine zL (.inl rfl) (k*2^(8*s-2)) n v rfl rfl (by omega) (by omega) hv h5 ?_
 exact ze (sp l s v hl (by omega)) rfl
theorem x5(l m:List UInt8)(hl:l.length<=1000000000000)(hm:m.length<=1073741823):aG 120 [bs l,bs m] (xJ (l++zZ m)):=by
 refine aT Tryz.func120 rfl ?_
 have hv:=yf m
 have hb:(l++uY m.length).length<=l.length+4:=by rw[List.length_append,dK];have:=mu m.length;omega
 have e:l++zZ m=l++uY m.length++m:=by rw[zZ,List.append_assoc]
 refine ze (LH l m.length hl hm) ?_
 refine z7 (j:=(l++zZ m).length) (zs:=(l++zZ m).map U8) (by simp only[maxLen];omega) (by show((l++uY m.length).length+m.length)*1<=_;omega) (by rw[e,List.length_append (bs:=m)]) (by rw[e,List.map_append (l₂:=m)]) ?_
 exact rfl
theorem HP(n:Nat)(hn:n<=1073741823):aG 138 [I n] (xJ (uY n)):=by
 refine aT Tryz.func138 rfl ?_
 have tq: ∀d:Int,0<d->((n:Int).tdiv d)=(n:Int)/d:=λd _=>Int.tdiv_eq_ediv_of_nonneg (by omega)
 have tr: ∀a d:Nat,((a:Int).tmod d)=((a%d:Nat):Int):=λa d=>by rw[Int.tmod_eq_emod_of_nonneg (by omega)];rfl
 refine zh (λh=>zp ?_) (λh=>zq ?_)
 ·simp only[zb]at h
  have e:uY n=[UInt8.ofNat n]:=by unfold uY;rw[if_pos (by omega)];simp[yg]
  refine Vint.u8 n rfl ?_
  rw[e]
  exact zw rfl
 simp only[zb]at h
 refine zh (λh2=>zp ?_) (λh2=>zq ?_)
 ·simp only[zb]at h2
  have e:uY n=[UInt8.ofNat (64+n/256),UInt8.ofNat (n%256)]:=by
   unfold uY;rw[if_neg (by omega),if_pos (by omega)]
   simp only[yg,List.cons.injEq,and_true,Nat.pow_zero,Nat.div_one]
   exact⟨congrArg UInt8.ofNat (by omega),by apply UInt8.toNat_inj.1;first|(simp;done)|(simp;omega)⟩
  refine⟨by decide,((n/256:Nat):Int),by rw[tq 256 (by decide)];exact(by omega:((n/256:Nat):Int)=(n:Int)/256).trans (wrap_i64 (by omega)),?_⟩
  refine zd (m:=((64+n/256:Nat):Int)) (by omega) (by omega) ?_
  refine Vint.u8 (64+n/256) rfl ?_
  refine⟨by decide,_,(tr n 256).symm,?_⟩
  refine Vint.u8 (n%256) rfl ?_
  rw[e]
  exact zw rfl
 ·simp only[zb]at h2
  have e:uY n=[UInt8.ofNat (128+n/16777216),UInt8.ofNat (n/65536%256),UInt8.ofNat (n/256%256),UInt8.ofNat (n%256)]:=by
   unfold uY;rw[if_neg (by omega),if_neg (by omega)]
   simp only[yg,List.cons.injEq,and_true,Nat.pow_zero,Nat.div_one]
   refine⟨congrArg UInt8.ofNat (by omega),?_,?_,?_⟩<;>(apply UInt8.toNat_inj.1;first|(simp;done)|(simp;omega))
  refine⟨by decide,((n/16777216:Nat):Int),by rw[tq 16777216 (by decide)];exact(by omega:((n/16777216:Nat):Int)=(n:Int)/16777216).trans (wrap_i64 (by omega)),?_⟩
  refine zd (m:=((128+n/16777216:Nat):Int)) (by omega) (by omega) ?_
  refine Vint.u8 (128+n/16777216) rfl ?_
  refine⟨by decide,((n/65536:Nat):Int),by rw[tq 65536 (by decide)];exact(by omega:((n/65536:Nat):Int)=(n:Int)/65536).trans (wrap_i64 (by omega)),?_⟩
  refine⟨by decide,_,(tr (n/65536) 256).symm,?_⟩
  refine Vint.u8 (n/65536%256) rfl ?_
  refine⟨by decide,((n/256:Nat):Int),by rw[tq 256 (by decide)];exact(by omega:((n/256:Nat):Int)=(n:Int)/256).trans (wrap_i64 (by omega)),?_⟩
  refine⟨by decide,_,(tr (n/256) 256).symm,?_⟩
  refine Vint.u8 (n/256%256) rfl ?_
  refine⟨by decide,_,(tr n 256).symm,?_⟩
  refine Vint.u8 (n%256) rfl ?_
  rw[e]
  exact zw rfl
theorem w9(m:List UInt8)(hm:m.length<=1073741823):aG 61 [bs m] (xJ (zZ m)):=by
 refine aT Tryz.func61 rfl ?_
 have hb:(uY m.length).length<=4:=by rw[dK];have:=mu m.length;omega
 refine ze (HP m.length hm) ?_
 refine z7 (j:=(zZ m).length) (zs:=(zZ m).map U8) (by simp only[maxLen];omega) (by show((uY m.length).length+m.length)*1<=_;omega) (by rw[zZ,List.length_append]) (by rw[zZ,List.map_append]) ?_
 exact rfl
theorem rZ(size m:Nat)(hs:size<=8)(hm:m<18446744073709551616):aG 60 [I size,.i .u64 m] (xJ (yg size m)):=by
 refine aT Tryz.func60 rfl ?_
 refine zy (λj:Nat=>{F:=[(0,.r (I size)),(1,.r (.i .u64 ((m/256^j:Nat):Int))),(5,.own 0),(6,.r (I j))],O:=[(0,some (.ch 5 1 (yg j m).length ((yg j m).map U8) true))],nx:=1}) (λj=>j<=size) (λj=>size-j) 0 (by omega)
  ((uh 5 5 1 rfl).trans (zX [(0,0)] rfl ⟨cr,zf (by simp),rfl,cr,trivial⟩ ⟨⟨rfl,rfl,rfl,rfl,zn _⟩,trivial⟩)) ?_
 intro j hj
 have hbl:=yj j m
 have hd:m/256^j<18446744073709551616:=Nat.lt_of_le_of_lt (Nat.div_le_self _ _) hm
 refine zh (λh=>zp ?_) (λh=>zq ?_)
 ·simp only[zb]at h
  refine Vrem.nat (m/256^j) 256 rfl rfl (by decide) ?_
  refine Vint.u8 (m/256^j%256) rfl ?_
  refine zw ?_
  refine z7 (j:=(yg (j+1) m).length) (zs:=(yg (j+1) m).map U8) (by simp only[maxLen];omega) (by show(1+(yg j m).length)*1<=_;omega) (by rw[yj,yj];omega) (by rw[yg,fu];rfl) ?_
  refine Vquo.nat (m/256^j) 256 rfl rfl (by decide) hd ?_
  refine zd (m:=((j+1:Nat):Int)) (by omega) (by omega) ?_
  exact⟨j+1,by omega,by omega,zX [(0,_)] rfl ⟨cr,zf (by rw[Nat.pow_succ,Nat.div_div_eq_div_mul]),rfl,cr,trivial⟩ ⟨jx rfl,trivial⟩⟩
 ·simp only[zb]at h
  obtain rfl:j=size:=by omega
  exact rfl
theorem pA(l m:List UInt8):aG 24 [bs l,bs m] (.r (.b (decide (l=m)))):=by
 refine X9 (t6 Tryz.func24 rfl (by kernel_rfl)) λhml=>?_
 refine aT Tryz.func24 rfl ?_
 refine zh (λh=>zp ?_) (λh=>zq ?_)
 ·simp only[zb]at h
  exact zf (congrArg RV.b (Eq.symm (decide_eq_false λe=>h (by rw[e]))))
 simp only[zb]at h
 refine zy (λi:Nat=>⟨[(0,.r (bs l)),(1,.r (bs m)),(5,.r (I i))],[],0⟩) (λi=>i<=l.length/\l.take i=m.take i) (λi=>l.length-i) 0 ⟨by omega,by simp⟩ (zX [] rfl ⟨cr,cr,cr,trivial⟩ trivial) ?_
 rintro i ⟨hi,he⟩
 refine zh (λh3=>zp ?_) (λh3=>zq ?_)
 ·simp only[zb]at h3
  have h1:i<l.length:=by omega
  have h2:i<m.length:=by omega
  refine aV ?_
  refine zm (by omega) (by omega) (xn rfl h1) (zg rfl ?_)
  refine zm (by omega) (by omega) (xn rfl h2) (zg rfl ?_)
  refine zh (λh4=>zp ?_) (λh4=>zq ?_)
  ·simp only[zb,Int.natCast_inj,UInt8.toNat_inj]at h4
   refine zf (congrArg RV.b (Eq.symm (decide_eq_false λe=>?_)))
   subst e;exact h4 rfl
  ·simp only[zb,Int.natCast_inj,UInt8.toNat_inj]at h4
   refine zd (m:=((i+1:Nat):Int)) (by omega) (by omega) ?_
   refine⟨i+1,⟨h1,?_⟩,by omega,zX [] rfl ⟨cr,cr,cr,trivial⟩ trivial⟩
   rw[List.take_succ_eq_append_getElem h1,List.take_succ_eq_append_getElem h2,he,h4]
 ·simp only[zb]at h3
  refine zf (congrArg RV.b (Eq.symm ?_))
  rw[decide_eq_true_eq,<-List.take_of_length_le (show l.length<=i by omega),he,List.take_of_length_le (by omega)]
theorem ve(l m:List UInt8)(hl:l.length<=1000000000000)(hm:m.length<=1000000000000):aG 340 [bs l,bs m] (xJ (l++m)):=by
 refine aT Tryz.func340 rfl ?_
 refine zw ?_
 refine z7 (j:=l.length) (zs:=l.map U8) (by simp only[maxLen];omega) (by show(0+l.length)*1<=_;omega) (by omega) rfl ?_
 refine z7 (j:=(l++m).length) (zs:=(l++m).map U8) (by simp only[maxLen];omega) (by show(l.length+m.length)*1<=_;omega) (by simp) (by simp) ?_
 exact rfl
end Go.Proofs.YtkegaaonpekkgaaGreat.Sx

namespace Go.Proofs.YtkegaaonpekkgaaGreat
open Go.RowKit
def Ext(w w':World):Prop:=Below w.heap.size w w'
theorem Ext.refl(w:World):Ext w w:=Below.refl _ _
theorem Ext.alloc{a w:World}(h:Ext a w)(o:Obj):Ext a (w.alloc o):=Below.alloc h h.size o
theorem Ext.drew{a w:World}(h:Ext a w):Ext a w.drew:=Below.drew h
theorem Ext.le{a w:World}(h:Ext a w):a.heap.size<=w.heap.size:=h.size
theorem vj(w:World)(o:Obj):Ext w (w.alloc o):=(Ext.refl w).alloc o
structure AC where
 a:Option Addr
 c:Nat
def Sl(w:World)(S:Nat->Prop)(sz:Nat)(p:AC)(n:Nat)(xs:List Value):Prop:=
 xs.length=n*sz/\n<=p.c/\p.c<=maxLen/\
  (0<n->∃b o,p.a=some ⟨b,o,none⟩/\S b/\b<w.heap.size/\∀j u,xs[j]?=some u->w.cell? ⟨b,o+j,none⟩=some u)
section
variable {w w':World} {S S':Nat->Prop} {sz n:Nat} {p:AC} {xs:List Value}
theorem Sl.at_(h:Sl w S sz p n xs)(hn:0<n): ∃b o,p.a=some ⟨b,o,none⟩/\S b/\b<w.heap.size/\∀j u,xs[j]?=some u->w.cell? ⟨b,o+j,none⟩=some u:=h.2.2.2 hn
end
abbrev bv(b:UInt8):Value:= .int .u8 (b.toNat:Int)
abbrev iv(n:Int):Value:= .int .i64 n
def A3(n:Int):Prop:= -9223372036854775808<=n/\n<=9223372036854775807
def By(w:World)(S:Nat->Prop)(p:AC)(l:List UInt8):Prop:=Sl w S 1 p l.length (l.map bv)
def Is(w:World)(S:Nat->Prop)(p:AC)(l:List Int):Prop:=Sl w S 1 p l.length (l.map iv)/\∀x∈l,A3 x
section
variable {w w':World} {S S':Nat->Prop} {p:AC} {l:List UInt8} {m:List Int}
theorem By.form(h:By w S p l)(hk:0<l.length): ∃b o,p.a=some ⟨b,o,none⟩/\∀(k:Nat) (h:k<l.length),w.cell? ⟨b,o+k,none⟩=some (.int .u8 (l[k].toNat:Int)):=by
 obtain⟨b,o,e,_,_,hc⟩:=Sl.at_ h hk
 exact⟨b,o,e,λk hk=>hc k _ (by simp[hk])⟩
end
def Ow(w:World)(base:Nat)(e:TypeId)(sz:Nat)(v:Value)(n:Nat)(xs:List Value)(g:Option Nat):Prop:=
 xs.length=n*sz/\
 ((g=none/\∃a,v= .slice a n n/\Sl w (base<= ·) sz ⟨a,n⟩ n xs)\/
 (∃b cap cur,g=some b/\v= .slice (some ⟨b,0,none⟩) n cap/\base<=b/\w.heap[b]?=some (.cells cur e (0,0))/\n<=cap/\cap<=maxLen/\cur.size=cap*sz/\cur.toList.take (n*sz)=xs))
section
variable {w w':World} {base:Nat} {e:TypeId} {sz n:Nat} {v:Value} {xs:List Value} {g:Option Nat}
theorem Ow.lt(h:Ow w base e sz v n xs g): ∀k,g=some k->base<=k/\k<w.heap.size:=by
 intro k hk
 rcases h.2 with⟨rfl,_⟩ |⟨b,cap,cur,rfl,_,hb,hh,_⟩
 ·cases hk
 ·cases hk
  exact⟨hb,(Array.getElem?_eq_some_iff.1 hh).1⟩
end
def A4(w:World)(Post:World->Value->Prop)(e:Ending)(w':World):Prop:=∃v,e= .returned v/\Ext w w'/\Post w' v
end Go.Proofs.YtkegaaonpekkgaaGreat

namespace Go.Proofs.YtkegaaonpekkgaaGreat.Sx
open Go.RowKit
section
variable {P:Program} {w w':World} {k:Kp} {v:Value}
theorem XA{f:FuncId}{args:List RV}{res:Res}(hk:mI P f)(h: ∀w k vs,RV.partsAt w k args vs->Calls P f vs.toArray w (A4 w λw' v=>∃k':Kp,(∀b,b<w.heap.size->k' b=k b)/\res.at_ w.heap.size w' k' v)):zW P f args res:=
 ⟨hk,λw k vs hp=>(h w k vs hp).mono λ_ _ ⟨v,he,hx,hr⟩=>⟨v,he,hx,hr⟩⟩
theorem LM{f:FuncId}{args:List RV}{r:RV}{us:List Value}{u:Value}(hk:mI P f)(ha: ∀w k vs,RV.partsAt w k args vs->vs=us)(hr: ∀w k,r.at_ w k u)(h: ∀w,Calls P f us.toArray w λe w'=>e= .returned u/\w=w'):zW P f args (.r r):=
 XA hk λw k vs hp=>by
  rw[ha w k vs hp]
  exact(h w).mono λ_ _ ⟨he,hw⟩=>⟨u,he,hw▸Below.refl _ _,k,λ_ _=>rfl,hr _ _⟩
section
variable {α:Type} {f:α->RV} {g:α->Value}
theorem BE(hfg: ∀x w k v,(f x).at_ w k v↔v=g x){l:List α}(h:(RV.sl 1 l.length (l.map f)).at_ w k v): ∃p:AC,v= .slice p.a l.length p.c/\Sl w (λ_=>True) 1 p l.length (l.map g):=by
 simp only[RV.at_]at h
 obtain⟨a,c,rfl,h1,h2,h3,h4⟩:=h
 refine⟨⟨a,c⟩,rfl,by simp,h1,h2,λhn=>?_⟩
 obtain⟨b,o,e,hb,hc⟩:=h4 hn
 refine⟨b,o,e,trivial,hb,λj u hu=>?_⟩
 rw[RV.cellsAt_iff]at hc
 simp only[List.getElem?_map,Option.map_eq_some_iff]at hu
 obtain⟨x,hx,rfl⟩:=hu
 obtain⟨_,u,hu,_,hf⟩:=hc j (f x) (by simp[hx])
 rw[hu,(hfg x w k u).1 hf]
end
theorem Qh{l:List UInt8}(h:(bs l).at_ w k v): ∃p:AC,v= .slice p.a l.length p.c/\By w (λ_=>True) p l:=BE (f:=U8) (g:=bv) (λx w k v=>by simp[RV.at_]) h
theorem ZD{α:Type}{f:α->RV}{g:α->Value}(hfg: ∀x w k v,(f x).at_ w k v↔v=g x)(h1: ∀x,(g x).oneCell'=true): ∀l:List α,RV.listAt w k (l.map f) (l.map g)
 |[]=>by simp[RV.listAt]
 |x::r=>by
  simp only[List.map_cons,RV.listAt]
  exact⟨_,_,rfl,h1 x,(hfg _ _ _ _).2 rfl,ZD hfg h1 r⟩
theorem UP{x:RV}{vs:List Value}(h:RV.partsAt w k [x] vs): ∃a,vs=[a]/\x.at_ w k a:=by
 simp only[RV.partsAt]at h
 obtain⟨u,r,rfl,h1,rfl⟩:=h
 exact⟨u,rfl,h1⟩
theorem ZI{x y:RV}{vs:List Value}(h:RV.partsAt w k [x,y] vs): ∃a b,vs=[a,b]/\x.at_ w k a/\y.at_ w k b:=by
 simp only[RV.partsAt]at h
 obtain⟨u,r,rfl,h1,u',r',rfl,h2,rfl⟩:=h
 exact⟨u,u',rfl,h1,h2⟩
end
def Leaf.right(l:Leaf):Bool:=decide (l.box.length=32/\l.sign.length=32/\0<l.ident.length/\l.ident.length<=64/\0<l.src.toNat/\l.src.toNat<4/\(l.parent.length=0\/l.src.toNat=3/\l.parent.length=32)/\l.sig.length=64)
theorem OV(l:Leaf):aG 244 [.ag l.c] (.r (.b l.right)):=by
 refine aT Tryz.func244 rfl ?_
 (repeat' (first|refine zh (λh=>?_) (λh=>?_)|refine zf ?_|refine zp ?_|refine zq ?_))
 all_goals refine congrArg RV.b (Eq.symm ?_)
 all_goals simp only[Leaf.right,zb]at*
 all_goals omega
theorem Zi(a b:Leaf):aG 95 [.ag a.c,.ag b.c] (.r (.b (decide (a=b)))):=by
 refine aT Tryz.func95 rfl ?_
 obtain⟨a1,a2,a3,a4,a5,a6⟩:=a
 obtain⟨b1,b2,b3,b4,b5,b6⟩:=b
 repeat' (first|refine z6 (pA _ _) (λh=>?_) (λh=>?_)|refine zh (λh=>?_) (λh=>?_)|refine zf ?_)
 all_goals simp only[zb,Int.natCast_inj,UInt8.toNat_inj]at*
 all_goals simp_all [xT]
end Go.Proofs.YtkegaaonpekkgaaGreat.Sx
