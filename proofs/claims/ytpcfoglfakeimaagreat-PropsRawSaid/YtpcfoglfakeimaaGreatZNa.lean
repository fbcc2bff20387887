import Derived.Test.YtpcfoglfakeimaaGreatZGeoB
import Derived.Test.YtpcfoglfakeimaaGreatZSxY
import Derived.Shelf.RegionOpenPlain
import Derived.Lib.Walk
import Derived.Lib.SliceRun
import Derived.Lib.Overlaps
import Derived.Laws.Externs
import Derived.Laws.IdiomCopy
import Derived.Lib.AppendZerosOnto
import Derived.Laws.NewBlocks
namespace Go.Proofs.YtpcfoglfakeimaaGreat.Sx
open Go.RowKit
theorem z6s(n:Nat)(hn:n<=65536):aG 168 [.i .u64 n] (.r (I (zuv n))):=by
 refine aT Tryz.func168 rfl ?_
 obtain⟨a0,ha0,l0⟩: ∃a,(n/2&&&6148914691236517205)=a/\a<=65536:=⟨_,rfl,Nat.le_trans Nat.and_le_left (by omega)⟩
 obtain⟨a1,ha1,l1⟩: ∃a,(n&&&6148914691236517205)=a/\a<=65536:=⟨_,rfl,Nat.le_trans Nat.and_le_left (by omega)⟩
 obtain⟨b0,hb0,m0⟩: ∃a,((a0+a1)/4&&&3689348814741910323)=a/\a<=131072:=⟨_,rfl,Nat.le_trans Nat.and_le_left (by omega)⟩
 obtain⟨b1,hb1,m1⟩: ∃a,(a0+a1&&&3689348814741910323)=a/\a<=131072:=⟨_,rfl,Nat.le_trans Nat.and_le_left (by omega)⟩
 obtain⟨c0,hc0,p0⟩: ∃a,((b0+b1)/16+(b0+b1)&&&1085102592571150095)=a/\a<=1048576:=⟨_,rfl,Nat.le_trans Nat.and_le_left (by omega)⟩
 refine Vshr.nat (.inl rfl) n 1 (n/2) rfl rfl (by decide) rfl ?_
 refine Vbits.nat (.inl rfl) (n/2) 6148914691236517205 a0 rfl rfl (by omega) (by decide) (by omega) ha0 ?_
 refine Vbits.nat (.inl rfl) n 6148914691236517205 a1 rfl rfl (by omega) (by decide) (by omega) ha1 ?_
 refine Vint.nat (.inl rfl) (a0+a1) (by omega) (by omega) ?_
 refine Vshr.nat (.inl rfl) (a0+a1) 2 ((a0+a1)/4) rfl rfl (by decide) rfl ?_
 refine Vbits.nat (.inl rfl) ((a0+a1)/4) 3689348814741910323 b0 rfl rfl (by omega) (by decide) (by omega) hb0 ?_
 refine Vbits.nat (.inl rfl) (a0+a1) 3689348814741910323 b1 rfl rfl (by omega) (by decide) (by omega) hb1 ?_
 refine Vint.nat (.inl rfl) (b0+b1) (by omega) (by omega) ?_
 refine Vshr.nat (.inl rfl) (b0+b1) 4 ((b0+b1)/16) rfl rfl (by decide) rfl ?_
 refine Vint.nat (.inl rfl) ((b0+b1)/16+(b0+b1)) (by omega) (by omega) ?_
 refine Vbits.nat (.inl rfl) ((b0+b1)/16+(b0+b1)) 1085102592571150095 c0 rfl rfl (by omega) (by decide) (by omega) hc0 ?_
 refine Vshr.nat (.inl rfl) c0 8 (c0/256) rfl rfl (by decide) rfl ?_
 refine Vint.nat (.inl rfl) (c0+c0/256) (by omega) (by omega) ?_
 obtain⟨d,hd⟩: ∃d,c0+c0/256=d:=⟨_,rfl⟩
 rw[hd]
 refine Vshr.nat (.inl rfl) d 16 (d/65536) rfl rfl (by decide) rfl ?_
 refine Vint.nat (.inl rfl) (d+d/65536) (by omega) (by omega) ?_
 obtain⟨e,he⟩: ∃e,d+d/65536=e:=⟨_,rfl⟩
 rw[he]
 refine Vshr.nat (.inl rfl) e 32 (e/4294967296) rfl rfl (by decide) rfl ?_
 refine Vint.nat (.inl rfl) (e+e/4294967296) (by omega) (by omega) ?_
 refine Vint.nat (.inr rfl) (e+e/4294967296) rfl (by omega) ?_
 refine Vbits.nat (.inr rfl) (e+e/4294967296) 127 _ rfl rfl (by omega) (by decide) (Nat.lt_of_le_of_lt Nat.and_le_left (by omega:e+e/4294967296<_)) rfl ?_
 subst he hd hc0 hb0 hb1 ha0 ha1
 exact cr
theorem zdbb(n:Nat)(hn:n<=65536):aG 108 [.i .u64 n] (.r (I (zuv n))):=by
 refine aT Tryz.func108 rfl ?_
 refine zt ?_
 exact ze (z6s n hn) (cr)
theorem zvi{n:Int}(h: ¬(1<=n/\n<=65536)):zei n=false:=by
 rcases hf:zei n with _ |_
 ·rfl
 ·exact absurd (zcc hf) h
theorem zvk(n:Int):aG 65 [I n] (.r (.b (zei n))):=by
 refine aT Tryz.func65 rfl ?_
 refine zh (λh1=>?_) (λh1=>?_)
 ·refine zh (λh2=>?_) (λh2=>?_)
  ·simp only[zb]at h1 h2
   obtain⟨m,rfl⟩:=Int.eq_ofNat_of_zero_le (show 0<=n by omega)
   have h:=z8b (n:=m) (by omega) (by omega)
   refine Vint.nat (.inl rfl) m rfl (by omega) ?_
   refine ze (zdbb m (by omega)) ?_
   refine zh (λh3=>?_) (λh3=>?_)
   ·simp only[zb]at h3
    exact zf (congrArg RV.b (Eq.symm (h.1 (by omega))))
   ·simp only[zb]at h3
    exact zf (congrArg RV.b (Eq.symm (Bool.eq_false_iff.2 λh4=>h3 (by rw[h.2 h4];rfl))))
  ·simp only[zb]at h2
   exact zf (congrArg RV.b (Eq.symm (zvi (by omega))))
 ·simp only[zb]at h1
  exact zf (congrArg RV.b (Eq.symm (zvi (by omega))))
theorem zqm(x:Int):aG 114 [I x] (.r (.b (zdj x))):=by
 refine aT Tryz.func114 rfl ?_
 (repeat' (first|refine zh (λh=>?_) (λh=>?_)|refine zf ?_|refine zq ?_|refine zt ?_))
 all_goals refine congrArg RV.b (Eq.symm ?_)
 all_goals simp only[zdj,Bool.and_eq_true,Bool.and_eq_false_iff,zb]at*
 all_goals omega
theorem g_of(x n:Int):aG 173 [I x,I n] (.r (.b (ofI x n))):=by
 refine aT Tryz.func173 rfl ?_
 refine Vcall.bool (zvk n) (λhf=>?_) (λhf=>zf (by simp[ofI,hf,ofC]))
 have hb:=zcc hf
 refine zh (λh1=>?_) (λh1=>?_)
 ·refine zd rfl (by omega) (zd rfl (by omega) ?_)
  refine zh (λh2=>?_) (λh2=>?_)
  all_goals refine zf (congrArg RV.b (Eq.symm ?_))
  all_goals simp only[zb]at h1 h2
  all_goals simp[ofI,hf]
  all_goals omega
 ·simp only[zb]at h1
  refine zf (congrArg RV.b (Eq.symm ?_))
  simp[ofI,hf]
  omega
theorem zeab{m k:Nat}(hm:m<=131070)(hk:k<=lv m):m/2^k%2=if k<lv m then 1 else 0:=by
 obtain⟨h1,h2,h0⟩:=zfr hm
 generalize lv m=l at*
 rcases Nat.lt_or_ge k l with hk' |hk'
 ·rw[if_pos hk']
  obtain⟨j,rfl⟩: ∃j,l=k+(j+1):=⟨l-k-1,by omega⟩
  have h3:m%2^(k+(j+1))/2^k%2=m/2^k%2:=by
   rw[Nat.pow_add,Nat.mod_mul_right_div_self,Nat.pow_succ,Nat.mul_comm,Nat.mod_mul_right_mod]
  have hp:=zai k
  have hj:=zai j
  have e1:2^(k+(j+1))-1=2^k*(2*2^j-1)+(2^k-1):=by
   rw[Nat.pow_add,Nat.pow_succ,Nat.mul_comm (2^j) 2,Nat.mul_sub,Nat.mul_one]
   have:2^k*1<=2^k*(2*2^j):=Nat.mul_le_mul_left _ (by omega)
   omega
  rw[<-h3,h2,e1,Nat.mul_add_div hp,Nat.div_eq_of_lt (by omega)]
  omega
 ·obtain rfl:k=l:=by omega
  rw[if_neg (by omega)];exact h0
theorem zzf(x:Int):aG 115 [I x] (.r (I (lvI x))):=by
 refine aT Tryz.func115 rfl ?_
 cases hx:zdj x with
 |false=>
  refine Vcode.scope mixed Tab_ok 0 (λk:Nat=>{F:=[],O:=[],nx:=0}) (λ_=>False) (λ_=>0) rfl ?_ λ_ h=>h.elim
  refine ze (zqm x) ?_
  rw[hx]
  exact zu rfl (zq (zf (congrArg I (z75 hx).symm)))
 |true=>
 have hl:=zld hx
 have hg:=zqm x
 rw[hx]at hg
 rw[zcl]at hx
 obtain⟨m,rfl⟩:=Int.eq_ofNat_of_zero_le hx.1
 rw[Int.toNat_natCast]at hl
 have hm:m<=131070:=by omega
 have h16:=(zfr hm).1
 have hb: ∀k,k<=lv m->m/2^k%2=(if k<lv m then 1 else 0)/\m/2^k<9223372036854775808:=λk hk=>⟨zeab hm hk,Nat.lt_of_le_of_lt (Nat.div_le_self _ _) (by omega)⟩
 rw[hl]
 refine Vcode.scope mixed Tab_ok 0 (λk:Nat=>{F:=[(0, .r (I m)),(3, .r (I k))],O:=[],nx:=0}) (λk=>k<=lv m) (λk=>lv m-k) rfl ?_ ?_
 ·refine ze hg (zw rfl (zt ?_))
  have hb:=hb 0 (by omega)
  refine Vshr.nat (.inr rfl) m 0 (m/2^0) rfl rfl (by omega) rfl ?_
  refine Vbits.nat (.inr rfl) (m/2^0) 1 (m/2^0%2) rfl rfl hb.2 (by decide) (by omega) (Nat.and_one_is_mod _) ?_
  refine zh (λh=>zq ?_) (λh=>zt ?_)<;>simp only[zb]at h<;>split at hb<;>try omega
  ·refine zd (m:=((1:Nat):Int)) rfl (by omega) ?_
   exact⟨1,by omega,zac [] rfl ⟨cr,cr,trivial⟩ trivial⟩
  ·exact zf (congrArg I (by omega))
 ·intro k hk
  have hb:=hb k hk
  refine Vshr.nat (.inr rfl) m k (m/2^k) rfl rfl (by omega) rfl ?_
  refine Vbits.nat (.inr rfl) (m/2^k) 1 (m/2^k%2) rfl rfl hb.2 (by decide) (by omega) (Nat.and_one_is_mod _) ?_
  refine zh (λh=>zq ?_) (λh=>zt ?_)<;>simp only[zb]at h<;>split at hb<;>try omega
  ·refine zd (m:=((k+1:Nat):Int)) (by omega) (by omega) ?_
   exact⟨k+1,by omega,by omega,zac [] rfl ⟨cr,cr,trivial⟩ trivial⟩
  ·exact zf (congrArg I (by omega))
theorem zgb{d:Nat}(h:d<=16):1<=2^d/\2^d<=65536:=⟨zai d,Nat.le_trans (Nat.pow_le_pow_right (by omega) h) (by decide)⟩
theorem zajb(x y:Int):aG 69 [I x,I y] (.r (.b (zb3 x y))):=by
 refine aT Tryz.func69 rfl ?_
 refine Vcall.bool (zqm x) (λhx=>zw rfl ?_) (λhx=>zu rfl (zq (zf (by simp[zb3,hx,ofC]))))
 refine Vcall.bool (zqm y) (λhy=>zw rfl (zt ?_)) (λhy=>zu rfl (zq (zf (by simp[zb3,hx,hy,ofC]))))
 refine ze (zzf y) ?_
 have hl:0<=lvI y:=by rw[zld hy];omega
 have hb:=zwm y
 have hp:=zgb (d:=(lvI y).toNat) (by omega)
 have hw:zh2 y=((2^(lvI y).toNat:Nat):Int)-1:=by rw[zya];simp
 have hx':=zcl.1 hx
 have hy':=zcl.1 hy
 refine Vshl.nat (.inr rfl) 1 (lvI y).toNat _ rfl (by omega) (by omega) (Nat.one_mul _) (by omega) ?_
 refine zd rfl (by omega) ?_
 refine zd rfl (by omega) ?_
 have fin: ∀b:Bool,(b=true↔y-zh2 y<=x/\x<=y+zh2 y)->b=zb3 x y:=λb h=>by
  rw[Bool.eq_iff_iff,zgi,h]
  exact⟨λh=>⟨⟨hx,hy⟩,h⟩,λh=>h.2⟩
 refine zh (λh1=>?_) (λh1=>?_)
 ·refine zd rfl (by omega) ?_
  refine zh (λh2=>?_) (λh2=>?_)
  all_goals simp only[zb]at h1 h2
  all_goals refine zf (congrArg RV.b (fin _ ?_))
  ·exact⟨λ_=>by omega,λ_=>rfl⟩
  ·exact⟨λh=>(by cases h),λ_=>by omega⟩
 ·simp only[zb]at h1
  exact zf (congrArg RV.b (fin _ ⟨λh=>(by cases h),λ_=>by omega⟩))
theorem zwy{x n:Int}(h:ofI x n=true):0<=x/\x<=131070/\1<=n/\n<=65536/\x<=2*n-2:=by
 rw[zft]at h
 have:=zcc h.1
 omega
theorem ztr{x n:Int}(h:ofI x n=false\/x=n-1):parI x n= -1:=by
 rcases h with h |h<;>simp[parI,h]
theorem zbmb{m d:Nat}(hd:d<=16)(hm:m<=2*2^d-2)(hne:m≠2^d-1):lv m<d:=by
 have h16:2^d<=2^16:=Nat.pow_le_pow_right (by omega) hd
 obtain⟨_,h1,h2⟩:=zfr (x:=m) (by omega)
 have hp:=zai d
 rcases Nat.lt_or_ge (lv m) d with h |h
 ·exact h
 ·exfalso
  have h3:2^d<=2^lv m:=Nat.pow_le_pow_right (by omega) h
  have h4:=Nat.div_add_mod m (2^lv m)
  rw[h1]at h4
  rcases Nat.eq_zero_or_pos (m/2^lv m)with h5 |h5
  ·rw[h5]at h4
   have:2^lv m<2^(d+1):=by rw[Nat.pow_succ];omega
   have:lv m<d+1:=(Nat.pow_lt_pow_iff_right (by omega)).1 this
   have:lv m=d:=by omega
   rw[this]at h4
   omega
  ·have:2^lv m*1<=2^lv m*(m/2^lv m):=Nat.mul_le_mul_left _ h5
   omega
theorem zbzb{m l:Nat}(hm:m<=131070)(hl:l=lv m)(h16:l<16):(m|||2^l)=m+2^l/\(m+2^l)&&&(18446744073709551615-2^(l+1))=upN m:=by
 obtain⟨_,h1,h2⟩:=zfr hm
 rw[<-hl]at h1 h2
 have hp:=zai l
 have hb:2^(l+1)<=2^16:=Nat.pow_le_pow_right (by omega) (by omega)
 have e2:2^(l+1)=2*2^l:=by rw[Nat.pow_succ];omega
 refine⟨z47 h2,?_⟩
 rw[show 18446744073709551615-2^(l+1)=2^64-(2^(l+1)+1)by omega,z2s (by omega) (by omega)]
 have hd:(m+2^l)/2^(l+1)=m/2^(l+1):=by
  have e4:=Nat.div_add_mod m (2^(l+1))
  have e5:m%2^(l+1)=2^l-1:=by
   rw[Nat.pow_succ,Nat.mod_mul,h1,h2];omega
  rw[e5]at e4
  have e6:m+2^l=(2^(l+1)-1)+m/2^(l+1)*2^(l+1):=by rw[Nat.mul_comm (m/2^(l+1))];omega
  rw[e6,Nat.add_mul_div_right _ _ (zai _),Nat.div_eq_of_lt (by omega)]
  omega
 rw[hd]
 unfold upN
 rw[<-hl]
 have hge:m/2^(l+1)%2=1->2^(l+1)<=m:=λh=>by
  rcases Nat.lt_or_ge m (2^(l+1))with h3 |h3
  ·rw[Nat.div_eq_of_lt h3]at h;omega
  ·exact h3
 rcases Nat.mod_two_eq_zero_or_one (m/2^(l+1))with h |h
 ·rw[h];simp
 ·have:=hge h
  rw[h,if_neg (by omega)]
  omega
theorem zvp(x n:Int):aG 116 [I x,I n] (.r (I (parI x n))):=by
 refine aT Tryz.func116 rfl ?_
 refine Vcall.bool (g_of x n) (λho=>zw rfl ?_) (λho=>zu rfl (zq (zf (congrArg I (ztr (.inl ho)).symm))))
 obtain⟨b1,b2,b3,b4,b5⟩:=zwy ho
 refine zd rfl (by omega) ?_
 refine zh (λh=>zq ?_) (λh=>zt ?_)
 ·simp only[zb]at h
  exact zf (congrArg I (ztr (.inr h)).symm)
 simp only[zb]at h
 refine ze (zzf x) ?_
 obtain⟨m,rfl⟩:=Int.eq_ofNat_of_zero_le b1
 have hl:lvI (m:Int)=((lv m:Nat):Int):=by rw[zld (zcl.2 (by omega)),Int.toNat_natCast]
 obtain⟨d,hd,hn⟩:=zdn (zft.1 ho).1
 have h16:lv m<16:=by have:=zbmb (m:=m) hd (by omega) (by have:=zai d;omega);omega
 obtain⟨e1,e2⟩:=zbzb (m:=m) (by omega) rfl h16
 have hp:=zgb (d:=lv m) (by omega)
 have hp2:2^(lv m+1)=2*2^lv m:=by rw[Nat.pow_succ];omega
 rw[hl]
 refine aV ?_
 refine Vshl.nat (.inr rfl) 1 (lv m) _ rfl rfl (by omega) (Nat.one_mul _) (by omega) ?_
 refine Vbits.nat (.inr rfl) m (2^lv m) (m+2^lv m) rfl rfl (by omega) (by omega) (by omega) e1 ?_
 refine zd (m:=((lv m+1:Nat):Int)) (by omega) (by omega) ?_
 refine Vshl.nat (.inr rfl) 1 (lv m+1) _ rfl rfl (by omega) (Nat.one_mul _) (by omega) ?_
 refine Vbits.nat (.inr rfl) (m+2^lv m) (2^(lv m+1)) (upN m) rfl rfl (by omega) (by omega) (by rw[<-e2];exact Nat.lt_of_le_of_lt Nat.and_le_left (by omega)) e2 ?_
 refine zf (congrArg I ?_)
 unfold parI
 rw[ho,Bool.true_and,if_pos (by rw[decide_eq_true_eq];exact h),Int.toNat_natCast]
theorem zw2{n:Int}: ∀(f:Nat) (x:Int),∀y∈zdt n f x,ofI y n=true/\0<=y/\y<=131070
 |0,x,y,h=>by simp[zdt]at h
 |f+1,x,y,h=>by
  unfold zdt at h
  split at h
  ·simp at h
  ·obtain⟨h1,h2,_⟩:=ztt (x:=x) (n:=n) (by omega)
   rcases List.mem_cons.1 h with rfl |h
   ·have:=zwy h2;exact⟨h2,by omega,by omega⟩
   ·exact zw2 f _ y h
theorem z8i{x n:Int}{y:Int}(h:y∈zb4 x n):ofI y n=true/\0<=y/\y<=131070:=zw2 17 x y h
theorem ztu{n:Int}: ∀(f:Nat) (x:Int),(zdt n f x).length<=f
 |0,x=>by simp[zdt]
 |f+1,x=>by
  unfold zdt
  split
  ·simp
  ·simp only[List.length_cons];have:=ztu (n:=n) f (parI x n);omega
theorem ztv(x n:Int):(zb4 x n).length<=17:=ztu 17 x
theorem zvq(x n:Int):aG 70 [I x,I n] (ich (zb4 x n)):=by
 refine aT Tryz.func70 rfl ?_
 refine ze (zvp x n) ?_
 refine Vloop.mk' (λi:List Int×Int=>{F:=[(0, .r (I (parI i.2 n))),(1, .r (I n)),(5, .own 0)],O:=[(0,some (.ch 3 1 i.1.length (i.1.map I) true))],nx:=1}) (λi=>∃f,i.1++zdt n f i.2=zb4 x n/\i.1.length+f=17/\(i.1.length:Int)<=lvI i.2+1) (λi=>17-i.1.length) ([],x)
  ⟨17,rfl,rfl,by have:=zwm x;show(0:Int)<=lvI x+1;omega⟩ ((zcd 5 3 1 rfl).trans (zac [(0,0)] rfl ⟨cr,cr,rfl,trivial⟩ ⟨⟨rfl,rfl,rfl,rfl,zn _⟩,trivial⟩)) ?_
 rintro⟨l,y⟩ ⟨f,h1,h2,h3⟩
 dsimp only at h1 h2 h3⊢
 refine zh (λh=>zq ?_) (λh=>zt ?_)
 ·simp only[zb]at h
  obtain⟨_,_,h5,h6⟩:=ztt (x:=y) (n:=n) h
  have h7:=zwm (parI y n)
  obtain⟨f,rfl⟩: ∃g,f=g+1:=⟨f-1,by omega⟩
  rw[zdt,if_neg (by omega)]at h1
  refine zy ?_
  refine Vapp.mk' (j:=(l++[parI y n]).length) (zs:=(l++[parI y n]).map I) (by simp only[maxLen];omega) (by show(l.length+1)*8<=_;omega) (by simp) (by simp[zbx,cellsOf]) ?_
  refine ze (zvp _ n) ?_
  exact⟨(l++[parI y n],parI y n),⟨f,by rw[<-h1];simp,by simp;omega,by simp;omega⟩,by simp;omega,zac [(0,_)] rfl ⟨cr,cr,rfl,trivial⟩ ⟨zf2 rfl,trivial⟩⟩
 ·simp only[zb]at h
  have e:zdt n f y=[]:=by
   cases f with
   |zero=>rfl
   |succ f=>rw[zdt,if_pos (by omega)]
  rw[e,List.append_nil]at h1
  subst h1
  exact rfl
def zfi(x n:Int):D3:=((zbq x n).getLast?).getD ⟨0,0,0⟩
theorem zme(x:Int): ∀(f:Nat) (a b:Int),(zf4 x f a b).length<=f
 |0,a,b=>Nat.le_refl _
 |f+1,a,b=>by
  unfold zf4
  simp only[List.length_cons]
  have h1:=zme x f a ((a+b)/2-1)
  have h2:=zme x f ((a+b)/2+1) b
  split
  ·simp
  ·split<;>omega
theorem zs1(x n:Int):(zbq x n).length<=17:=by
 unfold zbq
 split
 ·exact zme _ _ _ _
 ·simp
theorem z2z{x n:Int}:0< (zbq x n).length↔ofI x n=true:=by
 unfold zbq
 split
 ·rename_i h;exact⟨λ_=>h,λ_=>by unfold zf4;exact Nat.succ_pos _⟩
 ·rename_i h;simp[h]
theorem zwe{x n:Int}(ho:ofI x n=true): ∃d h k,d<=16/\h<=d/\k<2^(d-h)/\n=((2^d:Nat):Int)/\x=(nd h k:Int)/\zfi x n=trip h k:=by
 obtain⟨d,h,k,hd,hh,hk,rfl,rfl,_,hl⟩:=z20 ho
 exact⟨d,h,k,hd,hh,hk,rfl,rfl,by unfold zfi;rw[hl];rfl⟩
theorem z1w{x n:Int}(ho:ofI x n=false):zfi x n=⟨0,0,0⟩:=by unfold zfi;rw[zhu ho];rfl
abbrev d3r(t:D3):List RV:=[I t.at_,I t.lo,I t.hi]
def ds(l:List D3):RV:= .sl 3 l.length (l.flatMap d3r)
theorem z9d{l:List D3}{i:Int}{j:Nat}(h:i=j)(hj:j<l.length):((l.flatMap d3r).drop (i.toNat*3)).take 3=d3r l[j]:=zgo (sz:=3) (λ_=>rfl) h hj
theorem z6o(n:Int):aG 185 [I n] (.r (.b (zei n))):=by
 refine aT Tryz.func185 rfl ?_
 refine Vloop.mk' (λj:Nat=>{F:=[(0, .r (I n)),(3, .r (I ((2^j:Nat):Int)))],O:=[],nx:=0}) (λj=>j<=17/\∀i,i<j->n≠((2^i:Nat):Int)) (λj=>17-j) 0 ⟨by omega,by omega⟩ (zac [] rfl ⟨cr,cr,trivial⟩ trivial) ?_
 rintro j ⟨hj,hn⟩
 have hp:=zai j
 have e2:2^(j+1)=2*2^j:=by rw[Nat.pow_succ];omega
 have hpj:2^j<=2^17:=Nat.pow_le_pow_right (by omega) hj
 refine zh (λh=>zq ?_) (λh=>zt ?_)
 ·simp only[zb]at h
  have hj':j<17:=by
   rcases Nat.lt_or_ge j 17 with h' |h'
   ·exact h'
   ·obtain rfl:j=17:=by omega
    omega
  refine zh (λh2=>zq ?_) (λh2=>zt ?_)
  ·simp only[zb]at h2
   exact zf (congrArg RV.b (by rw[<-h2,zev j (by omega)]))
  ·simp only[zb]at h2
   refine zd (m:=((2^(j+1):Nat):Int)) (by omega) (by omega) ?_
   refine⟨j+1,⟨by omega,λi hi=>?_⟩,by omega,zac [] rfl ⟨cr,cr,trivial⟩ trivial⟩
   rcases Nat.lt_or_ge i j with h3 |h3
   ·exact hn i h3
   ·obtain rfl:i=j:=by omega
    exactλe=>h2 e.symm
 ·simp only[zb]at h
  refine zf (congrArg RV.b (Eq.symm (Bool.eq_false_iff.2 λhf=>?_)))
  obtain⟨d,hd,e⟩:=zdn hf
  rcases Nat.lt_or_ge d j with h3 |h3
  ·exact hn d h3 e
  ·have:=Nat.pow_le_pow_right (n:=2) (by omega) h3
   have:=(zgb hd).2
   omega
theorem z29(x n:Int):aG 135 [I x,I n] (.r (ds (zbq x n))):=by
 refine aT Tryz.func135 rfl ?_
 have out:ofI x n=false->Cv (.x (.slice none 0 0)) (ds (zbq x n)):=λho=>by rw[zhu ho];exact Cv.nil 3
 refine Vcall.bool (z6o n) (λhf=>zw rfl ?_) (λhf=>zu rfl (zq (out (by simp[ofI,hf]))))
 have hb:=zcc hf
 refine zh (λh=>zq ?_) (λh=>?_)
 ·simp only[zb]at h
  exact out (by simp[ofI,hf];omega)
 simp only[zb]at h
 refine zd rfl (by omega) (zd rfl (by omega) ?_)
 refine zh (λh2=>zq ?_) (λh2=>zt ?_)
 ·simp only[zb]at h2
  exact out (by simp[ofI,hf];omega)
 simp only[zb]at h2
 refine zd rfl (by omega) (zd rfl (by omega) ?_)
 have ho:ofI x n=true:=zft.2 ⟨hf,by omega,by omega⟩
 refine Vloop.mk' (λi:List D3×Nat×Int×Int=>{F:=[(0, .r (I x)),(5, .r (I i.2.2.1)),(6, .r (I i.2.2.2)),(7, .own 0)],O:=[(0,some (.ch 133 3 i.1.length (i.1.flatMap d3r) true))],nx:=1})
  (λi=>zbq x n=i.1++zf4 x i.2.1 i.2.2.1 i.2.2.2/\i.1.length+i.2.1<=17/\0<=i.2.2.1/\i.2.2.1<=x/\x<=i.2.2.2/\i.2.2.2<=131070/\i.2.2.2-i.2.2.1+2<=((2^i.2.1:Nat):Int)) (λi=>i.2.1) ([],17,0,2*n-2)
  ⟨by simp[zbq,ho],by simp,by simp,by dsimp only;omega,by dsimp only;omega,by dsimp only;omega,by dsimp only;omega⟩ ((zcd 7 133 3 rfl).trans (zac [(0,0)] rfl ⟨cr,cr,cr,rfl,trivial⟩ ⟨⟨rfl,rfl,rfl,rfl,zn _⟩,trivial⟩)) ?_
 rintro⟨l,f,a,b⟩ ⟨e1,e2,e3,e4,e5,e6,e7⟩
 dsimp only at e1 e2 e3 e4 e5 e6 e7⊢
 obtain⟨f,rfl⟩: ∃g,f=g+1:=⟨f-1,by
  rcases Nat.eq_zero_or_pos f with h |h
  ·subst h;omega
  ·omega⟩
 have e8:2^(f+1)=2*2^f:=by rw[Nat.pow_succ];omega
 rw[zf4]at e1
 refine zd rfl (by omega) ?_
 refine⟨by decide,(a+b)/2,by rw[Int.tdiv_eq_ediv_of_nonneg (by omega)];exact wrap_i64 (by omega),?_⟩
 refine zy ?_
 refine Vapp.mk' (j:=(l++[(⟨(a+b)/2,a,b⟩:D3)]).length) (zs:=(l++[(⟨(a+b)/2,a,b⟩:D3)]).flatMap d3r) (by simp only[maxLen];omega) (by show(l.length+1)*24<=_;omega) (by simp) (by rw[List.flatMap_append];rfl) ?_
 refine zh (λh3=>zq ?_) (λh3=>zt ?_)
 ·simp only[zb]at h3
  rw[if_pos h3]at e1
  rw[e1]
  exact cr
 simp only[zb]at h3
 rw[if_neg h3]at e1
 refine zh (λh4=>zq ?_) (λh4=>zt ?_)
 ·simp only[zb]at h4
  rw[if_pos h4]at e1
  refine zd rfl (by omega) ?_
  exact⟨(l++[⟨(a+b)/2,a,b⟩],f,a,(a+b)/2-1),⟨by rw[e1];simp,by simp;omega,by dsimp only;omega,by dsimp only;omega,by dsimp only;omega,by dsimp only;omega,by dsimp only;omega⟩,by dsimp only;omega,zac [(0,_)] rfl ⟨cr,cr,cr,rfl,trivial⟩ ⟨⟨rfl,rfl,rfl,rfl,zn _⟩,trivial⟩⟩
 ·simp only[zb]at h4
  rw[if_neg h4]at e1
  refine zd rfl (by omega) ?_
  exact⟨(l++[⟨(a+b)/2,a,b⟩],f,(a+b)/2+1,b),⟨by rw[e1];simp,by simp;omega,by dsimp only;omega,by dsimp only;omega,by dsimp only;omega,by dsimp only;omega,by dsimp only;omega⟩,by dsimp only;omega,zac [(0,_)] rfl ⟨cr,cr,cr,rfl,trivial⟩ ⟨⟨rfl,rfl,rfl,rfl,zn _⟩,trivial⟩⟩
theorem zvm(x n:Int):aG 93 [I x,I n] (.r (.tu [.ag (d3r (zfi x n)), .b (ofI x n)])):=by
 refine aT Tryz.func93 rfl ?_
 refine ze (z29 x n) ?_
 have hlen:=zs1 x n
 have hpos:=z2z (x:=x) (n:=n)
 cases ho:ofI x n with
 |false=>
  have e:=zhu ho
  rw[e,z1w ho]
  exact zu rfl (zq (za rfl rfl ⟨_,rfl,cr⟩))
 |true=>
  have h0:=hpos.2 ho
  refine zw (by simp only[zb];omega) (zt ?_)
  refine zd (m:=(((zbq x n).length-1:Nat):Int)) (by omega) (by omega) ?_
  refine zm (by omega) (by omega) (z9d rfl (show(zbq x n).length-1<_ by omega)) ?_
  have e:(zbq x n)[(zbq x n).length-1]=zfi x n:=by
   unfold zfi
   rw[List.getLast?_eq_getElem?,List.getElem?_eq_getElem (by omega)]
   rfl
  rw[e]
  refine za rfl rfl ?_
  exact za rfl rfl ⟨_,rfl,cr⟩
theorem zvr(l m:List Int)(hl: ∀x∈l,i64 x)(hm: ∀x∈m,i64 x):aG 28 [is l,is m] (.r (.b (decide (l=m)))):=by
 refine zmn (zfo Tryz.func28 rfl (by kernel_rfl)) λhml=>?_
 refine aT Tryz.func28 rfl ?_
 refine zh (λh=>zq ?_) (λh=>zt ?_)
 ·simp only[zb]at h
  exact zf (congrArg RV.b (Eq.symm (decide_eq_false λe=>h (by rw[e]))))
 simp only[zb]at h
 refine Vloop.mk' (λi:Nat=>⟨[(0, .r (is l)),(1, .r (is m)),(5, .r (I i))],[],0⟩) (λi=>i<=l.length/\l.take i=m.take i) (λi=>l.length-i) 0 ⟨by omega,by simp⟩ (zac [] rfl ⟨cr,cr,cr,trivial⟩ trivial) ?_
 rintro i ⟨hi,he⟩
 refine zh (λh3=>zq ?_) (λh3=>zt ?_)
 ·simp only[zb]at h3
  have h1:i<l.length:=by omega
  have h2:i<m.length:=by omega
  refine aV ?_
  refine zm (by omega) (by omega) (zan rfl h1) (zg rfl ?_)
  refine zm (by omega) (by omega) (zan rfl h2) (zg rfl ?_)
  refine zh (λh4=>zq ?_) (λh4=>zt ?_)
  ·simp only[zb]at h4
   refine zf (congrArg RV.b (Eq.symm (decide_eq_false λe=>?_)))
   subst e;exact h4 rfl
  ·simp only[zb]at h4
   refine zd (m:=((i+1:Nat):Int)) (by omega) (by omega) ?_
   refine⟨i+1,⟨h1,?_⟩,by omega,zac [] rfl ⟨cr,cr,cr,trivial⟩ trivial⟩
   rw[List.take_succ_eq_append_getElem h1,List.take_succ_eq_append_getElem h2,he,h4]
 ·simp only[zb]at h3
  refine zf (congrArg RV.b (Eq.symm ?_))
  rw[decide_eq_true_eq,<-List.take_of_length_le (show l.length<=i by omega),he,List.take_of_length_le (by omega)]
end Go.Proofs.YtpcfoglfakeimaaGreat.Sx

namespace Go.Proofs.YtpcfoglfakeimaaGreat
def beB:Nat->Nat->List UInt8
 |0,_=>[]
 |s+1,n=>UInt8.ofNat (n/256^s)::beB s n
theorem za9: ∀(s n:Nat),(beB s n).length=s
 |0,_=>rfl
 |s+1,n=>by rw[beB,List.length_cons,za9 s n]
def lenB(n:Nat):List UInt8:=if n<64 then beB 1 n else if n<16384 then beB 2 (16384+n)else beB 4 (2147483648+n)
def zg8(n:Nat):Nat:=if n<64 then 1 else if n<16384 then 2 else 4
theorem zpd(n:Nat):(lenB n).length=zg8 n:=by
 unfold lenB zg8
 split
 ·exact za9 _ _
 ·split<;>exact za9 _ _
theorem zpe(n:Nat):1<=zg8 n/\zg8 n<=4:=by unfold zg8;split<;>(try split)<;>omega
def vecB(v:List UInt8):List UInt8:=lenB v.length++v
theorem z83(v:List UInt8):(vecB v).length=zg8 v.length+v.length:=by rw[vecB,List.length_append,zpd]
theorem zar(v:List UInt8):(vecB v).length<=v.length+4:=by rw[z83];have:=zpe v.length;omega
theorem z5b(i:Nat):2^(8*i)=256^i:=by rw[Nat.pow_mul]
end Go.Proofs.YtpcfoglfakeimaaGreat

namespace Go.Proofs.YtpcfoglfakeimaaGreat.Sx
open Go.RowKit
def och(l:List UInt8):Res:= .own 5 1 l.length (l.map U8)
theorem zkx{ρ:List (Nat×Nat)}{S:St}{e:TypeId}{b:Bool}{l m:List UInt8}(h:l=m):cvOw ρ S (.ch e 1 l.length (l.map U8) b) (.ch e 1 m.length (m.map U8) b):=by
 subst h;exact⟨rfl,rfl,rfl,rfl,zn _⟩
theorem zta(l:List UInt8)(hl:l.length<=140737488355328):aG 182 [bs l] (och l):=by
 refine za1 (T:=Tab) mixed Tab_ok Tryz.func182 rfl (by kernel_rfl) ?_
 refine Vstep.nilSl rfl rfl rfl Tryz.underlying25 (λh0=>zq ?_) (zt ?_)
 ·obtain rfl:=List.eq_nil_of_length_eq_zero h0
  exact⟨_,zgg 2 5 1 rfl,rfl⟩
 ·refine Vpub.own ?_
  refine Vapp.mk' (j:=l.length) (zs:=l.map U8) (by simp only[maxLen];omega) (by show(0+l.length)*1<=_;omega) (by omega) rfl ?_
  exact⟨_,zo _,rfl⟩
theorem zs5(l:List UInt8)(hl:l.length<=140737488355328):aG 82 [bs l] (och l):=by
 refine za1 (T:=Tab) mixed Tab_ok Tryz.func82 rfl (by kernel_rfl) ?_
 refine Vstep.nilSl rfl rfl rfl Tryz.underlying25 (λh0=>zq ?_) (zt ?_)
 ·obtain rfl:=List.eq_nil_of_length_eq_zero h0
  exact⟨_,zgg 2 5 1 rfl,rfl⟩
 ·refine Vpub.own ?_
  refine Vapp.mk' (j:=l.length) (zs:=l.map U8) (by simp only[maxLen];omega) (by show(0+l.length)*1<=_;omega) (by omega) rfl ?_
  exact⟨_,zo _,rfl⟩
theorem zs7(l:List Int)(hl:l.length<=17592186044416):aG 83 [is l] (.own 3 1 l.length (l.map I)):=by
 refine za1 (T:=Tab) mixed Tab_ok Tryz.func83 rfl (by kernel_rfl) ?_
 refine Vstep.nilSl rfl rfl rfl Tryz.underlying23 (λh0=>zq ?_) (zt ?_)
 ·obtain rfl:=List.eq_nil_of_length_eq_zero h0
  exact⟨_,zgg 2 3 1 rfl,rfl⟩
 ·refine Vpub.own ?_
  refine Vapp.mk' (j:=l.length) (zs:=l.map I) (by simp only[maxLen];omega) (by show(0+l.length)*8<=_;omega) (by omega) rfl ?_
  exact⟨_,zo _,rfl⟩
theorem zvs(l:List UInt8)(hl:l.length<=140737488355328):aG 182 [bs l] (bch l):=zhl (zta l hl)
theorem zin(l:List UInt8)(hl:l.length<=140737488355328):aG 82 [bs l] (bch l):=zhl (zs5 l hl)
theorem z6p(l:List Int)(hl:l.length<=17592186044416):aG 83 [is l] (ich l):=zhl (zs7 l hl)
theorem zfgb(n:Int)(hn:n=1\/n=2\/n=4\/n=8):aG 183 [I n] (.r (.b true)):=by
 refine aT Tryz.func183 rfl ?_
 rcases hn with rfl |rfl |rfl |rfl
 ·refine zu rfl ?_
  exact cr
 ·refine zw rfl (zu rfl ?_)
  exact cr
 ·refine zw rfl (zw rfl (zu rfl ?_))
  exact cr
 ·refine zw rfl (zw rfl (zw rfl (zu rfl ?_)))
  exact cr
theorem zu4{s n i:Nat}(hi:i<s):(beB s n).take (i+1)=(beB s n).take i++[UInt8.ofNat (n/256^(s-1-i))]:=by
 have: ∀(s i:Nat),i<s->(beB s n)[i]?=some (UInt8.ofNat (n/256^(s-1-i))):=by
  intro s
  induction s with
  |zero=>intro i h;omega
  |succ s ih=>
   intro i h
   cases i with
   |zero=>simp[beB]
   |succ i=>
    rw[beB,List.getElem?_cons_succ,ih i (by omega)]
    rw[show s+1-1-(i+1)=s-1-i by omega]
 rw[List.take_add_one,this s i hi];rfl
theorem z3f(l:List UInt8)(size m:Nat)(hl:l.length<=1000000000000)(hs:size=1\/size=2\/size=4\/size=8):aG 131 [bs l,I size, .i .u64 m] (och (l++beB size m)):=by
 refine aT Tryz.func131 rfl ?_
 have hlen: ∀j,(l++(beB size m).take j).length<=l.length+8:=λj=>by rw[List.length_append,List.length_take,za9];omega
 refine ze (zta l (by omega)) ?_
 refine ze (zfgb size (by omega)) ?_
 refine zw rfl (zt ?_)
 refine zd rfl (by omega) ?_
 refine Vloop.mk' (λj:Nat=>{F:=[(0, .own 0),(2, .r (.i .u64 m)),(7, .r (I ((size:Int)-1-j)))],O:=[(0,some (.ch 5 1 (l++(beB size m).take j).length ((l++(beB size m).take j).map U8) false))],nx:=1}) (λj=>j<=size) (λj=>size-j) 0 (by omega)
  (zac [(0,0)] rfl ⟨rfl,cr,zf (congrArg I (by simp)),trivial⟩ ⟨zkx (by simp),trivial⟩) ?_
 intro j hj
 have hlj:=hlen j
 refine zh (λh=>zq ?_) (λh=>zt ?_)
 ·simp only[zb]at h
  have hj':j<size:=by omega
  have ht:=zu4 (n:=m) hj'
  refine zd (m:=((8*(size-1-j):Nat):Int)) (by omega) (by omega) ?_
  refine Vshr.nat (.inl rfl) m (8*(size-1-j)) (m/256^(size-1-j)) rfl rfl (by omega) (by rw[z5b]) ?_
  refine Vint.u8 (m/256^(size-1-j)) rfl ?_
  refine zy ?_
  refine Vapp.mk' (j:=(l++(beB size m).take (j+1)).length) (zs:=(l++(beB size m).take (j+1)).map U8) (by simp only[maxLen];omega) (by show((l++(beB size m).take j).length+1)*1<=_;omega) (by rw[ht];simp only[List.length_append,List.length_cons,List.length_nil];omega)
   (by rw[ht,<-List.append_assoc];exact(List.map_append (f:=U8) (l₁:=l++(beB size m).take j) (l₂:=[UInt8.ofNat (m/256^(size-1-j))])).symm) ?_
  refine zd (m:=(size:Int)-1-((j+1:Nat):Int)) (by omega) (by omega) ?_
  exact⟨j+1,by omega,by omega,zac [(0,_)] rfl ⟨rfl,cr,cr,trivial⟩ ⟨zkx rfl,trivial⟩⟩
 ·simp only[zb]at h
  obtain rfl:j=size:=by omega
  rw[List.take_of_length_le (by rw[za9];omega)]
  exact rfl
theorem zgm(l:List UInt8)(size m:Nat)(hl:l.length<=1000000000000)(hs:size=1\/size=2\/size=4\/size=8):aG 131 [bs l,I size, .i .u64 m] (bch (l++beB size m)):=zhl (z3f l size m hl hs)
theorem z3e(n:Nat)(hn:n<=1073741823):aG 246 [I n] (.r (I (zg8 n))):=by
 refine aT Tryz.func246 rfl ?_
 unfold zg8
 (repeat' (first|refine zh (λh=>?_) (λh=>?_)|refine zf ?_|refine zq ?_|refine zt ?_))
 all_goals simp only[zb]at*
 all_goals first|omega|(refine congrArg I ?_;split<;>(try split)<;>omega)
theorem z6t(l:List UInt8)(n:Nat)(hl:l.length<=1000000000000)(hn:n<=1073741823):aG 172 [bs l,I n] (bch (l++lenB n)):=by
 refine aT Tryz.func172 rfl ?_
 refine ze (z3e n hn) ?_
 obtain⟨s,k,v,h1,h2,h3,h4,h5⟩: ∃s k v,zg8 n=s/\lenB n=beB s v/\(s=1\/s=2\/s=4)/\k=s/2/\(k*2^(8*s-2)|||n)=v:=by
  unfold zg8 lenB
  split
  ·exact⟨1,0,n,rfl,rfl,by omega,rfl,by simp⟩
  ·split
   ·exact⟨2,1,16384+n,rfl,rfl,by omega,rfl,nat_join 14 (1*2^14) n (by decide) (by omega)⟩
   ·exact⟨4,2,2147483648+n,rfl,rfl,by omega,rfl,nat_join 30 (2*2^30) n (by decide) (by omega)⟩
 rw[h1,h2]
 have hk:k*2^(8*s-2)<=2147483648:=by
  rcases h3 with rfl |rfl |rfl<;>subst h4<;>decide
 have hv:v<9223372036854775808:=by rw[<-h5];exact Nat.or_lt_two_pow (n:=63) (by omega) (by omega)
 refine zw (by simp only[zb];omega) (zt ?_)
 refine⟨by decide,(k:Int),by rw[Int.tdiv_eq_ediv_of_nonneg (by omega)];exact(by omega:(k:Int)=(s:Int)/2).trans (wrap_i64 (by omega)),?_⟩
 refine Vint.nat (.inl rfl) k rfl (by omega) ?_
 refine zd (m:=((8*s:Nat):Int)) (by omega) (by omega) ?_
 refine zd (m:=((8*s-2:Nat):Int)) (by omega) (by omega) ?_
 refine Vshl.nat (.inl rfl) k (8*s-2) _ rfl rfl (by omega) rfl (by omega) ?_
 refine Vint.nat (.inl rfl) n rfl (by omega) ?_
 refine Vbits.nat (.inl rfl) (k*2^(8*s-2)) n v rfl rfl (by omega) (by omega) hv h5 ?_
 exact ze (zgm l s v hl (by omega)) rfl
theorem zbt(l m:List UInt8)(hl:l.length<=1000000000000)(hm:m.length<=1073741823):aG 110 [bs l,bs m] (bch (l++vecB m)):=by
 refine aT Tryz.func110 rfl ?_
 have hv:=zar m
 have hb:(l++lenB m.length).length<=l.length+4:=by rw[List.length_append,zpd];have:=zpe m.length;omega
 have e:l++vecB m=l++lenB m.length++m:=by rw[vecB,List.append_assoc]
 refine ze (z6t l m.length hl hm) ?_
 refine Vapp.mk' (j:=(l++vecB m).length) (zs:=(l++vecB m).map U8) (by simp only[maxLen];omega) (by show((l++lenB m.length).length+m.length)*1<=_;omega) (by rw[e,List.length_append (bs:=m)]) (by rw[e,List.map_append (l₂:=m)]) ?_
 exact rfl
theorem zahb(n:Nat)(hn:n<=1073741823):aG 259 [I n] (bch (lenB n)):=by
 refine aT Tryz.func259 rfl ?_
 have tq: ∀d:Int,0<d->((n:Int).tdiv d)=(n:Int)/d:=λd _=>Int.tdiv_eq_ediv_of_nonneg (by omega)
 have tr: ∀a d:Nat,((a:Int).tmod d)=((a%d:Nat):Int):=λa d=>by rw[Int.tmod_eq_emod_of_nonneg (by omega)];rfl
 refine zh (λh=>zq ?_) (λh=>zt ?_)
 ·simp only[zb]at h
  have e:lenB n=[UInt8.ofNat n]:=by unfold lenB;rw[if_pos (by omega)];simp[beB]
  refine Vint.u8 n rfl ?_
  rw[e]
  exact zy rfl
 simp only[zb]at h
 refine zh (λh2=>zq ?_) (λh2=>zt ?_)
 ·simp only[zb]at h2
  have e:lenB n=[UInt8.ofNat (64+n/256),UInt8.ofNat (n%256)]:=by
   unfold lenB;rw[if_neg (by omega),if_pos (by omega)]
   simp only[beB,List.cons.injEq,and_true,Nat.pow_zero,Nat.div_one]
   exact⟨congrArg UInt8.ofNat (by omega),by apply UInt8.toNat_inj.1;first|(simp;done)|(simp;omega)⟩
  refine⟨by decide,((n/256:Nat):Int),by rw[tq 256 (by decide)];exact(by omega:((n/256:Nat):Int)=(n:Int)/256).trans (wrap_i64 (by omega)),?_⟩
  refine zd (m:=((64+n/256:Nat):Int)) (by omega) (by omega) ?_
  refine Vint.u8 (64+n/256) rfl ?_
  refine⟨by decide,_,(tr n 256).symm,?_⟩
  refine Vint.u8 (n%256) rfl ?_
  rw[e]
  exact zy rfl
 ·simp only[zb]at h2
  have e:lenB n=[UInt8.ofNat (128+n/16777216),UInt8.ofNat (n/65536%256),UInt8.ofNat (n/256%256),UInt8.ofNat (n%256)]:=by
   unfold lenB;rw[if_neg (by omega),if_neg (by omega)]
   simp only[beB,List.cons.injEq,and_true,Nat.pow_zero,Nat.div_one]
   refine⟨congrArg UInt8.ofNat (by omega),?_,?_,?_⟩<;>(apply UInt8.toNat_inj.1;first|(simp;done)|(simp;omega))
  refine⟨by decide,((n/16777216:Nat):Int),by rw[tq 16777216 (by decide)];exact(by omega:((n/16777216:Nat):Int)=(n:Int)/16777216).trans (wrap_i64 (by omega)),?_⟩
  refine zd (m:=((128+n/16777216:Nat):Int)) (by omega) (by omega) ?_
  refine Vint.u8 (128+n/16777216) rfl ?_
  refine⟨by decide,((n/65536:Nat):Int),by rw[tq 65536 (by decide)];exact(by omega:((n/65536:Nat):Int)=(n:Int)/65536).trans (wrap_i64 (by omega)),?_⟩
  refine⟨by decide,_,(tr (n/65536) 256).symm,?_⟩
  refine Vint.u8 (n/65536%256) rfl ?_
  refine⟨by decide,((n/256:Nat):Int),by rw[tq 256 (by decide)];exact(by omega:((n/256:Nat):Int)=(n:Int)/256).trans (wrap_i64 (by omega)),?_⟩
  refine⟨by decide,_,(tr (n/256) 256).symm,?_⟩
  refine Vint.u8 (n/256%256) rfl ?_
  refine⟨by decide,_,(tr n 256).symm,?_⟩
  refine Vint.u8 (n%256) rfl ?_
  rw[e]
  exact zy rfl
theorem zh7(m:List UInt8)(hm:m.length<=1073741823):aG 187 [bs m] (bch (vecB m)):=by
 refine aT Tryz.func187 rfl ?_
 have hb:(lenB m.length).length<=4:=by rw[zpd];have:=zpe m.length;omega
 refine ze (zahb m.length hm) ?_
 refine Vapp.mk' (j:=(vecB m).length) (zs:=(vecB m).map U8) (by simp only[maxLen];omega) (by show((lenB m.length).length+m.length)*1<=_;omega) (by rw[vecB,List.length_append]) (by rw[vecB,List.map_append]) ?_
 exact rfl
theorem zaib(size m:Nat)(hs:size<=8)(hm:m<18446744073709551616):aG 186 [I size, .i .u64 m] (bch (beB size m)):=by
 refine aT Tryz.func186 rfl ?_
 refine Vloop.mk' (λj:Nat=>{F:=[(0, .r (I size)),(1, .r (.i .u64 ((m/256^j:Nat):Int))),(5, .own 0),(6, .r (I j))],O:=[(0,some (.ch 5 1 (beB j m).length ((beB j m).map U8) true))],nx:=1}) (λj=>j<=size) (λj=>size-j) 0 (by omega)
  ((zcd 5 5 1 rfl).trans (zac [(0,0)] rfl ⟨cr,zf (by simp),rfl,cr,trivial⟩ ⟨⟨rfl,rfl,rfl,rfl,zn _⟩,trivial⟩)) ?_
 intro j hj
 have hbl:=za9 j m
 have hd:m/256^j<18446744073709551616:=Nat.lt_of_le_of_lt (Nat.div_le_self _ _) hm
 refine zh (λh=>zq ?_) (λh=>zt ?_)
 ·simp only[zb]at h
  refine Vrem.nat (m/256^j) 256 rfl rfl (by decide) ?_
  refine Vint.u8 (m/256^j%256) rfl ?_
  refine zy ?_
  refine Vapp.mk' (j:=(beB (j+1) m).length) (zs:=(beB (j+1) m).map U8) (by simp only[maxLen];omega) (by show(1+(beB j m).length)*1<=_;omega) (by rw[za9,za9];omega) (by rw[beB,zezb];rfl) ?_
  refine Vquo.nat (m/256^j) 256 rfl rfl (by decide) hd ?_
  refine zd (m:=((j+1:Nat):Int)) (by omega) (by omega) ?_
  exact⟨j+1,by omega,by omega,zac [(0,_)] rfl ⟨cr,zf (by rw[Nat.pow_succ,Nat.div_div_eq_div_mul]),rfl,cr,trivial⟩ ⟨zkx rfl,trivial⟩⟩
 ·simp only[zb]at h
  obtain rfl:j=size:=by omega
  exact rfl
theorem zd3(l m:List UInt8):aG 55 [bs l,bs m] (.r (.b (decide (l=m)))):=by
 refine zmn (zfo Tryz.func55 rfl (by kernel_rfl)) λhml=>?_
 refine aT Tryz.func55 rfl ?_
 refine zh (λh=>zq ?_) (λh=>zt ?_)
 ·simp only[zb]at h
  exact zf (congrArg RV.b (Eq.symm (decide_eq_false λe=>h (by rw[e]))))
 simp only[zb]at h
 refine Vloop.mk' (λi:Nat=>⟨[(0, .r (bs l)),(1, .r (bs m)),(5, .r (I i))],[],0⟩) (λi=>i<=l.length/\l.take i=m.take i) (λi=>l.length-i) 0 ⟨by omega,by simp⟩ (zac [] rfl ⟨cr,cr,cr,trivial⟩ trivial) ?_
 rintro i ⟨hi,he⟩
 refine zh (λh3=>zq ?_) (λh3=>zt ?_)
 ·simp only[zb]at h3
  have h1:i<l.length:=by omega
  have h2:i<m.length:=by omega
  refine aV ?_
  refine zm (by omega) (by omega) (zan rfl h1) (zg rfl ?_)
  refine zm (by omega) (by omega) (zan rfl h2) (zg rfl ?_)
  refine zh (λh4=>zq ?_) (λh4=>zt ?_)
  ·simp only[zb,Int.natCast_inj,UInt8.toNat_inj]at h4
   refine zf (congrArg RV.b (Eq.symm (decide_eq_false λe=>?_)))
   subst e;exact h4 rfl
  ·simp only[zb,Int.natCast_inj,UInt8.toNat_inj]at h4
   refine zd (m:=((i+1:Nat):Int)) (by omega) (by omega) ?_
   refine⟨i+1,⟨h1,?_⟩,by omega,zac [] rfl ⟨cr,cr,cr,trivial⟩ trivial⟩
   rw[List.take_succ_eq_append_getElem h1,List.take_succ_eq_append_getElem h2,he,h4]
 ·simp only[zb]at h3
  refine zf (congrArg RV.b (Eq.symm ?_))
  rw[decide_eq_true_eq,<-List.take_of_length_le (show l.length<=i by omega),he,List.take_of_length_le (by omega)]
theorem zio(l m:List UInt8)(hl:l.length<=1000000000000)(hm:m.length<=1000000000000):aG 188 [bs l,bs m] (bch (l++m)):=by
 refine aT Tryz.func188 rfl ?_
 refine zy ?_
 refine Vapp.mk' (j:=l.length) (zs:=l.map U8) (by simp only[maxLen];omega) (by show(0+l.length)*1<=_;omega) (by omega) rfl ?_
 refine Vapp.mk' (j:=(l++m).length) (zs:=(l++m).map U8) (by simp only[maxLen];omega) (by show(l.length+m.length)*1<=_;omega) (by simp) (by simp) ?_
 exact rfl
section
open Go.RowKit Go.Lib
section
variable {P:Program}
theorem zfm(w:World)(dT sT ty elem:TypeId)(sz g o dLen dCap:Nat)(a:Addr)(sLen sCap m:Nat)(cur:Array Value)(t:TypeId)(cs:List Value)
  (hu:P.underlying dT=some (.slice elem)) (hs:(P.info? elem).map (·.size)=some sz)
  (hg:w.heap[g]?=some (.cells cur t (0,0))) (hm:Nat.min sLen dLen=m) (hn:cs.length=m*sz)
  (hsrc: ∀j v,cs[j]?=some v->w.cell? (a.add j)=some v) (hfit:o+cs.length<=cur.size) (h1: ∀v∈cs,v.oneCell'=true):
  (Builtin.copy_ #[dT,sT] ty #[.slice (some ⟨g,o,none⟩) dLen dCap, .slice (some a) sLen sCap]).run P w=
   .ok (goInt (m:Int)) (w.setRow g (cur.toList.take o++cs++cur.toList.drop (o+cs.length)).toArray):=by
 subst hm
 have hl:=run_loadCells_list (P:=P) w a cs hsrc
 have hst:=run_storeCells_at P g o t cs 0 cur w hg (by simpa using hfit) h1
 cases hq:P.info? elem with
 |none=>simp[hq]at hs
 |some i=>
  have hi:i.size=sz:=by simpa[hq]using hs
  simp[Builtin.copy_,run_underlying hu,Builtin.lenOf,Builtin.firstCells,sizeOf,typeInfo,hq,hi,<-hn,hl,hst]
theorem zkc{w:World}{b:Nat}{cur:Array Value}{e:TypeId}{p n:Nat}(hh:w.heap[b]?=some (.cells cur e (0,0))){j:Nat}{v:Value}(h:((cur.toList.drop p).take n)[j]?=some v):w.cell? ⟨b,p+j,none⟩=some v:=by
 rw[cell_of_row w b (p+j) cur e (0,0) hh]
 rw[List.getElem?_take]at h
 split at h
 ·rw[List.getElem?_drop]at h
  simpa using h
 ·cases h
theorem zki{ops:Array Oper}{rest:List Oper}{o:Oper}{a:Act}{w:World}{Q:Exit->Act->World->Prop}(hgd:o.guard=none)(d s:Operand)(t t':TypeId)
  (ho:o.op= .call {callee:= .builtin .copy,args:= #[d,s],argTypes:= #[t,t']}) {v u:Value} (hd:a.eval d=v) (hs:a.eval s=u) {v':Value} {w':World}
  (hr:(Builtin.copy_ #[t,t'] o.type #[v,u]).run P w= .ok v' w') (h:wpList P ops Q rest (a.put o.dst v') w'):wpList P ops Q (o::rest) a w:=
 wpList_plain hgd λK hK=>by
  unfold Oper.wp execOp
  simp only[ho,resolve,invoke,builtin,Sem.run_bind,Sem.run_pure,Result.andThen_ok,List.map_toArray,List.map_cons,List.map_nil,hd,hs,hr]
  exact hK _ _ h
theorem znj{ops:Array Oper}{o:Oper}{a:Act}{w:World}{K:Act->World->Prop}{Q:Exit->Act->World->Prop}{E:Prop}
  (hg:o.guard=none) (d x:Operand) (dT sT:TypeId) (hop:o.op=Op.call {callee:=Callee.builtin Builtin.copy,args:= #[d,x],argTypes:= #[dT,sT]})
  (v u:Value) (hd:a.eval d=v) (hx:a.eval x=u) {v':Value} {w':World} (hr:(Builtin.copy_ #[dT,sT] o.type #[v,u]).run P w= .ok v' w') (hK:K (a.put o.dst v') w'):
  if Region.wanted o (yielded ops a.tmps)=true then Oper.wp P o a w K Q else E:=by
 have hw:Region.wanted o (yielded ops a.tmps)=true:=by simp[Region.wanted,hg]
 rw[if_pos hw]
 unfold Oper.wp
 simp[execOp,hop,resolve,invoke,builtin,hd,hx,hr,Result.andThen]
 exact hK
end
end
end Go.Proofs.YtpcfoglfakeimaaGreat.Sx
