import Derived.Test.YtamhdpombmegaaaGreatProg
import Derived.Test.YtamhdpombmegaaaGreatZOnes
import Derived.Deep.QuietTactic
import Derived.BigQuiet
import Derived.Deep.LoopGhost
import Derived.Deep.Cut
import Derived.StillTailTactics
import Derived.IntWalk
import Derived.Great.BuildSlice
import Derived.Deep.WholeRow
import Derived.Great.Walk
import Derived.Laws.CopyRow
import Derived.Lib.AppendZerosOnto
import Derived.Test.YtamhdpombmegaaaGreatZSxV
import Derived.Lib.AppendStr
import Derived.Test.YtamhdpombmegaaaGreatZVf
namespace Go.Proofs.YtamhdpombmegaaaGreat
open Go.RowKit
set_option linter.unusedVariables false
section
theorem zb6{a b:Nat}{x y:Int}(hx:x=(a:Int))(hy:y=(b:Int))(ha:a<18446744073709551616)(hb:b<18446744073709551616):bits .and .u64 x y=((a&&&b:Nat):Int):=by
 rw[hx,hy];exact u64_and_nat a b ha hb
theorem zbk{a:Nat}{x:Int}(hx:x=(a:Int))(ha:a<18446744073709551616):IntKind.u64.wrap x=(a:Int):=by
 rw[hx];simp[IntKind.wrap,IntKind.bits,IntKind.signed];omega
theorem zbi(a:Nat)(ha:a<9223372036854775808):(BitVec.ofInt 64 (a:Int)).toNat=a:=by
 rw[BitVec.ofInt_natCast,BitVec.toNat_ofNat];exact Nat.mod_eq_of_lt (by omega)
theorem zck(a b:Nat)(ha:a<9223372036854775808)(hb:b<9223372036854775808):bits .and .i64 (a:Int) (b:Int)=((a&&&b:Nat):Int):=by
 have hx:a&&&b<2^63:=Nat.and_lt_two_pow _ (by omega)
 show IntKind.i64.wrap ((BitVec.ofInt 64 (a:Int)&&&BitVec.ofInt 64 (b:Int)).toNat:Int)=_
 rw[BitVec.toNat_and,zbi a ha,zbi b hb,IntKind.wrap_i64]
 omega
theorem zev(a:Nat){j:Nat}(ha:a<9223372036854775808)(hj:j<63):bits .andNot .i64 (a:Int) ((2^j:Nat):Int)=((a-a/2^j%2*2^j:Nat):Int):=by
 have hb:2^j<2^63:=Nat.pow_lt_pow_right (by omega) hj
 show IntKind.i64.wrap ((BitVec.ofInt 64 (a:Int)&&& ~~~ BitVec.ofInt 64 ((2^j:Nat):Int)).toNat:Int)=_
 rw[BitVec.toNat_and,BitVec.toNat_not,zbi a ha,zbi _ (by omega),IntKind.wrap_i64]
 rw[show 2^64-1-2^j=2^64-(2^j+1)by omega,zir (by omega) (by omega)]
 omega
theorem zia(a b:Nat)(ha:a<9223372036854775808)(hb:b<9223372036854775808):bits .or .i64 (a:Int) (b:Int)=((a|||b:Nat):Int):=by
 have hx:a|||b<2^63:=Nat.or_lt_two_pow (by omega) (by omega)
 show IntKind.i64.wrap ((BitVec.ofInt 64 (a:Int)|||BitVec.ofInt 64 (b:Int)).toNat:Int)=_
 rw[BitVec.toNat_or,zbi a ha,zbi b hb,IntKind.wrap_i64]
 omega
set_option maxHeartbeats 1000000 in
theorem zih(n:Nat)(w:World)(hn:n<=65536):
  Calls Tryz.prog 193 #[.int .u64 (n:Int)] w λe w'=>e= .returned (.int .i64 (zei n))/\w=w':=by
 go_enter Tryz.func193,Tryz.ntmps193
 go_wp2_with fail
 go_ret
 refine⟨zbm ?_,rfl⟩
 have hand: ∀x y:Nat,x&&&y<=x:=λx y=>Nat.and_le_left
 obtain⟨a0,ha0⟩: ∃a,a=(n/2&&&6148914691236517205):=⟨_,rfl⟩
 obtain⟨a1,ha1⟩: ∃a,a=(n&&&6148914691236517205):=⟨_,rfl⟩
 have l0:a0<=65536:=by have:=hand (n/2) 6148914691236517205;omega
 have l1:a1<=65536:=by have:=hand n 6148914691236517205;omega
 obtain⟨b0,hb0⟩: ∃a,a=((a0+a1)/4&&&3689348814741910323):=⟨_,rfl⟩
 obtain⟨b1,hb1⟩: ∃a,a=(a0+a1&&&3689348814741910323):=⟨_,rfl⟩
 have m0:b0<=131072:=by have:=hand ((a0+a1)/4) 3689348814741910323;omega
 have m1:b1<=131072:=by have:=hand (a0+a1) 3689348814741910323;omega
 obtain⟨c0,hc0⟩: ∃a,a=((b0+b1)/16+(b0+b1)&&&1085102592571150095):=⟨_,rfl⟩
 have p0:c0<=1048576:=by have:=hand ((b0+b1)/16+(b0+b1)) 1085102592571150095;omega
 have E1:bits BinOp.and IntKind.u64 ((n:Int)/2) 6148914691236517205=(a0:Int):=by rw[ha0];exact zb6 (by omega) rfl (by omega) (by omega)
 have E2:bits BinOp.and IntKind.u64 (n:Int) 6148914691236517205=(a1:Int):=by rw[ha1];exact zb6 rfl rfl (by omega) (by omega)
 have E3:IntKind.u64.wrap ((a0:Int)+a1)=((a0+a1:Nat):Int):=zbk (by omega) (by omega)
 have E4:bits BinOp.and IntKind.u64 (((a0+a1:Nat):Int)/4) 3689348814741910323=(b0:Int):=by rw[hb0];exact zb6 (by omega) rfl (by omega) (by omega)
 have E5:bits BinOp.and IntKind.u64 ((a0+a1:Nat):Int) 3689348814741910323=(b1:Int):=by rw[hb1];exact zb6 rfl rfl (by omega) (by omega)
 have E6:IntKind.u64.wrap ((b0:Int)+b1)=((b0+b1:Nat):Int):=zbk (by omega) (by omega)
 have E7:IntKind.u64.wrap (((b0+b1:Nat):Int)/16+((b0+b1:Nat):Int))=(((b0+b1)/16+(b0+b1):Nat):Int):=zbk (by omega) (by omega)
 have E8:bits BinOp.and IntKind.u64 (((b0+b1)/16+(b0+b1):Nat):Int) 1085102592571150095=(c0:Int):=by rw[hc0];exact zb6 rfl rfl (by omega) (by omega)
 have E9:IntKind.u64.wrap ((c0:Int)+(c0:Int)/256)=((c0+c0/256:Nat):Int):=zbk (by omega) (by omega)
 obtain⟨d,hd⟩: ∃d,d=c0+c0/256:=⟨_,rfl⟩
 have E10:IntKind.u64.wrap ((d:Int)+(d:Int)/65536)=((d+d/65536:Nat):Int):=zbk (by omega) (by omega)
 obtain⟨e,he⟩: ∃e,e=d+d/65536:=⟨_,rfl⟩
 have E11:IntKind.u64.wrap ((e:Int)+(e:Int)/4294967296)=((e+e/4294967296:Nat):Int):=zbk (by omega) (by omega)
 simp only[E1,E2,E3,E4,E5,E6,E7,E8,E9,<-hd,E10,<-he,E11]
 rw[IntWalk.wrap64_in _ ⟨by omega,by omega⟩]
 rw[show(127:Int)=((127:Nat):Int)from rfl,zck _ _ (by omega) (by omega)]
 subst he hd hc0 hb0 hb1 ha0 ha1
 rfl
theorem zj3(n:Nat)(w:World)(hn:n<=65536):
  Calls Tryz.prog 98 #[.int .u64 (n:Int)] w λe w'=>e= .returned (.int .i64 (zei n))/\w=w':=by
 go_enter Tryz.func98,Tryz.ntmps98
 go_wp2_with fail
 refine(zih n _ hn).mono ?_
 rintro e w' ⟨rfl,rfl⟩
 go_wp2_with fail
 go_ret
 exact⟨rfl,rfl⟩
theorem zf0{n:Int}(h: ¬(1<=n/\n<=65536)):za6 n=false:=by
 rcases hf:za6 n with _ |_
 ·rfl
 ·exact absurd (zes hf) h
theorem zct(n:Int)(w:World):
  Calls Tryz.prog 40 #[.int .i64 n] w λe w'=>e= .returned (.bool (za6 n))/\w=w':=by
 by_cases h1:1<=n
 ·by_cases h2:n<=65536
  ·obtain⟨m,rfl⟩:=Int.eq_ofNat_of_zero_le (show 0<=n by omega)
   have hf:za6 (m:Int)=((zei m:Int)==1):=by
    have h:=zj4 (n:=m) (by omega) (by omega)
    rw[Bool.eq_iff_iff,<-h]
    simp;omega
   have HF:=Lib.hid hf
   clear hf
   go_enter Tryz.func40,Tryz.ntmps40
   go_wp2_with fail
   refine(zj3 m _ (by omega)).mono ?_
   rintro e w' ⟨rfl,rfl⟩
   go_wp2_with fail
   go_ret
   exact⟨za8 HF.out.symm,rfl⟩
  ·have HF:=Lib.hid (zf0 (n:=n) (by omega))
   go_enter Tryz.func40,Tryz.ntmps40
   go_wp2_with fail
   go_ret
   exact⟨za8 HF.out.symm,rfl⟩
 ·have HF:=Lib.hid (zf0 (n:=n) (by omega))
  go_enter Tryz.func40,Tryz.ntmps40
  go_wp2_with fail
  go_ret
  exact⟨za8 HF.out.symm,rfl⟩
theorem zgd(x:Int)(w:World):
  Calls Tryz.prog 177 #[.int .i64 x] w λe w'=>e= .returned (.bool (zbu x))/\w=w':=by
 by_cases h:0<=x
 ·go_enter Tryz.func177,Tryz.ntmps177
  go_wp2_with fail
  go_ret
  exact⟨za8 (by simp[zbu,h]),rfl⟩
 ·go_enter Tryz.func177,Tryz.ntmps177
  go_wp2_with fail
  go_ret
  exact⟨za8 (by simp[zbu];omega),rfl⟩
theorem zgg(x n:Int)(w:World):
  Calls Tryz.prog 194 #[.int .i64 x, .int .i64 n] w λe w'=>e= .returned (.bool (ofI x n))/\w=w':=by
 rcases hf:za6 n with _ |_
 ·have HF:=Lib.hid hf
  clear hf
  go_enter Tryz.func194,Tryz.ntmps194
  go_wp2_with fail
  refine(zct n _).mono ?_
  rintro e w' ⟨rfl,rfl⟩
  rw[HF.out]
  go_wp2_with fail
  go_ret
  exact⟨za8 (by simp[ofI,HF.out]),rfl⟩
 ·obtain⟨b1,b2⟩:=zes hf
  have HF:=Lib.hid hf
  clear hf
  by_cases h:0<=x
  ·go_enter Tryz.func194,Tryz.ntmps194
   go_wp2_with fail
   refine(zct n _).mono ?_
   rintro e w' ⟨rfl,rfl⟩
   rw[HF.out]
   go_wp2_with fail
   go_ret
   exact⟨za8 (by simp[ofI,HF.out,h]),rfl⟩
  ·go_enter Tryz.func194,Tryz.ntmps194
   go_wp2_with fail
   refine(zct n _).mono ?_
   rintro e w' ⟨rfl,rfl⟩
   rw[HF.out]
   go_wp2_with fail
   go_ret
   exact⟨za8 (by simp[ofI,HF.out];omega),rfl⟩
theorem zhk{m:Nat}(hm:m<=131070){k:Nat}(hk:k<lv m):(bits BinOp.and IntKind.i64 ((m:Int)/2^k) 1==1)=true:=by
 obtain⟨h1,h2,_⟩:=zbg hm
 generalize lv m=l at*
 have e:((m:Int)/2^k)=((m/2^k:Nat):Int):=by simp
 have hlt:m/2^k<9223372036854775808:=Nat.lt_of_le_of_lt (Nat.div_le_self _ _) (by omega)
 rw[e,show(1:Int)=((1:Nat):Int)from rfl,zck _ _ hlt (by omega),nat_mask1]
 have h3:m%2^l/2^k%2=m/2^k%2:=by
  obtain⟨j,rfl⟩: ∃j,l=k+(j+1):=⟨l-k-1,by omega⟩
  rw[Nat.pow_add,Nat.mod_mul_right_div_self,Nat.pow_succ,Nat.mul_comm,Nat.mod_mul_right_mod]
 rw[h2]at h3
 have h4:(2^l-1)/2^k%2=1:=by
  obtain⟨j,rfl⟩: ∃j,l=k+(j+1):=⟨l-k-1,by omega⟩
  have hp:=zag k
  have hj:=zag j
  have e1:2^(k+(j+1))-1=2^k*(2*2^j-1)+(2^k-1):=by
   rw[Nat.pow_add,Nat.pow_succ,Nat.mul_comm (2^j) 2,Nat.mul_sub,Nat.mul_one]
   have:2^k*1<=2^k*(2*2^j):=Nat.mul_le_mul_left _ (by omega)
   omega
  rw[e1,Nat.mul_add_div hp,Nat.div_eq_of_lt (by omega)]
  omega
 rw[h4]at h3
 rw[<-h3];rfl
theorem zeh{m:Nat}(hm:m<=131070):(bits BinOp.and IntKind.i64 ((m:Int)/2^lv m) 1==1)=false:=by
 obtain⟨h1,_,h2⟩:=zbg hm
 generalize lv m=l at*
 have e:((m:Int)/2^l)=((m/2^l:Nat):Int):=by simp
 have hlt:m/2^l<9223372036854775808:=Nat.lt_of_le_of_lt (Nat.div_le_self _ _) (by omega)
 rw[e,show(1:Int)=((1:Nat):Int)from rfl,zck _ _ hlt (by omega),nat_mask1,h2]
 rfl
def zls(m:Nat)(w:World)(a':Act)(w':World):Prop:=
 w=w'/\∃(k:Nat) (u4 u5 u6 u7 u8 u9 u10 u11 u12 u13:Value),a'={tmps:= #[.int .i64 m,undef, .int .i64 0, .int .i64 k,u4,u5,u6,u7,u8,u9,u10,u11,u12,u13,undef],defers:=[]}/\k<=lv m
def zio(m:Nat)(a':Act)(_:World):Nat:=lv m-(intOf (a'.tmps.getD 3 undef)).toNat
theorem zi5(x:Int)(w:World):
  Calls Tryz.prog 178 #[.int .i64 x] w λe w'=>e= .returned (.int .i64 (lvI x))/\w=w':=by
 rcases hf:zbu x with _ |_
 ·have HF:=Lib.hid hf
  have HL:=Lib.hid (zj0 hf)
  clear hf
  go_enter Tryz.func178,Tryz.ntmps178
  go_wp2_with fail
  go_step3
  go_wp2_with fail
  refine(zgd x _).mono ?_
  rintro e w' ⟨rfl,rfl⟩
  rw[HF.out]
  go_wp2_with fail
  try rw[Exit.noGoto_ret]
  go_ret
  exact⟨zbm HL.out.symm,rfl⟩
 ·have HF:=Lib.hid hf
  have HL:=Lib.hid (zd1 hf)
  rw[zcj]at hf
  obtain⟨m,rfl⟩:=Int.eq_ofNat_of_zero_le hf.1
  rw[Int.toNat_natCast]at HL
  have hm:m<=131070:=by omega
  obtain⟨hl,_⟩:=zbg hm
  go_enter Tryz.func178,Tryz.ntmps178
  go_wp2_with fail
  refine wp_scope_jumps 0 (zls m w) (zio m) rfl ?_ ?_
  rotate_left
  ·rintro a' w' ⟨rfl,k,u4,u5,u6,u7,u8,u9,u10,u11,u12,u13,rfl,hk⟩
   by_cases hlt:k<lv m
   ·have ht:=zhk hm hlt
    go_wp2_with fail
    go_step3
    exact⟨rfl,⟨rfl,k+1,_,_,_,_,_,_,_,_,_,_,rfl,by omega⟩,by simp[zio,intOf];omega⟩
   ·obtain rfl:k=lv m:=by omega
    have ht:=zeh hm
    go_wp2_with fail
    try simp only[Exit.jump]
    go_ret
    exact⟨zbm HL.out.symm,rfl⟩
  ·go_wp2_with fail
   refine(zgd m _).mono ?_
   rintro e w' ⟨rfl,rfl⟩
   rw[HF.out]
   go_wp2_with fail
   go_step3
   by_cases hlt:0<lv m
   ·have ht:=zhk hm hlt
    simp at ht
    go_wp2_with fail
    go_step3
    exact⟨rfl,⟨rfl,1,_,_,_,_,_,_,_,_,_,_,rfl,by omega⟩⟩
   ·have hz:lv m=0:=by omega
    have ht:=zeh hm
    rw[hz]at HL ht
    clear hz
    simp at ht
    go_wp2_with fail
    try simp only[Exit.jump]
    go_ret
    exact⟨zbm HL.out.symm,rfl⟩
theorem zm2{x n:Int}(h:ofI x n=true):0<=x/\x<=131070/\1<=n/\n<=65536/\x<=2*n-2:=by
 rw[zdj]at h
 have:=zes h.1
 omega
theorem ze5{x n:Int}(h:ofI x n=false\/x=n-1):parI x n= -1:=by
 rcases h with h |h<;>simp[parI,h]
theorem zk6{m d:Nat}(hd:d<=16)(hm:m<=2*2^d-2)(hne:m≠2^d-1):lv m<d:=by
 have h16:2^d<=2^16:=Nat.pow_le_pow_right (by omega) hd
 obtain⟨_,h1,h2⟩:=zbg (x:=m) (by omega)
 have hp:=zag d
 rcases Nat.lt_or_ge (lv m) d with h |h
 ·exact h
 ·exfalso
  have h3:2^d<=2^lv m:=Nat.pow_le_pow_right (by omega) h
  have h4:=Nat.div_add_mod m (2^lv m)
  rw[h1]at h4
  rcases Nat.eq_zero_or_pos (m/2^lv m)with h5 |h5
  ·rw[h5]at h4
   have:2^lv m<2^(d+1):=by rw[Nat.pow_succ];omega
   have:lv m<d+1:=(Nat.pow_lt_pow_iff_right (by omega)).1 this
   have:lv m=d:=by omega
   rw[this]at h4
   omega
  ·have:2^lv m*1<=2^lv m*(m/2^lv m):=Nat.mul_le_mul_left _ h5
   omega
theorem zj7{m l:Nat}(hm:m<=131070)(hl:l=lv m)(h16:l<16):bits BinOp.andNot IntKind.i64 (bits BinOp.or IntKind.i64 (m:Int) (wrap64 (2^l))) (wrap64 (2^(l+1)))=(upN m:Int):=by
 obtain⟨_,h1,h2⟩:=zbg hm
 rw[<-hl]at h1 h2
 have hp:=zag l
 have hb:2^(l+1)<=2^16:=Nat.pow_le_pow_right (by omega) (by omega)
 have e2:2^(l+1)=2*2^l:=by rw[Nat.pow_succ];omega
 have w1:wrap64 ((2:Int)^l)=((2^l:Nat):Int):=by
  rw[show((2:Int)^l)=((2^l:Nat):Int)by simp]
  exact IntWalk.wrap64_in _ ⟨by omega,by omega⟩
 have w2:wrap64 ((2:Int)^(l+1))=((2^(l+1):Nat):Int):=by
  rw[show((2:Int)^(l+1))=((2^(l+1):Nat):Int)by simp]
  exact IntWalk.wrap64_in _ ⟨by omega,by omega⟩
 rw[w1,w2,zia _ _ (by omega) (by omega)]
 have hm0:m/2^l%2=0:=h2
 rw[zja hm0,zev _ (by omega) (by omega)]
 have hd:(m+2^l)/2^(l+1)=m/2^(l+1):=by
  have e4:=Nat.div_add_mod m (2^(l+1))
  have e5:m%2^(l+1)=2^l-1:=by
   rw[Nat.pow_succ,Nat.mod_mul,h1,h2];omega
  rw[e5]at e4
  have e6:m+2^l=(2^(l+1)-1)+m/2^(l+1)*2^(l+1):=by rw[Nat.mul_comm (m/2^(l+1))];omega
  rw[e6,Nat.add_mul_div_right _ _ (zag _),Nat.div_eq_of_lt (by omega)]
  omega
 rw[hd]
 unfold upN
 rw[<-hl]
 have hge:m/2^(l+1)%2=1->2^(l+1)<=m:=λh=>by
  rcases Nat.lt_or_ge m (2^(l+1))with h3 |h3
  ·rw[Nat.div_eq_of_lt h3]at h;omega
  ·exact h3
 rcases Nat.mod_two_eq_zero_or_one (m/2^(l+1))with h |h
 ·rw[h];simp
 ·have:=hge h
  rw[h,if_neg (by omega)]
  congr 1
  omega
theorem zek(x n:Int)(w:World):
  Calls Tryz.prog 99 #[.int .i64 x, .int .i64 n] w λe w'=>e= .returned (.int .i64 (parI x n))/\Ext w w':=by
 rcases ho:ofI x n with _ |_
 ·have HP:=Lib.hid (ze5 (.inl ho))
  have HO:=Lib.hid ho
  clear ho
  go_enter Tryz.func99,Tryz.ntmps99
  go_wp2_with fail
  refine(zgg x n _).mono ?_
  rintro e w' ⟨rfl,rfl⟩
  rw[HO.out]
  go_wp2_with fail
  go_ret
  exact⟨zbm HP.out.symm,Ext.refl _⟩
 ·obtain⟨b1,b2,b3,b4,b5⟩:=zm2 ho
  have HO:=Lib.hid ho
  by_cases hr:x=n-1
  ·have HP:=Lib.hid (ze5 (.inr hr))
   have hr':(x==n-1)=true:=by simpa using hr
   clear ho hr
   go_enter Tryz.func99,Tryz.ntmps99
   go_wp2_with fail
   refine(zgg x n _).mono ?_
   rintro e w' ⟨rfl,rfl⟩
   rw[HO.out]
   go_wp2_with fail
   go_ret
   exact⟨zbm HP.out.symm,Ext.refl _⟩
  ·have hr':(x==n-1)=false:=by simpa using hr
   have HP:Hid (parI x n=(upN x.toNat:Int)):=Lib.hid (by simp[parI,ho,hr])
   obtain⟨m,rfl⟩:=Int.eq_ofNat_of_zero_le b1
   rw[Int.toNat_natCast]at HP
   have hlv:lv m<16:=by
    obtain⟨d,hd,hd'⟩:=zcu (zdj.1 ho).1
    have:=zk6 (m:=m) hd (by omega) (by omega)
    omega
   have HL:=Lib.hid (zd1 (x:=(m:Int)) (zcj.2 (by omega)))
   rw[Int.toNat_natCast]at HL
   obtain⟨l,hl⟩: ∃l,l=lv m:=⟨_,rfl⟩
   rw[<-hl]at HL hlv
   have HLL:=Lib.hid hl
   clear ho hr hl
   go_enter Tryz.func99,Tryz.ntmps99
   go_wp2_with fail
   refine(zgg m n _).mono ?_
   rintro e w' ⟨rfl,rfl⟩
   rw[HO.out]
   go_wp2_with fail
   refine(zi5 m _).mono ?_
   rintro e w' ⟨rfl,rfl⟩
   rw[HL.out]
   go_wp2_with fail
   go_quiet (fail)
   go_wp2_with fail
   go_ret
   exact⟨zbm (by rw[HP.out];exact zj7 (by omega) HLL.out hlv),(Ext.refl _).drewN _⟩
def zhd(x0 n:Int)(w:World)(k:Nat)(x l:Value)(wr:World):Prop:=
 ∃(y:Int) (done:List Int) (g:Option Nat),x= .int .i64 y/\zdm x0 n=done++(if y<0 then[]else y::zdl n k y)/\(0<=y->17<=k+lvI y)/\done.length+k<=17/\OwI wr w.heap.size l done g/\Ext w wr
theorem zj9(x n:Int)(w:World):
  Calls Tryz.prog 41 #[.int .i64 x, .int .i64 n] w (Ret w λw' v=>∃g,OwI w' w.heap.size v (zdm x n) g):=by
 have HS:Hid (zhd x n w 16 (.int .i64 (parI x n)) (.slice none 0 0) w):=Lib.hid (by
  refine⟨_,[],none,rfl,?_,λh=>?_,by simp,Ow.nil _ _ _ _,Ext.refl _⟩
  ·rw[List.nil_append,zdm,zdl]
  ·have:=(ze6 h).2.2;omega)
 go_enter Tryz.func41,Tryz.ntmps41
 go_wp2_with fail
 refine(zek x n _).mono ?_
 rintro e w1 ⟨rfl,hb⟩
 go_wp2_with fail
 go_loopg [0,5] 16 (λk x0 l wr=>zhd x n w k x0 l wr)
 case atStart=>
  obtain⟨y,done,g,e1,e2,e3,e4,e5,e6⟩:=HS.out
  exact⟨y,done,g,e1,e2,e3,e4,e5.ext hb,e6.trans hb⟩
 case round=>
  obtain⟨y,done,g,rfl,e2,e3,e4,e5,e6⟩:=hrel
  have E2:=Lib.hid e2
  obtain⟨a,c,rfl⟩:=e5.form
  clear e2
  by_cases hy:0<=y
  ·have hk:1<=gk:=by have:=e3 hy;have:=zmr y;omega
   go_wp2_with (first |(at_builtin;refine zns ?_))
   refine znj (zhb rfl (.tmp 14) (.tmp 16) rfl rfl (e5.alloc _) rfl rfl (zm3 _ _ _) ?_ ?_ ?_)
   ·simp;omega
   ·have:=e6.le;simp;omega
   intro a' c' g' w' h1 h2 h3
   have h4:=(e5.alloc _).grown h2 (e6.alloc _) (Nat.le_refl _)
   go_wp2_with fail
   refine(zek y n _).mono ?_
   rintro e w2 ⟨rfl,hb2⟩
   go_wp2_with fail
   go_roundg (gk-1)
   case measure=>omega
   case rel=>
    refine⟨_,_,g',rfl,?_,λh=>?_,?_,h1.ext hb2,h4.trans hb2⟩
    ·rw[E2.out,if_neg (by omega),show gk=gk-1+1 by omega,List.append_assoc]
     rfl
    ·have:=(ze6 h).2.2;have:=e3 hy;omega
    ·simp;omega
  ·go_wp2_with fail
   go_ret
   exact⟨_,rfl,e6,g,by rw[E2.out,if_pos (by omega),List.append_nil];exact e5⟩
theorem ze7{n:Int}: ∀(f:Nat) (x:Int),(zdl n f x).length<=f
 |0,x=>Nat.le_refl _
 |f+1,x=>by
  unfold zdl
  split
  ·exact Nat.zero_le _
  ·simp only[List.length_cons];have:=ze7 (n:=n) f (parI x n);omega
theorem zjd(x n:Int):(zdm x n).length<=17:=ze7 17 x
end
section
def zky(l m:List Int)(i:Value)(w wr:World):Prop:=∃j:Nat,i= .int .i64 (j:Int)/\j<=l.length/\l.take j=m.take j/\Ext w wr
theorem zg6(p q:AC)(l m:List Int){S S':Nat->Prop}(w:World)(hp:Is w S p l)(hq:Is w S' q m):
  Calls Tryz.prog 191 #[.slice p.a l.length p.c, .slice q.a m.length q.c] w (Ret w λ_ v=>v= .bool (decide (l=m))):=by
 have hl:=hp.lens
 have hm:=hq.lens
 unfold maxLen at hl hm
 by_cases hlen:l.length=m.length
 ·have ht:((l.length:Int) != (m.length:Int))=false:=by simp[hlen]
  have HL:=Lib.hid hlen
  obtain⟨N,hN⟩: ∃N,N=l.length:=⟨_,rfl⟩
  have HN:=Lib.hid hN
  have hNb:N<=9223372036854775807:=by omega
  rw[<-hlen,<-hN]at ht
  rw[<-hlen,<-hN]
  clear hlen hN hl hm
  go_enter Tryz.func191,Tryz.ntmps191
  go_wp2_with fail
  go_loopw [5] (λi wr=>zky l m i w wr) (λi _=>N-(intOf i).toNat)
  case atStart=>exact⟨0,rfl,Nat.zero_le _,by simp,Ext.refl _⟩
  case round=>
   obtain⟨j,rfl,e1,e2,e3⟩:=hrel
   have E2:=Lib.hid e2
   rw[<-HN.out]at e1
   clear e2
   by_cases hj:j<N
   ·have hj1:j<l.length:=by rw[<-HN.out];exact hj
    have hj2:j<m.length:=by rw[<-HL.out];exact hj1
    obtain⟨b,o,hpa,hc⟩:=(hp.ext e3).at_ hj1
    obtain⟨b',o',hqa,hc'⟩:=(hq.ext e3).at_ hj2
    have hj0:(0:Int)<=(j:Int):=by omega
    have hjN:(j:Int)< (N:Int):=by omega
    rw[hpa,hqa]
    clear hpa hqa
    by_cases he:l[j]=m[j]
    ·have ht2:(l[j] != m[j])=false:=by simp[he]
     have HE:=Lib.hid he
     obtain⟨X,hX⟩: ∃X,X=l[j]:=⟨_,rfl⟩
     obtain⟨Y,hY⟩: ∃Y,Y=m[j]:=⟨_,rfl⟩
     rw[<-hX]at hc ht2
     rw[<-hY]at hc' ht2
     clear he hX hY
     go_wp2_with fail
     go_quiet (fail)
     go_wp2_with fail
     go_roundw
     case rel=>exact⟨j+1,by simp,by have:=HN.out;omega,by rw[List.take_add_one,List.take_add_one,E2.out,List.getElem?_eq_getElem hj1,List.getElem?_eq_getElem hj2,HE.out],by(repeat (first |exact Ext.refl _ |refine Ext.drew ?_ |refine Ext.drewN ?_ _ |refine Ext.alloc ?_ _ |(refine Ext.setCell ?_ (by first |omega |(simp;done) |(simp;omega)) _) |refine Ext.trans ?_ (by assumption)))⟩
     case measure=>(first |omega |(simp[intOf];done) |(simp[intOf];omega))
    ·have ht2:(l[j] != m[j])=true:=by simpa using he
     have HE:Hid (l≠m):=Lib.hid (λh=>he (by subst h;rfl))
     obtain⟨X,hX⟩: ∃X,X=l[j]:=⟨_,rfl⟩
     obtain⟨Y,hY⟩: ∃Y,Y=m[j]:=⟨_,rfl⟩
     rw[<-hX]at hc ht2
     rw[<-hY]at hc' ht2
     clear he hX hY
     go_wp2_with fail
     go_quiet (fail)
     go_wp2_with fail
     go_ret
     exact⟨_,rfl,by(repeat (first |exact Ext.refl _ |refine Ext.drew ?_ |refine Ext.drewN ?_ _ |refine Ext.alloc ?_ _ |(refine Ext.setCell ?_ (by first |omega |(simp;done) |(simp;omega)) _) |refine Ext.trans ?_ (by assumption))),by simp[HE.out]⟩
   ·go_wp2_with fail
    go_ret
    have:l=m:=by
     have h1:=HN.out
     have h2:=HL.out
     have h3:=E2.out
     rwa[List.take_of_length_le (by omega),List.take_of_length_le (by omega)]at h3
    exact⟨_,rfl,by(repeat (first |exact Ext.refl _ |refine Ext.drew ?_ |refine Ext.drewN ?_ _ |refine Ext.alloc ?_ _ |(refine Ext.setCell ?_ (by first |omega |(simp;done) |(simp;omega)) _) |refine Ext.trans ?_ (by assumption))),by simp[this]⟩
 ·have ht:((l.length:Int) != (m.length:Int))=true:=by simp;omega
  have HE:Hid (l≠m):=Lib.hid (λh=>hlen (by rw[h]))
  clear hlen
  go_enter Tryz.func191,Tryz.ntmps191
  go_wp2_with fail
  go_ret
  exact⟨_,rfl,by(repeat (first |exact Ext.refl _ |refine Ext.drew ?_ |refine Ext.drewN ?_ _ |refine Ext.alloc ?_ _ |(refine Ext.setCell ?_ (by first |omega |(simp;done) |(simp;omega)) _) |refine Ext.trans ?_ (by assumption))),by simp[HE.out]⟩
end
end Go.Proofs.YtamhdpombmegaaaGreat

namespace Go.Proofs.YtamhdpombmegaaaGreat.Sx
open Go.RowKit
set_option linter.unusedVariables false
section
theorem zl3(n:Int):zah Tryz.prog 40 [I n] (.r (.b (za6 n))):=
 zjr (us:=[.int .i64 n]) (u:= .bool (za6 n)) (zcx Tryz.func40 rfl (by kernel_rfl)) (λ_ _ _ h=>znk h) (λ_ _=>by simp[RV.at_]) λw=>zct n w
theorem zl4(x n:Int):zah Tryz.prog 41 [I x,I n] (ich (zdm x n)):=
 zci (zcx Tryz.func41 rfl (by kernel_rfl)) λw k vs hp=>by
  rw[znl hp]
  exact(zj9 x n w).mono λ_ _ ⟨v,he,hx,_,hv⟩=>⟨v,he,hx,zl5 hv⟩
theorem zjo(l m:List Int)(hl: ∀x∈l,i64 x)(hm: ∀x∈m,i64 x):zah Tryz.prog 191 [is l,is m] (.r (.b (decide (l=m)))):=
 zci (zcx Tryz.func191 rfl (by kernel_rfl)) λw k vs hp=>by
  obtain⟨a,b,rfl,h1,h2⟩:=zel hp
  obtain⟨p,rfl,hp1⟩:=zki hl h1
  obtain⟨q,rfl,hq1⟩:=zki hm h2
  exact(zg6 p q l m w hp1 hq1).mono λ_ _ ⟨v,he,hx,hv⟩=>⟨v,he,hx,k,λ_ _=>rfl,by simp only[Res.at_,RV.at_];exact hv⟩
theorem zcb(l m:List UInt8):zah Tryz.prog 95 [bs l,bs m] (.r (.b (decide (l=m)))):=
 zci (zcx Tryz.func95 rfl (by kernel_rfl)) λw k vs hp=>by
  obtain⟨a,b,rfl,h1,h2⟩:=zel hp
  obtain⟨p,rfl,hp1⟩:=zkg h1
  obtain⟨q,rfl,hq1⟩:=zkg h2
  exact(zg5 p q l m w hp1 hq1).mono λ_ _ ⟨v,he,hx,hv⟩=>⟨v,he,hx,k,λ_ _=>rfl,by simp only[Res.at_,RV.at_];exact hv⟩
end
section
theorem Vcall.bool{P:Program}{f:FuncId}{vs:List RV}{K:Res->Prop}{β:Bool}(hg:zah P f vs (.r (.b β)))(ht:β=true->K (.r (.b true)))(hf:β=false->K (.r (.b false))):Vcall P f vs K:=by
 cases β
 ·exact zd hg (hf rfl)
 ·exact zd hg (ht rfl)
abbrev zq:= @Vcall.bool
theorem zh1(a b:Leaf):zah Tryz.prog 190 [.ag a.c, .ag b.c] (.r (.b (decide (a=b)))):=by
 refine zad (T:=Tab) mixed zaj Tryz.func190 rfl (by kernel_rfl) ?_
 obtain⟨a1,a2,a3,a4,a5,a6⟩:=a
 obtain⟨b1,b2,b3,b4,b5,b6⟩:=b
 repeat' (first |refine zq (zcb _ _) (λh=>?_) (λh=>?_) |refine zg (λh=>?_) (λh=>?_) |refine ze ?_)
 all_goals simp only[zb,Int.natCast_inj,UInt8.toNat_inj]at*
 all_goals simp_all [ofC]
theorem zjp(a b:Node)(ha: ∀x∈a.par.late,i64 x)(hb: ∀x∈b.par.late,i64 x):zah Tryz.prog 97 [.ag a.c, .ag b.c] (.r (.b (decide (a=b)))):=by
 refine zad (T:=Tab) mixed zaj Tryz.func97 rfl (by kernel_rfl) ?_
 obtain⟨a1,a2,a3⟩:=a
 obtain⟨b1,b2,b3⟩:=b
 refine zg (λh1=>?_) (λh1=>?_)
 ·refine za rfl rfl ?_
  refine za rfl rfl ?_
  refine zq (zh1 a2 b2) (λh2=>?_) (λh2=>?_)
  ·refine zq (zcb _ _) (λh3=>?_) (λh3=>?_)
   ·refine zq (zcb _ _) (λh4=>?_) (λh4=>?_)
    ·refine zq (zjo _ _ ha hb) (λh5=>?_) (λh5=>?_)
     ·refine ze ?_
      simp only[zb,Int.natCast_inj,UInt8.toNat_inj]at*
      obtain⟨_,_,_⟩:=a3
      obtain⟨_,_,_⟩:=b3
      simp_all [ofC]
     ·refine ze ?_
      simp only[zb,Int.natCast_inj,UInt8.toNat_inj]at*
      simp[ofC]
      intro _ _ e;exact h5 (by rw[e])
    ·refine ze ?_
     simp only[zb,Int.natCast_inj,UInt8.toNat_inj]at*
     simp[ofC]
     intro _ _ e;exact h4 (by rw[e])
   ·refine ze ?_
    simp only[zb,Int.natCast_inj,UInt8.toNat_inj]at*
    simp[ofC]
    intro _ _ e;exact h3 (by rw[e])
  ·refine ze ?_
   simp only[zb,Int.natCast_inj,UInt8.toNat_inj]at*
   simp[ofC,h2]
 ·refine ze ?_
  simp only[zb,Int.natCast_inj,UInt8.toNat_inj]at*
  simp[ofC,h1]
end
section
theorem ziu{ρ:List (Nat×Nat)}{S:St}(v:RV):cvTF ρ S (.r v) (.r v):=by
 cases v<;>first |trivial |exact cr
theorem zas{ρ:List (Nat×Nat)}{S:St}: ∀l:List RV,zb3 ρ S (l.map .r) (l.map .r)
 |[]=>rfl
 |v::r=>⟨_,_,rfl,ziu v,zas r⟩
end
section
theorem Cv.tu{l m:List RV}(h:Cvs l m):Cv (.tu l) (.tu m):=λw k v hv=>by
 simp only[RV.at_]at*
 obtain⟨us,e,hp⟩:=hv
 exact⟨us,e,h.at_ hp⟩
end
section
def zf7(n:Int):Int:=if za6 n then 2*(zdm 0 n).length+1 else 0
theorem zhi(n:Int):zah Tryz.prog 14 [I n] (.r (I (zf7 n))):=by
 refine zad (T:=Tab) mixed zaj Tryz.func14 rfl (by kernel_rfl) ?_
 have hp:=zjd 0 n
 refine zq (zl3 n) (λh=>zn rfl (zl ?_)) (λh=>zm rfl (zk ?_))
 ·refine zd (zl4 0 n) ?_
  refine zc rfl (by omega) ?_
  refine zc rfl (by omega) ?_
  exact ze (by simp[zf7,h])
 ·exact ze (by simp[zf7,h,ofC])
theorem zk2:zah Tryz.prog 4 [] (.r (.b true)):=by
 refine zad (T:=Tab) mixed zaj Tryz.func4 rfl (by kernel_rfl) ?_
 refine zd (zhi 4) ?_
 refine zm (by decide) ?_
 refine zd (zhi 1) ?_
 refine zm (by decide) ?_
 exact cr
theorem Cv.ag{l m:List RV}(h:Cvs l m):Cv (.ag l) (.ag m):=λw k v hv=>by
 simp only[RV.at_]at*
 obtain⟨us,e,hp⟩:=hv
 exact⟨us,e,h.list hp⟩
theorem zcv{l:List Spot}{i:Int}{j:Nat}(h:i=j)(hj:j<l.length):((l.flatMap Spot.c).drop (i.toNat*11)).take 11=l[j].c:=zf2 (f:=Spot.c) (sz:=11) (λ_=>rfl) h hj
theorem zcw{l:List Stub}{i:Int}{j:Nat}(h:i=j)(hj:j<l.length):((l.flatMap Stub.c).drop (i.toNat*2)).take 2=l[j].c:=zf2 (f:=Stub.c) (sz:=2) (λ_=>rfl) h hj
end
section
abbrev U64(n:Nat):RV:= .i .u64 (n:Int)
def us(l:List Nat):RV:= .sl 1 l.length (l.map U64)
end
section
theorem zjq(a b:Lean_)(ha1:a.opn.length<=1000000000)(ha2:a.shut.length<=1000000000)(hb1:b.opn.length<=1000000000)(hb2:b.shut.length<=1000000000)(ha: ∀x∈a.opn,∀u∈x.node.par.late,i64 u)(hb: ∀x∈b.opn,∀u∈x.node.par.late,i64 u):
  zah Tryz.prog 38 [.ag a.c, .ag b.c] (.r (.b (decide (a=b)))):=by
 refine zad (T:=Tab) mixed zaj Tryz.func38 rfl (by kernel_rfl) ?_
 have no:a≠b->RV.b false=RV.b (decide (a=b)):=λh=>by simp[h]
 by_cases h1:a.leaves=b.leaves
 rotate_left
 ·refine zm (by simp[h1]) (zk (ze (no λe=>h1 (by rw[e]))))
 refine zn (by simp[h1]) ?_
 by_cases h2:a.own=b.own
 rotate_left
 ·refine zm (by simp[h2]) (zk (ze (no λe=>h2 (by rw[e]))))
 refine zn (by simp[h2]) ?_
 by_cases h3:a.opn.length=b.opn.length
 rotate_left
 ·refine zm (by simp;omega) (zk (ze (no λe=>h3 (by rw[e]))))
 refine zn (by simp[h3]) ?_
 by_cases h4:a.shut.length=b.shut.length
 rotate_left
 ·refine zm (by simp;omega) (zk (ze (no λe=>h4 (by rw[e]))))
 refine zn (by simp[h4]) (zl ?_)
 refine zp (λj:Nat=>{F:=[(2, .own 0),(3, .own 1),(5, .r (I j))],O:=[(0,some (.box (a.c.map .r))),(1,some (.box (b.c.map .r)))],nx:=2}) (λj=>j<=a.opn.length/\a.opn.take j=b.opn.take j) (λj=>a.opn.length-j) 0 ⟨by omega,by simp⟩ (zcr [(0,0),(1,1)] rfl ⟨rfl,rfl,cr,trivial⟩ ⟨zas _,zas _,trivial⟩) ?_
 rintro j ⟨hj,ht⟩
 refine zg (λh=>zk ?_) (λh=>zl ?_)
 ·simp only[zb]at h
  have hj':j<a.opn.length:=by omega
  have hjb:j<b.opn.length:=by omega
  have bad:a.opn[j]≠b.opn[j]->RV.b false=RV.b (decide (a=b)):=λh=>no λe=>h (by simp only[e])
  refine zr (by kernel_rfl) ?_
  refine zi (by omega) (by omega) (zcv rfl hj') (zf rfl ?_)
  refine zi (by omega) (by omega) (zcv rfl hjb) (zf rfl ?_)
  by_cases h5:a.opn[j].at_=b.opn[j].at_
  rotate_left
  ·refine zm (by simp[h5]) (zk (ze (bad λe=>h5 (by rw[e]))))
  refine zn (by simp[h5]) ?_
  refine zi (by omega) (by omega) (zcv rfl hj') ?_
  refine za rfl rfl ?_
  refine zi (by omega) (by omega) (zcv rfl hjb) ?_
  refine za rfl rfl ?_
  refine zd (zjp a.opn[j].node b.opn[j].node (ha _ (List.getElem_mem _)) (hb _ (List.getElem_mem _))) ?_
  by_cases h6:a.opn[j].node=b.opn[j].node
  rotate_left
  ·refine zm (by simp[h6]) (zk (ze (bad λe=>h6 (by rw[e]))))
  refine zn (by simp[h6]) (zl ?_)
  refine zc (m:=((j+1:Nat):Int)) (by omega) (by omega) ?_
  refine⟨j+1,⟨hj',?_⟩,by omega,zcr [(0,0),(1,1)] rfl ⟨rfl,rfl,cr,trivial⟩ ⟨zas _,zas _,trivial⟩⟩
  have h7:a.opn[j]=b.opn[j]:=by
   revert h5 h6
   generalize a.opn[j]=x
   generalize b.opn[j]=y
   cases x;cases y
   intro e1 e2
   simp_all
  rw[List.take_add_one,List.take_add_one,ht,List.getElem?_eq_getElem hj',List.getElem?_eq_getElem hjb,h7]
 simp only[zb]at h
 have hopn:a.opn=b.opn:=by rwa[List.take_of_length_le (by omega),List.take_of_length_le (by omega)]at ht
 clear ht h
 refine zp (λj:Nat=>{F:=[(2, .own 0),(3, .own 1),(6, .r (I j))],O:=[(0,some (.box (a.c.map .r))),(1,some (.box (b.c.map .r)))],nx:=2}) (λj=>j<=a.shut.length/\a.shut.take j=b.shut.take j) (λj=>a.shut.length-j) 0 ⟨by omega,by simp⟩ (zcr [(0,0),(1,1)] rfl ⟨rfl,rfl,cr,trivial⟩ ⟨zas _,zas _,trivial⟩) ?_
 rintro j ⟨hj,ht⟩
 refine zg (λh=>zk ?_) (λh=>zl ?_)
 ·simp only[zb]at h
  have hj':j<a.shut.length:=by omega
  have hjb:j<b.shut.length:=by omega
  have bad:a.shut[j]≠b.shut[j]->RV.b false=RV.b (decide (a=b)):=λh=>no λe=>h (by simp only[e])
  refine zr (by kernel_rfl) ?_
  refine zi (by omega) (by omega) (zcw rfl hj') (zf rfl ?_)
  refine zi (by omega) (by omega) (zcw rfl hjb) (zf rfl ?_)
  by_cases h5:a.shut[j].at_=b.shut[j].at_
  rotate_left
  ·refine zm (by simp[h5]) (zk (ze (bad λe=>h5 (by rw[e]))))
  refine zn (by simp[h5]) ?_
  refine zi (by omega) (by omega) (zcw rfl hj') (zf rfl ?_)
  refine zi (by omega) (by omega) (zcw rfl hjb) (zf rfl ?_)
  refine zd (zcb a.shut[j].hash b.shut[j].hash) ?_
  by_cases h6:a.shut[j].hash=b.shut[j].hash
  rotate_left
  ·refine zm (by simp[h6]) (zk (ze (bad λe=>h6 (by rw[e]))))
  refine zn (by simp[h6]) (zl ?_)
  refine zc (m:=((j+1:Nat):Int)) (by omega) (by omega) ?_
  refine⟨j+1,⟨hj',?_⟩,by omega,zcr [(0,0),(1,1)] rfl ⟨rfl,rfl,cr,trivial⟩ ⟨zas _,zas _,trivial⟩⟩
  have h7:a.shut[j]=b.shut[j]:=by
   revert h5 h6
   generalize a.shut[j]=x
   generalize b.shut[j]=y
   cases x;cases y
   intro e1 e2
   simp_all
  rw[List.take_add_one,List.take_add_one,ht,List.getElem?_eq_getElem hj',List.getElem?_eq_getElem hjb,h7]
 simp only[zb]at h
 have hshut:a.shut=b.shut:=by rwa[List.take_of_length_le (by omega),List.take_of_length_le (by omega)]at ht
 refine ze ?_
 have:a=b:=by cases a;cases b;simp_all
 simp[ofC,this]
end
section
section
variable {P:Program} {S:St} {o:Oper} {x y:Operand} {t t2 e:TypeId} {K:RV->Prop}
theorem zg7{w:World}{m:Nat}(hu:P.underlying t=some (.pointer e)):(Op.equalIn (m+1) t (.pointer none) (.pointer none)).run P w= .ok true w:=by simp[Op.equalIn,run_underlying hu w]
theorem zij{w:World}(hu:P.underlying t=some (.pointer e)):(Op.equal t (.pointer none) (.pointer none)).run P w= .ok true w:=zg7 (m:=9999) hu
theorem Vfun.nn(e:TypeId)(hop:o.op= .binOp .eql t x y t2)(hx:opr S x=some (.r (.x (.pointer none))))(hy:opr S y=some (.r (.x (.pointer none))))(hu:P.underlying t=some (.pointer e))(hK:K (.b true)):Vfun P S o [x,y] K:=by
 refine⟨[.x (.pointer none), .x (.pointer none)],by simp only[oprs,hx,hy,St.rv], .b true,λa w k h=>?_,hK⟩
 obtain⟨u,v,e1,h1,h2⟩:=zel h
 simp only[RV.at_]at h1 h2
 subst h1;subst h2
 simp only[List.map_cons,List.map_nil,List.cons.injEq,and_true]at e1
 refine⟨.bool true,?_,by simp only[RV.at_]⟩
 simp[execOp,hop,e1.1,e1.2,eqGuard,binOp,zij hu]
end
abbrev np:RV:= .x (.pointer none)
abbrev ns:RV:= .x (.slice none 0 0)
theorem zg1(p:List RV):zah Tryz.prog 5 [np, .ag p] (.r (.tu [bs [],Er 2])):=by
 refine zad (T:=Tab) mixed zaj Tryz.func5 rfl (by kernel_rfl) ?_
 refine Vfun.nn _ rfl rfl rfl Tryz.underlying30 (zk ?_)
 exact⟨_,rfl,Cv.tu (zh (Cv.nil 1) (zj _))⟩
theorem zix(p:RV):zah Tryz.prog 6 [np,p] (.r (.tu [bs [],Er 2])):=by
 refine zad (T:=Tab) mixed zaj Tryz.func6 rfl (by kernel_rfl) ?_
 refine Vfun.nn _ rfl rfl rfl Tryz.underlying30 (zk ?_)
 exact⟨_,rfl,Cv.tu (zh (Cv.nil 1) (zj _))⟩
theorem zh3(p q:RV):zah Tryz.prog 7 [np,p,q] (.r (.tu [bs [],Er 2])):=by
 refine zad (T:=Tab) mixed zaj Tryz.func7 rfl (by kernel_rfl) ?_
 refine Vfun.nn _ rfl rfl rfl Tryz.underlying30 (zk ?_)
 exact⟨_,rfl,Cv.tu (zh (Cv.nil 1) (zj _))⟩
theorem zh4(p q r:RV):zah Tryz.prog 8 [np,p,q,r] (.r (.tu [bs [],Er 2])):=by
 refine zad (T:=Tab) mixed zaj Tryz.func8 rfl (by kernel_rfl) ?_
 refine Vfun.nn _ rfl rfl rfl Tryz.underlying30 (zk ?_)
 exact⟨_,rfl,Cv.tu (zh (Cv.nil 1) (zj _))⟩
theorem zg0(p q r s u:RV):zah Tryz.prog 9 [np,p,q,r,s,u] (.r (Er 2)):=by
 refine zad (T:=Tab) mixed zaj Tryz.func9 rfl (by kernel_rfl) ?_
 refine Vfun.nn _ rfl rfl rfl Tryz.underlying30 (zk ?_)
 exact cr
theorem ziv:zah Tryz.prog 10 [np] (.r (I 0)):=by
 refine zad (T:=Tab) mixed zaj Tryz.func10 rfl (by kernel_rfl) ?_
 refine Vfun.nn _ rfl rfl rfl Tryz.underlying30 (zk ?_)
 exact cr
theorem ziw(p:RV):zah Tryz.prog 11 [np,p] (.r (.b false)):=by
 refine zad (T:=Tab) mixed zaj Tryz.func11 rfl (by kernel_rfl) ?_
 refine Vfun.nn _ rfl rfl rfl Tryz.underlying30 (zk ?_)
 exact cr
theorem zca:zah Tryz.prog 95 [bs [],bs []] (.r (.b true)):=by
 have h:=zcb [] []
 simpa using h
abbrev nls:List RV:=[ns,ns,ns,ns,ns,ns,ns,ns,ns,ns,ns,ns]
abbrev zkx:List RV:=[ns, .i .u64 0,ns,ns,I 0,ns,ns,ns,ns,ns,ns,ns,ns,ns,ns,ns,ns,ns,ns,ns]
abbrev zgv:List RV:=[ns, .i .u64 0,ns,ns,I 0,ns,ns,ns,ns,ns,ns,ns,ns,ns,ns,ns,ns,ns,ns,ns,I 0,I 0,ns,ns,ns,ns,ns]
abbrev zji:List RV:=[ns, .i .u64 0,ns,ns,I 0,ns,ns,ns,ns,ns,ns,ns,ns,ns,ns,ns,ns,ns,ns,ns,ns,ns,ns,ns]
theorem nn2{s t:Nat}:Cvs [ns,ns] [.sl s 0 [], .sl t 0 []]:=zh (Cv.nil s) (zh (Cv.nil t) Cvs.nil)
theorem zk3:zah Tryz.prog 186 [.ag [ns, .i .u64 0,ns,ns], .ag [ns, .i .u64 0,ns,ns]] (.r (.b true)):=by
 refine zad (T:=Tab) mixed zaj Tryz.func186 rfl (by kernel_rfl) ?_
 refine Vcall.mk' zca nn2 ?_
 refine zm rfl ?_
 refine Vcall.mk' zca nn2 ?_
 refine Vcall.mk' zca nn2 ?_
 exact cr
theorem ziz:zah Tryz.prog 283 [.sl 1 12 nls, .sl 1 12 nls] (.r (.b true)):=by
 refine zad (T:=Tab) mixed zaj Tryz.func283 rfl (by kernel_rfl) ?_
 refine zn rfl (zl ?_)
 refine zp (λi:Nat=>⟨[(0, .r (.sl 1 12 nls)),(1, .r (.sl 1 12 nls)),(5, .r (I i))],[],0⟩) (λi=>i<=12) (λi=>12-i) 0 (by omega) (zcr [] rfl ⟨cr,cr,cr,trivial⟩ trivial) ?_
 intro i hi
 refine zg (λh=>zk ?_) (λh=>zl ?_)
 ·simp only[zb]at h
  have h1:i<12:=by omega
  have hc:(nls.drop ((i:Int).toNat*1)).take 1=[ns]:=by
   rw[Int.toNat_natCast,Nat.mul_one]
   have:i=0\/i=1\/i=2\/i=3\/i=4\/i=5\/i=6\/i=7\/i=8\/i=9\/i=10\/i=11:=by omega
   rcases this with rfl |rfl |rfl |rfl |rfl |rfl |rfl |rfl |rfl |rfl |rfl |rfl<;>rfl
  refine zr (by kernel_rfl) ?_
  refine zi (by omega) (by omega) hc (zf rfl ?_)
  refine zi (by omega) (by omega) hc (zf rfl ?_)
  refine Vcall.mk' zca nn2 ?_
  refine zn rfl (zl ?_)
  refine zc (m:=((i+1:Nat):Int)) (by omega) (by omega) ?_
  exact⟨i+1,by omega,by omega,zcr [] rfl ⟨cr,cr,cr,trivial⟩ trivial⟩
 ·exact cr
theorem zg2:zah Tryz.prog 187 [.ag nls, .ag nls] (.r (.b true)):=by
 refine zad (T:=Tab) mixed zaj Tryz.func187 rfl (by kernel_rfl) ?_
 refine zo ?_
 refine zo ?_
 refine zd ziz ?_
 exact cr
theorem zh5:zah Tryz.prog 284 [ns,ns] (.r (.b true)):=by
 refine zad (T:=Tab) mixed zaj Tryz.func284 rfl (by kernel_rfl) ?_
 refine zn rfl (zl ?_)
 refine Vloop.rounds 1 (Vrounds.step mixed zaj ?_)
 refine zn rfl (zl ?_)
 exact cr
theorem zju:zah Tryz.prog 188 [ns,ns] (.r (.b true)):=by
 refine zad (T:=Tab) mixed zaj Tryz.func188 rfl (by kernel_rfl) ?_
 refine zd zh5 ?_
 exact cr
theorem zjv:zah Tryz.prog 93 [.ag zkx, .ag zkx] (.r (.b true)):=by
 refine zad (T:=Tab) mixed zaj Tryz.func93 rfl (by kernel_rfl) ?_
 refine za rfl rfl ?_
 refine za rfl rfl ?_
 refine zd zk3 ?_
 refine zm rfl ?_
 refine Vcall.mk' zca nn2 ?_
 refine Vcall.mk' zca nn2 ?_
 refine za rfl rfl ?_
 refine za rfl rfl ?_
 refine zd zg2 ?_
 refine zd zju ?_
 exact cr
theorem zh6:zah Tryz.prog 94 [ns,ns] (.r (.b true)):=by
 refine zad (T:=Tab) mixed zaj Tryz.func94 rfl (by kernel_rfl) ?_
 refine zn rfl (zl ?_)
 refine Vloop.rounds 1 (Vrounds.step mixed zaj ?_)
 refine zn rfl (zl ?_)
 exact cr
theorem zh7:zah Tryz.prog 37 [.ag zji, .ag zji] (.r (.b true)):=by
 refine zad (T:=Tab) mixed zaj Tryz.func37 rfl (by kernel_rfl) ?_
 refine za rfl rfl ?_
 refine za rfl rfl ?_
 refine zd zjv ?_
 refine zn rfl ?_
 refine zd zh6 ?_
 refine zn rfl ?_
 refine Vcall.mk' zca nn2 ?_
 refine zn rfl ?_
 refine zn rfl ?_
 refine zn rfl (zl ?_)
 refine Vloop.rounds 1 (Vrounds.step mixed zaj ?_)
 refine zn rfl (zl ?_)
 refine Vloop.rounds 1 (Vrounds.step mixed zaj ?_)
 refine zn rfl (zl ?_)
 exact cr
theorem zh8:zah Tryz.prog 12 [.ag zgv, .ag zgv] (.r (.b true)):=by
 refine zad (T:=Tab) mixed zaj Tryz.func12 rfl (by kernel_rfl) ?_
 refine za rfl rfl ?_
 refine za rfl rfl ?_
 refine za rfl rfl ?_
 refine za rfl rfl ?_
 refine zd zh7 ?_
 refine za rfl rfl ?_
 refine za rfl rfl ?_
 have h:=zjq ⟨0,0,[],[]⟩ ⟨0,0,[],[]⟩ (by decide) (by decide) (by decide) (by decide) (λx h=>by cases h) (λx h=>by cases h)
 have e:decide ((⟨0,0,[],[]⟩:Lean_)=⟨0,0,[],[]⟩)=true:=decide_eq_true rfl
 rw[e]at h
 have c:Cv (.ag [I 0,I 0,ns,ns]) (.ag (Lean_.c ⟨0,0,[],[]⟩)):=Cv.ag (zh (cr) (zh (cr) (zh (Cv.nil 11) (zh (Cv.nil 2) Cvs.nil))))
 refine Vcall.mk' h (zh c (zh c Cvs.nil)) ?_
 exact cr
theorem ziy:zah Tryz.prog 13 [np] (.r (.ag zgv)):=by
 refine zad (T:=Tab) mixed zaj Tryz.func13 rfl (by kernel_rfl) ?_
 refine Vfun.nn _ rfl rfl rfl Tryz.underlying30 (zk ?_)
 refine za rfl rfl ?_
 exact cr
set_option maxHeartbeats 1000000 in
theorem zh2(b:List UInt8)(p:PropP)(pick:Int):zah Tryz.prog 3 [bs b, .ag p.c,I pick] (.r (.b true)):=by
 refine zad (T:=Tab) mixed zaj Tryz.func3 rfl (by kernel_rfl) ?_
 refine zd zk2 ?_
 refine zn rfl (zl ?_)
 refine za rfl rfl ?_
 refine zd (zg1 _) ?_
 refine zd (zix _) ?_
 refine zd (zh3 _ _) ?_
 refine zd (zh4 _ _ _) ?_
 refine zc (m:=2) rfl (by decide) ?_
 refine zm rfl ?_
 refine zc (m:=2) rfl (by decide) ?_
 refine zm rfl ?_
 refine zc (m:=2) rfl (by decide) ?_
 refine zm rfl ?_
 refine zc (m:=2) rfl (by decide) ?_
 refine zm rfl ?_
 refine zd (zg0 _ _ _ _ _) ?_
 refine zc (m:=2) rfl (by decide) ?_
 refine zm rfl ?_
 refine zc (m:=0) rfl (by decide) ?_
 refine zc (m:=0) rfl (by decide) ?_
 refine zc (m:=0) rfl (by decide) ?_
 refine zm rfl ?_
 refine zd ziv ?_
 refine zm rfl ?_
 refine zd (ziw _) ?_
 refine zm rfl ?_
 refine zd ziy ?_
 refine zd zh8 ?_
 exact cr
end
end Go.Proofs.YtamhdpombmegaaaGreat.Sx
