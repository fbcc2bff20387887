import Derived.Test.YtpdllgbfemnemaaGreatProg
import Derived.Test.YtpdllgbfemnemaaGreatZApp
import Derived.Test.YtpdllgbfemnemaaGreatZOnes
import Derived.Deep.QuietTactic
import Derived.BigQuiet
import Derived.Deep.LoopGhost
namespace Go.Proofs.YtpdllgbfemnemaaGreat
set_option linter.unusedVariables false
open Go.RowKit
theorem zlt{a b:Nat}{x y:Int}(hx:x=(a:Int))(hy:y=(b:Int))(ha:a<18446744073709551616)(hb:b<18446744073709551616):bits .and .u64 x y=((a&&&b:Nat):Int):=by
 rw[hx,hy];exact u64_and_nat a b ha hb
theorem zhx{a:Nat}{x:Int}(hx:x=(a:Int))(ha:a<18446744073709551616):IntKind.u64.wrap x=(a:Int):=by
 rw[hx];simp[IntKind.wrap,IntKind.bits,IntKind.signed];omega
theorem zhw(a:Nat)(ha:a<9223372036854775808):(BitVec.ofInt 64 (a:Int)).toNat=a:=by
 rw[BitVec.ofInt_natCast,BitVec.toNat_ofNat];exact Nat.mod_eq_of_lt (by omega)
theorem zm2(a b:Nat)(ha:a<9223372036854775808)(hb:b<9223372036854775808):bits .and .i64 (a:Int) (b:Int)=((a&&&b:Nat):Int):=by
 have hx:a&&&b<2^63:=Nat.and_lt_two_pow _ (by omega)
 show IntKind.i64.wrap ((BitVec.ofInt 64 (a:Int)&&&BitVec.ofInt 64 (b:Int)).toNat:Int)=_
 rw[BitVec.toNat_and,zhw a ha,zhw b hb,IntKind.wrap_i64]
 omega
theorem zwm(a:Nat){j:Nat}(ha:a<9223372036854775808)(hj:j<63):bits .andNot .i64 (a:Int) ((2^j:Nat):Int)=((a-a/2^j%2*2^j:Nat):Int):=by
 have hb:2^j<2^63:=Nat.pow_lt_pow_right (by omega) hj
 show IntKind.i64.wrap ((BitVec.ofInt 64 (a:Int)&&& ~~~ BitVec.ofInt 64 ((2^j:Nat):Int)).toNat:Int)=_
 rw[BitVec.toNat_and,BitVec.toNat_not,zhw a ha,zhw _ (by omega),IntKind.wrap_i64]
 rw[show 2^64-1-2^j=2^64-(2^j+1)by omega,z8y (by omega) (by omega)]
 omega
theorem z5u(a b:Nat)(ha:a<9223372036854775808)(hb:b<9223372036854775808):bits .or .i64 (a:Int) (b:Int)=((a|||b:Nat):Int):=by
 have hx:a|||b<2^63:=Nat.or_lt_two_pow (by omega) (by omega)
 show IntKind.i64.wrap ((BitVec.ofInt 64 (a:Int)|||BitVec.ofInt 64 (b:Int)).toNat:Int)=_
 rw[BitVec.toNat_or,zhw a ha,zhw b hb,IntKind.wrap_i64]
 omega
set_option maxHeartbeats 1000000 in
theorem z6m(n:Nat)(w:World)(hn:n<=65536):
  Calls Tryz.prog 135 #[.int .u64 (n:Int)] w λe w'=>e= .returned (.int .i64 (ztw n))/\w=w':=by
 go_enter Tryz.func135,Tryz.ntmps135
 go_wp2_with fail
 go_ret
 refine⟨zch ?_,rfl⟩
 have hand: ∀x y:Nat,x&&&y<=x:=λx y=>Nat.and_le_left
 obtain⟨a0,ha0⟩: ∃a,a=(n/2&&&6148914691236517205):=⟨_,rfl⟩
 obtain⟨a1,ha1⟩: ∃a,a=(n&&&6148914691236517205):=⟨_,rfl⟩
 have l0:a0<=65536:=by have:=hand (n/2) 6148914691236517205;omega
 have l1:a1<=65536:=by have:=hand n 6148914691236517205;omega
 obtain⟨b0,hb0⟩: ∃a,a=((a0+a1)/4&&&3689348814741910323):=⟨_,rfl⟩
 obtain⟨b1,hb1⟩: ∃a,a=(a0+a1&&&3689348814741910323):=⟨_,rfl⟩
 have m0:b0<=131072:=by have:=hand ((a0+a1)/4) 3689348814741910323;omega
 have m1:b1<=131072:=by have:=hand (a0+a1) 3689348814741910323;omega
 obtain⟨c0,hc0⟩: ∃a,a=((b0+b1)/16+(b0+b1)&&&1085102592571150095):=⟨_,rfl⟩
 have p0:c0<=1048576:=by have:=hand ((b0+b1)/16+(b0+b1)) 1085102592571150095;omega
 have E1:bits BinOp.and IntKind.u64 ((n:Int)/2) 6148914691236517205=(a0:Int):=by rw[ha0];exact zlt (by omega) rfl (by omega) (by omega)
 have E2:bits BinOp.and IntKind.u64 (n:Int) 6148914691236517205=(a1:Int):=by rw[ha1];exact zlt rfl rfl (by omega) (by omega)
 have E3:IntKind.u64.wrap ((a0:Int)+a1)=((a0+a1:Nat):Int):=zhx (by omega) (by omega)
 have E4:bits BinOp.and IntKind.u64 (((a0+a1:Nat):Int)/4) 3689348814741910323=(b0:Int):=by rw[hb0];exact zlt (by omega) rfl (by omega) (by omega)
 have E5:bits BinOp.and IntKind.u64 ((a0+a1:Nat):Int) 3689348814741910323=(b1:Int):=by rw[hb1];exact zlt rfl rfl (by omega) (by omega)
 have E6:IntKind.u64.wrap ((b0:Int)+b1)=((b0+b1:Nat):Int):=zhx (by omega) (by omega)
 have E7:IntKind.u64.wrap (((b0+b1:Nat):Int)/16+((b0+b1:Nat):Int))=(((b0+b1)/16+(b0+b1):Nat):Int):=zhx (by omega) (by omega)
 have E8:bits BinOp.and IntKind.u64 (((b0+b1)/16+(b0+b1):Nat):Int) 1085102592571150095=(c0:Int):=by rw[hc0];exact zlt rfl rfl (by omega) (by omega)
 have E9:IntKind.u64.wrap ((c0:Int)+(c0:Int)/256)=((c0+c0/256:Nat):Int):=zhx (by omega) (by omega)
 obtain⟨d,hd⟩: ∃d,d=c0+c0/256:=⟨_,rfl⟩
 have E10:IntKind.u64.wrap ((d:Int)+(d:Int)/65536)=((d+d/65536:Nat):Int):=zhx (by omega) (by omega)
 obtain⟨e,he⟩: ∃e,e=d+d/65536:=⟨_,rfl⟩
 have E11:IntKind.u64.wrap ((e:Int)+(e:Int)/4294967296)=((e+e/4294967296:Nat):Int):=zhx (by omega) (by omega)
 simp only[E1,E2,E3,E4,E5,E6,E7,E8,E9,<-hd,E10,<-he,E11]
 rw[IntWalk.wrap64_in _ ⟨by omega,by omega⟩]
 rw[show(127:Int)=((127:Nat):Int)from rfl,zm2 _ _ (by omega) (by omega)]
 subst he hd hc0 hb0 hb1 ha0 ha1
 rfl
theorem zcfb(n:Nat)(w:World)(hn:n<=65536):
  Calls Tryz.prog 93 #[.int .u64 (n:Int)] w λe w'=>e= .returned (.int .i64 (ztw n))/\w=w':=by
 go_enter Tryz.func93,Tryz.ntmps93
 go_wp2_with fail
 refine(z6m n _ hn).mono ?_
 rintro e w' ⟨rfl,rfl⟩
 go_wp2_with fail
 go_ret
 exact⟨rfl,rfl⟩
theorem z1w{n:Int}(h: ¬(1<=n/\n<=65536)):za0 n=false:=by
 rcases hf:za0 n with _ |_
 ·rfl
 ·exact absurd (zc4 hf) h
theorem zi6(n:Int)(w:World):
  Calls Tryz.prog 54 #[.int .i64 n] w λe w'=>e= .returned (.bool (za0 n))/\w=w':=by
 by_cases h1:1<=n
 ·by_cases h2:n<=65536
  ·obtain⟨m,rfl⟩:=Int.eq_ofNat_of_zero_le (show 0<=n by omega)
   have hf:za0 (m:Int)=((ztw m:Int)==1):=by
    have h:=zb9b (n:=m) (by omega) (by omega)
    rw[Bool.eq_iff_iff,<-h]
    simp;omega
   have HF:=Lib.hid hf
   clear hf
   go_enter Tryz.func54,Tryz.ntmps54
   go_wp2_with fail
   refine(zcfb m _ (by omega)).mono ?_
   rintro e w' ⟨rfl,rfl⟩
   go_wp2_with fail
   go_ret
   exact⟨zdm HF.out.symm,rfl⟩
  ·have HF:=Lib.hid (z1w (n:=n) (by omega))
   go_enter Tryz.func54,Tryz.ntmps54
   go_wp2_with fail
   go_ret
   exact⟨zdm HF.out.symm,rfl⟩
 ·have HF:=Lib.hid (z1w (n:=n) (by omega))
  go_enter Tryz.func54,Tryz.ntmps54
  go_wp2_with fail
  go_ret
  exact⟨zdm HF.out.symm,rfl⟩
theorem zhp(x:Int)(w:World):
  Calls Tryz.prog 142 #[.int .i64 x] w λe w'=>e= .returned (.bool (za1 x))/\w=w':=by
 by_cases h:0<=x
 ·go_enter Tryz.func142,Tryz.ntmps142
  go_wp2_with fail
  go_ret
  exact⟨zdm (by simp[za1,h]),rfl⟩
 ·go_enter Tryz.func142,Tryz.ntmps142
  go_wp2_with fail
  go_ret
  exact⟨zdm (by simp[za1];omega),rfl⟩
theorem z1k(x n:Int)(w:World):
  Calls Tryz.prog 136 #[.int .i64 x, .int .i64 n] w λe w'=>e= .returned (.bool (ofI x n))/\w=w':=by
 rcases hf:za0 n with _ |_
 ·have HF:=Lib.hid hf
  clear hf
  go_enter Tryz.func136,Tryz.ntmps136
  go_wp2_with fail
  refine(zi6 n _).mono ?_
  rintro e w' ⟨rfl,rfl⟩
  rw[HF.out]
  go_wp2_with fail
  go_ret
  exact⟨zdm (by simp[ofI,HF.out]),rfl⟩
 ·obtain⟨b1,b2⟩:=zc4 hf
  have HF:=Lib.hid hf
  clear hf
  by_cases h:0<=x
  ·go_enter Tryz.func136,Tryz.ntmps136
   go_wp2_with fail
   refine(zi6 n _).mono ?_
   rintro e w' ⟨rfl,rfl⟩
   rw[HF.out]
   go_wp2_with fail
   go_ret
   exact⟨zdm (by simp[ofI,HF.out,h]),rfl⟩
  ·go_enter Tryz.func136,Tryz.ntmps136
   go_wp2_with fail
   refine(zi6 n _).mono ?_
   rintro e w' ⟨rfl,rfl⟩
   rw[HF.out]
   go_wp2_with fail
   go_ret
   exact⟨zdm (by simp[ofI,HF.out];omega),rfl⟩
theorem z3f{m:Nat}(hm:m<=131070){k:Nat}(hk:k<lv m):(bits BinOp.and IntKind.i64 ((m:Int)/2^k) 1==1)=true:=by
 obtain⟨h1,h2,_⟩:=zg6 hm
 generalize lv m=l at*
 have e:((m:Int)/2^k)=((m/2^k:Nat):Int):=by simp
 have hlt:m/2^k<9223372036854775808:=Nat.lt_of_le_of_lt (Nat.div_le_self _ _) (by omega)
 rw[e,show(1:Int)=((1:Nat):Int)from rfl,zm2 _ _ hlt (by omega),nat_mask1]
 have h3:m%2^l/2^k%2=m/2^k%2:=by
  obtain⟨j,rfl⟩: ∃j,l=k+(j+1):=⟨l-k-1,by omega⟩
  rw[Nat.pow_add,Nat.mod_mul_right_div_self,Nat.pow_succ,Nat.mul_comm,Nat.mod_mul_right_mod]
 rw[h2]at h3
 have h4:(2^l-1)/2^k%2=1:=by
  obtain⟨j,rfl⟩: ∃j,l=k+(j+1):=⟨l-k-1,by omega⟩
  have hp:=zag k
  have hj:=zag j
  have e1:2^(k+(j+1))-1=2^k*(2*2^j-1)+(2^k-1):=by
   rw[Nat.pow_add,Nat.pow_succ,Nat.mul_comm (2^j) 2,Nat.mul_sub,Nat.mul_one]
   have:2^k*1<=2^k*(2*2^j):=Nat.mul_le_mul_left _ (by omega)
   omega
  rw[e1,Nat.mul_add_div hp,Nat.div_eq_of_lt (by omega)]
  omega
 rw[h4]at h3
 rw[<-h3];rfl
theorem zuz{m:Nat}(hm:m<=131070):(bits BinOp.and IntKind.i64 ((m:Int)/2^lv m) 1==1)=false:=by
 obtain⟨h1,_,h2⟩:=zg6 hm
 generalize lv m=l at*
 have e:((m:Int)/2^l)=((m/2^l:Nat):Int):=by simp
 have hlt:m/2^l<9223372036854775808:=Nat.lt_of_le_of_lt (Nat.div_le_self _ _) (by omega)
 rw[e,show(1:Int)=((1:Nat):Int)from rfl,zm2 _ _ hlt (by omega),nat_mask1,h2]
 rfl
def zf4b(m:Nat)(w:World)(a':Act)(w':World):Prop:=
 w=w'/\∃(k:Nat) (u4 u5 u6 u7 u8 u9 u10 u11 u12 u13:Value),a'={tmps:= #[.int .i64 m,undef, .int .i64 0, .int .i64 k,u4,u5,u6,u7,u8,u9,u10,u11,u12,u13,undef],defers:=[]}/\k<=lv m
def z7k(m:Nat)(a':Act)(_:World):Nat:=lv m-(intOf (a'.tmps.getD 3 undef)).toNat
theorem zj9(x:Int)(w:World):
  Calls Tryz.prog 137 #[.int .i64 x] w λe w'=>e= .returned (.int .i64 (lvI x))/\w=w':=by
 rcases hf:za1 x with _ |_
 ·have HF:=Lib.hid hf
  have HL:=Lib.hid (z0v hf)
  clear hf
  go_enter Tryz.func137,Tryz.ntmps137
  go_wp2_with fail
  go_step3
  go_wp2_with fail
  refine(zhp x _).mono ?_
  rintro e w' ⟨rfl,rfl⟩
  rw[HF.out]
  go_wp2_with fail
  try rw[Exit.noGoto_ret]
  go_ret
  exact⟨zch HL.out.symm,rfl⟩
 ·have HF:=Lib.hid hf
  have HL:=Lib.hid (zow hf)
  rw[zdl]at hf
  obtain⟨m,rfl⟩:=Int.eq_ofNat_of_zero_le hf.1
  rw[Int.toNat_natCast]at HL
  have hm:m<=131070:=by omega
  obtain⟨hl,_⟩:=zg6 hm
  go_enter Tryz.func137,Tryz.ntmps137
  go_wp2_with fail
  refine wp_scope_jumps 0 (zf4b m w) (z7k m) rfl ?_ ?_
  rotate_left
  ·rintro a' w' ⟨rfl,k,u4,u5,u6,u7,u8,u9,u10,u11,u12,u13,rfl,hk⟩
   by_cases hlt:k<lv m
   ·have ht:=z3f hm hlt
    go_wp2_with fail
    go_step3
    exact⟨rfl,⟨rfl,k+1,_,_,_,_,_,_,_,_,_,_,rfl,by omega⟩,by simp[z7k,intOf];omega⟩
   ·obtain rfl:k=lv m:=by omega
    have ht:=zuz hm
    go_wp2_with fail
    try simp only[Exit.jump]
    go_ret
    exact⟨zch HL.out.symm,rfl⟩
  ·go_wp2_with fail
   refine(zhp m _).mono ?_
   rintro e w' ⟨rfl,rfl⟩
   rw[HF.out]
   go_wp2_with fail
   go_step3
   by_cases hlt:0<lv m
   ·have ht:=z3f hm hlt
    simp at ht
    go_wp2_with fail
    go_step3
    exact⟨rfl,⟨rfl,1,_,_,_,_,_,_,_,_,_,_,rfl,by omega⟩⟩
   ·have hz:lv m=0:=by omega
    have ht:=zuz hm
    rw[hz]at HL ht
    clear hz
    simp at ht
    go_wp2_with fail
    try simp only[Exit.jump]
    go_ret
    exact⟨zch HL.out.symm,rfl⟩
theorem z3n{k:Nat}(h:k<=16):1<=(2:Int)^k/\(2:Int)^k<=65536:=by
 have h1:(2:Nat)^k<=2^16:=Nat.pow_le_pow_right (by omega) h
 have h2:=zag k
 have e:(2:Int)^k=((2^k:Nat):Int):=by simp
 omega
theorem zjf(x:Int)(w:World):
  Calls Tryz.prog 131 #[.int .i64 x] w λe w'=>e= .returned (.int .i64 (zdo x))/\w=w':=by
 obtain⟨h1,h2⟩:=zt5 x
 by_cases h:0<lvI x
 ·have HH:Hid (zdo x=2^(lvI x-1).toNat):=Lib.hid (by simp[zdo,h])
  have hb:=z3n (k:=(lvI x).toNat-1) (by omega)
  go_enter Tryz.func131,Tryz.ntmps131
  go_wp2_with fail
  refine(zj9 x _).mono ?_
  rintro e w' ⟨rfl,rfl⟩
  go_wp2_with fail
  go_ret
  exact⟨zch (by rw[HH.out,show(lvI x-1).toNat=(lvI x).toNat-1 by omega]),rfl⟩
 ·have HH:Hid (zdo x=0):=Lib.hid (by simp[zdo,h])
  go_enter Tryz.func131,Tryz.ntmps131
  go_wp2_with fail
  refine(zj9 x _).mono ?_
  rintro e w' ⟨rfl,rfl⟩
  go_wp2_with fail
  go_ret
  exact⟨zch HH.out.symm,rfl⟩
theorem zzg(x:Int):0<=zdo x/\zdo x<=32768:=by
 obtain⟨h1,h2⟩:=zt5 x
 unfold zdo
 split
 ·have h3:(2:Nat)^(lvI x-1).toNat<=2^15:=Nat.pow_le_pow_right (by omega) (by omega)
  have e:(2:Int)^(lvI x-1).toNat=((2^(lvI x-1).toNat:Nat):Int):=by simp
  rw[e]
  generalize (2:Nat)^(lvI x-1).toNat=q at*
  omega
 ·omega
theorem zon{x:Int}(h:za1 x=false):zdo x=0:=by simp[zdo,z0v h]
theorem z1t(x:Int)(w:World):
  Calls Tryz.prog 90 #[.int .i64 x] w λe w'=>e= .returned (.int .i64 (zbj x))/\w=w':=by
 obtain⟨h1,h2⟩:=zzg x
 rcases hn:za1 x with _ |_
 ·have HH:=Lib.hid (zon hn)
  go_enter Tryz.func90,Tryz.ntmps90
  go_wp2_with fail
  refine(zjf x _).mono ?_
  rintro e w' ⟨rfl,rfl⟩
  rw[HH.out]
  go_wp2_with fail
  go_ret
  exact⟨zch (by simp[zbj,HH.out]),rfl⟩
 ·rw[zdl]at hn
  by_cases hz:zdo x=0
  ·have HH:=Lib.hid hz
   clear hz
   go_enter Tryz.func90,Tryz.ntmps90
   go_wp2_with fail
   refine(zjf x _).mono ?_
   rintro e w' ⟨rfl,rfl⟩
   rw[HH.out]
   go_wp2_with fail
   go_ret
   exact⟨zch (by simp[zbj,HH.out]),rfl⟩
  ·have hz':(zdo x==0)=false:=by simpa using hz
   have HL:Hid (zbj x=x-zdo x):=Lib.hid (by simp[zbj,hz])
   go_enter Tryz.func90,Tryz.ntmps90
   go_wp2_with fail
   refine(zjf x _).mono ?_
   rintro e w' ⟨rfl,rfl⟩
   go_wp2_with fail
   go_ret
   exact⟨zch HL.out.symm,rfl⟩
theorem zyb(x:Int)(w:World):
  Calls Tryz.prog 91 #[.int .i64 x] w λe w'=>e= .returned (.int .i64 (zbi x))/\w=w':=by
 obtain⟨h1,h2⟩:=zzg x
 rcases hn:za1 x with _ |_
 ·have HH:=Lib.hid (zon hn)
  go_enter Tryz.func91,Tryz.ntmps91
  go_wp2_with fail
  refine(zjf x _).mono ?_
  rintro e w' ⟨rfl,rfl⟩
  rw[HH.out]
  go_wp2_with fail
  go_ret
  exact⟨zch (by simp[zbi,HH.out]),rfl⟩
 ·rw[zdl]at hn
  by_cases hz:zdo x=0
  ·have HH:=Lib.hid hz
   clear hz
   go_enter Tryz.func91,Tryz.ntmps91
   go_wp2_with fail
   refine(zjf x _).mono ?_
   rintro e w' ⟨rfl,rfl⟩
   rw[HH.out]
   go_wp2_with fail
   go_ret
   exact⟨zch (by simp[zbi,HH.out]),rfl⟩
  ·have hz':(zdo x==0)=false:=by simpa using hz
   have HL:Hid (zbi x=x+zdo x):=Lib.hid (by simp[zbi,hz])
   go_enter Tryz.func91,Tryz.ntmps91
   go_wp2_with fail
   refine(zjf x _).mono ?_
   rintro e w' ⟨rfl,rfl⟩
   go_wp2_with fail
   go_ret
   exact⟨zch HL.out.symm,rfl⟩
theorem zajb(n:Int)(w:World):
  Calls Tryz.prog 53 #[.int .i64 n] w λe w'=>e= .returned (.int .i64 (zgu n))/\w=w':=by
 rcases hf:za0 n with _ |_
 ·have HF:=Lib.hid hf
  clear hf
  go_enter Tryz.func53,Tryz.ntmps53
  go_wp2_with fail
  refine(zi6 n _).mono ?_
  rintro e w' ⟨rfl,rfl⟩
  rw[HF.out]
  go_wp2_with fail
  go_ret
  exact⟨zch (by simp[zgu,HF.out]),rfl⟩
 ·obtain⟨b1,b2⟩:=zc4 hf
  have HF:=Lib.hid hf
  clear hf
  go_enter Tryz.func53,Tryz.ntmps53
  go_wp2_with fail
  refine(zi6 n _).mono ?_
  rintro e w' ⟨rfl,rfl⟩
  rw[HF.out]
  go_wp2_with fail
  go_ret
  exact⟨zch (by simp[zgu,HF.out]),rfl⟩
theorem z78(x y:Int)(w:World):
  Calls Tryz.prog 98 #[.int .i64 x, .int .i64 y] w λe w'=>e= .returned (.bool (zal x y))/\w=w':=by
 rcases hx:za1 x with _ |_
 ·have HX:=Lib.hid hx
  clear hx
  go_enter Tryz.func98,Tryz.ntmps98
  go_wp2_with fail
  refine(zhp x _).mono ?_
  rintro e w' ⟨rfl,rfl⟩
  rw[HX.out]
  go_wp2_with fail
  go_ret
  exact⟨zdm (by simp[zal,HX.out]),rfl⟩
 ·rcases hy:za1 y with _ |_
  ·have HX:=Lib.hid hx
   have HY:=Lib.hid hy
   clear hx hy
   go_enter Tryz.func98,Tryz.ntmps98
   go_wp2_with fail
   refine(zhp x _).mono ?_
   rintro e w' ⟨rfl,rfl⟩
   rw[HX.out]
   go_wp2_with fail
   refine(zhp y _).mono ?_
   rintro e w' ⟨rfl,rfl⟩
   rw[HY.out]
   go_wp2_with fail
   go_ret
   exact⟨zdm (by simp[zal,HX.out,HY.out]),rfl⟩
  ·have HX:=Lib.hid hx
   have HY:=Lib.hid hy
   rw[zdl]at hx hy
   have hL:0<=lvI y:=by rw[zow HY.out];omega
   obtain⟨_,hL2⟩:=zt5 y
   obtain⟨hp1,hp2⟩:=z3n (k:=(lvI y).toNat) (by omega)
   go_enter Tryz.func98,Tryz.ntmps98
   go_wp2_with fail
   refine(zhp x _).mono ?_
   rintro e w' ⟨rfl,rfl⟩
   rw[HX.out]
   go_wp2_with fail
   refine(zhp y _).mono ?_
   rintro e w' ⟨rfl,rfl⟩
   rw[HY.out]
   go_wp2_with fail
   refine(zj9 y _).mono ?_
   rintro e w' ⟨rfl,rfl⟩
   go_wp2_with fail
   ·go_ret
    have h3:y-(2^(lvI y).toNat-1)<=x:=by assumption
    exact⟨zdm (by rw[Bool.eq_iff_iff,zky,ztj];simp[HX.out,HY.out,h3]),rfl⟩
   ·go_ret
    have h3:x<y-(2^(lvI y).toNat-1):=by assumption
    exact⟨zdm (by rw[Bool.eq_iff_iff,zky,ztj];constructor<;>intro h<;>first |cases h;done |omega),rfl⟩
theorem zva{x n:Int}(h:ofI x n=true):0<=x/\x<=131070/\1<=n/\n<=65536/\x<=2*n-2:=by
 rw[zey]at h
 have:=zc4 h.1
 omega
theorem zxy{x n:Int}(h:ofI x n=false\/x=n-1):parI x n= -1:=by
 rcases h with h |h<;>simp[parI,h]
theorem zdwb{m d:Nat}(hd:d<=16)(hm:m<=2*2^d-2)(hne:m≠2^d-1):lv m<d:=by
 have h16:2^d<=2^16:=Nat.pow_le_pow_right (by omega) hd
 obtain⟨_,h1,h2⟩:=zg6 (x:=m) (by omega)
 have hp:=zag d
 rcases Nat.lt_or_ge (lv m) d with h |h
 ·exact h
 ·exfalso
  have h3:2^d<=2^lv m:=Nat.pow_le_pow_right (by omega) h
  have h4:=Nat.div_add_mod m (2^lv m)
  rw[h1]at h4
  rcases Nat.eq_zero_or_pos (m/2^lv m)with h5 |h5
  ·rw[h5]at h4
   have:2^lv m<2^(d+1):=by rw[Nat.pow_succ];omega
   have:lv m<d+1:=(Nat.pow_lt_pow_iff_right (by omega)).1 this
   have:lv m=d:=by omega
   rw[this]at h4
   omega
  ·have:2^lv m*1<=2^lv m*(m/2^lv m):=Nat.mul_le_mul_left _ h5
   omega
theorem zbnb{m l:Nat}(hm:m<=131070)(hl:l=lv m)(h16:l<16):bits BinOp.andNot IntKind.i64 (bits BinOp.or IntKind.i64 (m:Int) (wrap64 (2^l))) (wrap64 (2^(l+1)))=(upN m:Int):=by
 obtain⟨_,h1,h2⟩:=zg6 hm
 rw[<-hl]at h1 h2
 have hp:=zag l
 have hb:2^(l+1)<=2^16:=Nat.pow_le_pow_right (by omega) (by omega)
 have e2:2^(l+1)=2*2^l:=by rw[Nat.pow_succ];omega
 have w1:wrap64 ((2:Int)^l)=((2^l:Nat):Int):=by
  rw[show((2:Int)^l)=((2^l:Nat):Int)by simp]
  exact IntWalk.wrap64_in _ ⟨by omega,by omega⟩
 have w2:wrap64 ((2:Int)^(l+1))=((2^(l+1):Nat):Int):=by
  rw[show((2:Int)^(l+1))=((2^(l+1):Nat):Int)by simp]
  exact IntWalk.wrap64_in _ ⟨by omega,by omega⟩
 rw[w1,w2,z5u _ _ (by omega) (by omega)]
 have hm0:m/2^l%2=0:=h2
 rw[z9u hm0,zwm _ (by omega) (by omega)]
 have hd:(m+2^l)/2^(l+1)=m/2^(l+1):=by
  have e4:=Nat.div_add_mod m (2^(l+1))
  have e5:m%2^(l+1)=2^l-1:=by
   rw[Nat.pow_succ,Nat.mod_mul,h1,h2];omega
  rw[e5]at e4
  have e6:m+2^l=(2^(l+1)-1)+m/2^(l+1)*2^(l+1):=by rw[Nat.mul_comm (m/2^(l+1))];omega
  rw[e6,Nat.add_mul_div_right _ _ (zag _),Nat.div_eq_of_lt (by omega)]
  omega
 rw[hd]
 unfold upN
 rw[<-hl]
 have hge:m/2^(l+1)%2=1->2^(l+1)<=m:=λh=>by
  rcases Nat.lt_or_ge m (2^(l+1))with h3 |h3
  ·rw[Nat.div_eq_of_lt h3]at h;omega
  ·exact h3
 rcases Nat.mod_two_eq_zero_or_one (m/2^(l+1))with h |h
 ·rw[h];simp
 ·have:=hge h
  rw[h,if_neg (by omega)]
  congr 1
  omega
theorem zib(x n:Int)(w:World):
  Calls Tryz.prog 94 #[.int .i64 x, .int .i64 n] w λe w'=>e= .returned (.int .i64 (parI x n))/\Ext w w':=by
 rcases ho:ofI x n with _ |_
 ·have HP:=Lib.hid (zxy (.inl ho))
  have HO:=Lib.hid ho
  clear ho
  go_enter Tryz.func94,Tryz.ntmps94
  go_wp2_with fail
  refine(z1k x n _).mono ?_
  rintro e w' ⟨rfl,rfl⟩
  rw[HO.out]
  go_wp2_with fail
  go_ret
  exact⟨zch HP.out.symm,Ext.refl _⟩
 ·obtain⟨b1,b2,b3,b4,b5⟩:=zva ho
  have HO:=Lib.hid ho
  by_cases hr:x=n-1
  ·have HP:=Lib.hid (zxy (.inr hr))
   have hr':(x==n-1)=true:=by simpa using hr
   clear ho hr
   go_enter Tryz.func94,Tryz.ntmps94
   go_wp2_with fail
   refine(z1k x n _).mono ?_
   rintro e w' ⟨rfl,rfl⟩
   rw[HO.out]
   go_wp2_with fail
   go_ret
   exact⟨zch HP.out.symm,Ext.refl _⟩
  ·have hr':(x==n-1)=false:=by simpa using hr
   have HP:Hid (parI x n=(upN x.toNat:Int)):=Lib.hid (by simp[parI,ho,hr])
   obtain⟨m,rfl⟩:=Int.eq_ofNat_of_zero_le b1
   rw[Int.toNat_natCast]at HP
   have hlv:lv m<16:=by
    obtain⟨d,hd,hd'⟩:=zde (zey.1 ho).1
    have:=zdwb (m:=m) hd (by omega) (by omega)
    omega
   have HL:=Lib.hid (zow (x:=(m:Int)) (zdl.2 (by omega)))
   rw[Int.toNat_natCast]at HL
   obtain⟨l,hl⟩: ∃l,l=lv m:=⟨_,rfl⟩
   rw[<-hl]at HL hlv
   have HLL:=Lib.hid hl
   clear ho hr hl
   go_enter Tryz.func94,Tryz.ntmps94
   go_wp2_with fail
   refine(z1k m n _).mono ?_
   rintro e w' ⟨rfl,rfl⟩
   rw[HO.out]
   go_wp2_with fail
   refine(zj9 m _).mono ?_
   rintro e w' ⟨rfl,rfl⟩
   rw[HL.out]
   go_wp2_with fail
   go_quiet (fail)
   go_wp2_with fail
   go_ret
   exact⟨zch (by rw[HP.out];exact zbnb (by omega) HLL.out hlv),(Ext.refl _).drewN _⟩
theorem zsk(x n:Int)(w:World):
  Calls Tryz.prog 99 #[.int .i64 x, .int .i64 n] w λe w'=>e= .returned (.int .i64 (sibI x n))/\Ext w w':=by
 obtain⟨p,hp⟩: ∃p,p=parI x n:=⟨_,rfl⟩
 have HP:=Lib.hid hp
 by_cases h1:p<0
 ·have HS:Hid (sibI x n= -1):=Lib.hid (by simp[sibI,<-hp,h1])
  clear hp
  go_enter Tryz.func99,Tryz.ntmps99
  go_wp2_with fail
  refine(zib x n _).mono ?_
  rintro e w1 ⟨rfl,hb⟩
  rw[<-HP.out]
  go_wp2_with fail
  go_ret
  exact⟨zch HS.out.symm,hb⟩
 ·by_cases h2:x<p
  ·have HS:Hid (sibI x n=zbi p):=Lib.hid (by simp[sibI,<-hp,h1,h2])
   clear hp
   go_enter Tryz.func99,Tryz.ntmps99
   go_wp2_with fail
   refine(zib x n _).mono ?_
   rintro e w1 ⟨rfl,hb⟩
   rw[<-HP.out]
   go_wp2_with fail
   refine(zyb p _).mono ?_
   rintro e w2 ⟨rfl,rfl⟩
   go_wp2_with fail
   go_ret
   exact⟨zch HS.out.symm,hb⟩
  ·have HS:Hid (sibI x n=zbj p):=Lib.hid (by simp[sibI,<-hp,h1,h2])
   clear hp
   go_enter Tryz.func99,Tryz.ntmps99
   go_wp2_with fail
   refine(zib x n _).mono ?_
   rintro e w1 ⟨rfl,hb⟩
   rw[<-HP.out]
   go_wp2_with fail
   refine(z1t p _).mono ?_
   rintro e w2 ⟨rfl,rfl⟩
   go_wp2_with fail
   go_ret
   exact⟨zch HS.out.symm,hb⟩
def z3r(x0 n:Int)(w:World)(k:Nat)(x l:Value)(wr:World):Prop:=
 ∃(y:Int) (done:List Int) (g:Option Nat),x= .int .i64 y/\za4 x0 n=done++(if y<0 then[]else y::zeg n k y)/\(0<=y->17<=k+lvI y)/\done.length+k<=17/\OwI wr w.heap.size l done g/\Ext w wr
theorem z0r(x n:Int)(w:World):
  Calls Tryz.prog 55 #[.int .i64 x, .int .i64 n] w (Ret w λw' v=>∃g,OwI w' w.heap.size v (za4 x n) g):=by
 have HS:Hid (z3r x n w 16 (.int .i64 (parI x n)) (.slice none 0 0) w):=Lib.hid (by
  refine⟨_,[],none,rfl,?_,λh=>?_,by simp,Ow.nil _ _ _ _,Ext.refl _⟩
  ·rw[List.nil_append,za4,zeg]
  ·have:=(zl3 h).2.2;omega)
 go_enter Tryz.func55,Tryz.ntmps55
 go_wp2_with fail
 refine(zib x n _).mono ?_
 rintro e w1 ⟨rfl,hb⟩
 go_wp2_with fail
 go_loopg [0,5] 16 (λk x0 l wr=>z3r x n w k x0 l wr)
 case atStart=>
  obtain⟨y,done,g,e1,e2,e3,e4,e5,e6⟩:=HS.out
  exact⟨y,done,g,e1,e2,e3,e4,e5.ext hb,e6.trans hb⟩
 case round=>
  obtain⟨y,done,g,rfl,e2,e3,e4,e5,e6⟩:=hrel
  have E2:=Lib.hid e2
  obtain⟨a,c,rfl⟩:=e5.form
  clear e2
  by_cases hy:0<=y
  ·have hk:1<=gk:=by have:=e3 hy;have:=zt5 y;omega
   go_wp2_with (first |(at_builtin;refine zdn ?_))
   refine zdu (zha rfl (.tmp 14) (.tmp 16) rfl rfl (e5.alloc _) rfl rfl (zvm _ _ _) ?_ ?_ ?_)
   ·simp;omega
   ·have:=e6.le;simp;omega
   intro a' c' g' w' h1 h2 h3
   have h4:=(e5.alloc _).grown h2 (e6.alloc _) (Nat.le_refl _)
   go_wp2_with fail
   refine(zib y n _).mono ?_
   rintro e w2 ⟨rfl,hb2⟩
   go_wp2_with fail
   go_roundg (gk-1)
   case measure=>omega
   case rel=>
    refine⟨_,_,g',rfl,?_,λh=>?_,?_,h1.ext hb2,h4.trans hb2⟩
    ·rw[E2.out,if_neg (by omega),show gk=gk-1+1 by omega,List.append_assoc]
     rfl
    ·have:=(zl3 h).2.2;have:=e3 hy;omega
    ·simp;omega
  ·go_wp2_with fail
   go_ret
   exact⟨_,rfl,e6,g,by rw[E2.out,if_pos (by omega),List.append_nil];exact e5⟩
theorem zzm{n:Int}: ∀(f:Nat) (x:Int),∀y∈zeg n f x,ofI y n=true/\0<=y/\y<=131070
 |0,x,y,h=>by cases h
 |f+1,x,y,h=>by
  unfold zeg at h
  split at h
  ·cases h
  ·rename_i h0
   rcases List.mem_cons.1 h with h |h
   ·subst h
    have:=(zl3 (x:=x) (n:=n) (by omega)).2.1
    have hb:=zva this
    exact⟨this,hb.1,hb.2.1⟩
   ·exact zzm f _ y h
theorem z0z{x n:Int}{y:Int}(h:y∈za4 x n):ofI y n=true/\0<=y/\y<=131070:=zzm 17 x y h
theorem zw5{n:Int}: ∀(f:Nat) (x:Int),(zeg n f x).length<=f
 |0,x=>Nat.le_refl _
 |f+1,x=>by
  unfold zeg
  split
  ·exact Nat.zero_le _
  ·simp only[List.length_cons];have:=zw5 (n:=n) f (parI x n);omega
theorem zd2(x n:Int):(za4 x n).length<=17:=zw5 17 x
theorem zahb{x n:Int}: ∀y∈za4 x n,I64 y:=λy h=>by have:=z0z h;exact⟨by omega,by omega⟩
def zxg(x0 n:Int)(w:World)(k:Nat)(x l i:Value)(wr:World):Prop:=
 ∃(y:Int) (j:Nat) (done:List Int) (g:Option Nat),x= .int .i64 y/\i= .int .i64 (j:Int)/\j+k=17/\j<=(za4 x0 n).length/\(za4 x0 n).drop j=zeg n k y/\zau x0 n=done++zdi n k y/\done.length=j/\
  OwI wr w.heap.size l done g/\Ext w wr
theorem zrs{n y:Int}{k:Nat}{l:List Int}{j:Nat}(h:l.drop j=zeg n k y)(hj:j<l.length): ∃k',k=k'+1/\l[j]=parI y n/\0<=parI y n/\l.drop (j+1)=zeg n k' (parI y n)/\zdi n k y=sibI y n::zdi n k' (parI y n):=by
 rw[List.drop_eq_getElem_cons hj]at h
 cases k with
 |zero=>cases h
 |succ k=>
  unfold zeg at h
  split at h
  ·cases h
  ·rename_i h0
   injection h with h1 h2
   refine⟨k,rfl,h1,by omega,h2,?_⟩
   rw[zdi,if_neg h0]
theorem z65(x n:Int)(w:World):
  Calls Tryz.prog 57 #[.int .i64 x, .int .i64 n] w (Ret w λw' v=>∃g,OwI w' w.heap.size v (zau x n) g):=by
 have hlen:=zd2 x n
 go_enter Tryz.func57,Tryz.ntmps57
 go_wp2_with fail
 refine(z0r x n _).mono ?_
 rintro e w1 ⟨v,rfl,hb,g1,ho⟩
 obtain⟨p,rfl,hp⟩:=ho.is_ zahb
 clear ho
 have HS:Hid (zxg x n w1 17 (.int .i64 x) (.slice none 0 0) (.int .i64 (0:Nat)) w1):=Lib.hid ⟨x,0,[],none,rfl,rfl,rfl,Nat.zero_le _,rfl,rfl,rfl,Ow.nil _ _ _ _,Ext.refl _⟩
 obtain⟨N,hN⟩: ∃N,N=(za4 x n).length:=⟨_,rfl⟩
 have HN:=Lib.hid hN
 rw[<-hN]at hlen
 rw[<-hN]
 clear hN
 go_wp2_with fail
 go_loopg [0,5,12] 17 (λk x0 l i wr=>zxg x n w1 k x0 l i wr)
 case atStart=>exact HS.out
 case round=>
  obtain⟨y,j,done,g,rfl,rfl,e1,e2,e3,e4,e5,e6,e7⟩:=hrel
  have E3:=Lib.hid e3
  have E4:=Lib.hid e4
  have E5:=Lib.hid e5
  have E1:gk+j<=17/\17<=gk+j:=by omega
  obtain⟨a,c,rfl⟩:=e6.form
  rw[<-HN.out]at e2
  clear e1 e3 e4 e5
  by_cases hj:j<N
  ·have hj':j< (za4 x n).length:=by have:=HN.out;omega
   obtain⟨k',h1,h2,h3,h4,h5⟩:=zrs E3.out hj'
   obtain⟨b,o,hpa,hcell⟩:=(hp.ext e7).at_ hj'
   rw[h2]at hcell
   have H1:=Lib.hid h1
   have H4:=Lib.hid h4
   have H5:=Lib.hid h5
   have HA:=Lib.hid hpa
   rw[hpa]
   clear h1 h2 h4 h5 hpa
   go_wp2_with fail
   refine(zsk y n _).mono ?_
   rintro e w2 ⟨rfl,hb2⟩
   go_wp2_with (first |(at_builtin;refine zdn ?_))
   refine zdu (zha rfl (.tmp 16) (.tmp 20) rfl rfl ((e6.ext hb2).alloc _) rfl rfl (zvm _ _ _) ?_ ?_ ?_)
   ·simp;have:=E5.out;omega
   ·have:=(e7.trans hb2).le;simp;omega
   intro a' c' g' w' r1 r2 r3
   have r4:=((e6.ext hb2).alloc _).grown r2 ((e7.trans hb2).alloc _) (Nat.le_refl _)
   go_wp2_with fail
   rw[<-HA.out]
   have E5':=E5.out
   have H1':=H1.out
   go_roundg k'
   case measure=>omega
   case rel=>
    refine⟨_,j+1,_,g',rfl,rfl,by omega,?_,H4.out,?_,by simp;omega,r1,r4⟩
    ·have:=HN.out;omega
    ·rw[E4.out,H5.out,List.append_assoc];rfl
  ·go_wp2_with fail
   go_ret
   refine⟨_,rfl,hb.trans e7,g,OwI.base_mono ?_ hb.le⟩
   have h1:(za4 x n).drop j=[]:=List.drop_eq_nil_of_le (by have:=HN.out;omega)
   rw[E3.out]at h1
   have h2:zdi n gk y=[]:=by
    cases gk with
    |zero=>rfl
    |succ k=>
     unfold zeg at h1
     split at h1
     ·rename_i h3
      rw[zdi,if_pos h3]
     ·cases h1
   rw[E4.out,h2,List.append_nil]
   exact e6
end Go.Proofs.YtpdllgbfemnemaaGreat
