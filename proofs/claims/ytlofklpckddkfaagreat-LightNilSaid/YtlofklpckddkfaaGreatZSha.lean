import Derived.Test.YtlofklpckddkfaaGreatProg
import Derived.Test.YtlofklpckddkfaaGreatZOnes
import Derived.Deep.QuietTactic
import Derived.BigQuiet
import Derived.Deep.LoopGhost
namespace Go.Proofs.YtlofklpckddkfaaGreat
open Go.RowKit
set_option linter.unusedVariables false
section
theorem zgf{a b:Nat}{x y:Int}(hx:x=(a:Int))(hy:y=(b:Int))(ha:a<18446744073709551616)(hb:b<18446744073709551616):bits .and .u64 x y=((a&&&b:Nat):Int):=by
 rw[hx,hy];exact u64_and_nat a b ha hb
theorem zem{a:Nat}{x:Int}(hx:x=(a:Int))(ha:a<18446744073709551616):IntKind.u64.wrap x=(a:Int):=by
 rw[hx];simp[IntKind.wrap,IntKind.bits,IntKind.signed];omega
theorem zo4(a:Nat)(ha:a<9223372036854775808):(BitVec.ofInt 64 (a:Int)).toNat=a:=by
 rw[BitVec.ofInt_natCast,BitVec.toNat_ofNat];exact Nat.mod_eq_of_lt (by omega)
theorem zhd(a b:Nat)(ha:a<9223372036854775808)(hb:b<9223372036854775808):bits .and .i64 (a:Int) (b:Int)=((a&&&b:Nat):Int):=by
 have hx:a&&&b<2^63:=Nat.and_lt_two_pow _ (by omega)
 show IntKind.i64.wrap ((BitVec.ofInt 64 (a:Int)&&&BitVec.ofInt 64 (b:Int)).toNat:Int)=_
 rw[BitVec.toNat_and,zo4 a ha,zo4 b hb,IntKind.wrap_i64]
 omega
set_option maxHeartbeats 1000000 in
theorem zwh(n:Nat)(w:World)(hn:n<=65536):
  Calls Tryz.prog 391 #[.int .u64 (n:Int)] w λe w'=>e= .returned (.int .i64 (zm5 n))/\w=w':=by
 go_enter Tryz.func391,Tryz.ntmps391
 go_wp2_with fail
 go_ret
 refine⟨zbp ?_,rfl⟩
 have hand: ∀x y:Nat,x&&&y<=x:=λx y=>Nat.and_le_left
 obtain⟨a0,ha0⟩: ∃a,a=(n/2&&&6148914691236517205):=⟨_,rfl⟩
 obtain⟨a1,ha1⟩: ∃a,a=(n&&&6148914691236517205):=⟨_,rfl⟩
 have l0:a0<=65536:=by have:=hand (n/2) 6148914691236517205;omega
 have l1:a1<=65536:=by have:=hand n 6148914691236517205;omega
 obtain⟨b0,hb0⟩: ∃a,a=((a0+a1)/4&&&3689348814741910323):=⟨_,rfl⟩
 obtain⟨b1,hb1⟩: ∃a,a=(a0+a1&&&3689348814741910323):=⟨_,rfl⟩
 have m0:b0<=131072:=by have:=hand ((a0+a1)/4) 3689348814741910323;omega
 have m1:b1<=131072:=by have:=hand (a0+a1) 3689348814741910323;omega
 obtain⟨c0,hc0⟩: ∃a,a=((b0+b1)/16+(b0+b1)&&&1085102592571150095):=⟨_,rfl⟩
 have p0:c0<=1048576:=by have:=hand ((b0+b1)/16+(b0+b1)) 1085102592571150095;omega
 have E1:bits BinOp.and IntKind.u64 ((n:Int)/2) 6148914691236517205=(a0:Int):=by rw[ha0];exact zgf (by omega) rfl (by omega) (by omega)
 have E2:bits BinOp.and IntKind.u64 (n:Int) 6148914691236517205=(a1:Int):=by rw[ha1];exact zgf rfl rfl (by omega) (by omega)
 have E3:IntKind.u64.wrap ((a0:Int)+a1)=((a0+a1:Nat):Int):=zem (by omega) (by omega)
 have E4:bits BinOp.and IntKind.u64 (((a0+a1:Nat):Int)/4) 3689348814741910323=(b0:Int):=by rw[hb0];exact zgf (by omega) rfl (by omega) (by omega)
 have E5:bits BinOp.and IntKind.u64 ((a0+a1:Nat):Int) 3689348814741910323=(b1:Int):=by rw[hb1];exact zgf rfl rfl (by omega) (by omega)
 have E6:IntKind.u64.wrap ((b0:Int)+b1)=((b0+b1:Nat):Int):=zem (by omega) (by omega)
 have E7:IntKind.u64.wrap (((b0+b1:Nat):Int)/16+((b0+b1:Nat):Int))=(((b0+b1)/16+(b0+b1):Nat):Int):=zem (by omega) (by omega)
 have E8:bits BinOp.and IntKind.u64 (((b0+b1)/16+(b0+b1):Nat):Int) 1085102592571150095=(c0:Int):=by rw[hc0];exact zgf rfl rfl (by omega) (by omega)
 have E9:IntKind.u64.wrap ((c0:Int)+(c0:Int)/256)=((c0+c0/256:Nat):Int):=zem (by omega) (by omega)
 obtain⟨d,hd⟩: ∃d,d=c0+c0/256:=⟨_,rfl⟩
 have E10:IntKind.u64.wrap ((d:Int)+(d:Int)/65536)=((d+d/65536:Nat):Int):=zem (by omega) (by omega)
 obtain⟨e,he⟩: ∃e,e=d+d/65536:=⟨_,rfl⟩
 have E11:IntKind.u64.wrap ((e:Int)+(e:Int)/4294967296)=((e+e/4294967296:Nat):Int):=zem (by omega) (by omega)
 simp only[E1,E2,E3,E4,E5,E6,E7,E8,E9,<-hd,E10,<-he,E11]
 rw[IntWalk.wrap64_in _ ⟨by omega,by omega⟩]
 rw[show(127:Int)=((127:Nat):Int)from rfl,zhd _ _ (by omega) (by omega)]
 subst he hd hc0 hb0 hb1 ha0 ha1
 rfl
theorem z1j(n:Nat)(w:World)(hn:n<=65536):
  Calls Tryz.prog 281 #[.int .u64 (n:Int)] w λe w'=>e= .returned (.int .i64 (zm5 n))/\w=w':=by
 go_enter Tryz.func281,Tryz.ntmps281
 go_wp2_with fail
 refine(zwh n _ hn).mono ?_
 rintro e w' ⟨rfl,rfl⟩
 go_wp2_with fail
 go_ret
 exact⟨rfl,rfl⟩
theorem zqj{n:Int}(h: ¬(1<=n/\n<=65536)):zc5 n=false:=by
 rcases hf:zc5 n with _ |_
 ·rfl
 ·exact absurd (znw hf) h
theorem zlr(n:Int)(w:World):
  Calls Tryz.prog 173 #[.int .i64 n] w λe w'=>e= .returned (.bool (zc5 n))/\w=w':=by
 by_cases h1:1<=n
 ·by_cases h2:n<=65536
  ·obtain⟨m,rfl⟩:=Int.eq_ofNat_of_zero_le (show 0<=n by omega)
   have hf:zc5 (m:Int)=((zm5 m:Int)==1):=by
    have h:=z1k (n:=m) (by omega) (by omega)
    rw[Bool.eq_iff_iff,<-h]
    simp;omega
   have HF:=Lib.hid hf
   clear hf
   go_enter Tryz.func173,Tryz.ntmps173
   go_wp2_with fail
   refine(z1j m _ (by omega)).mono ?_
   rintro e w' ⟨rfl,rfl⟩
   go_wp2_with fail
   go_ret
   exact⟨zdf HF.out.symm,rfl⟩
  ·have HF:=Lib.hid (zqj (n:=n) (by omega))
   go_enter Tryz.func173,Tryz.ntmps173
   go_wp2_with fail
   go_ret
   exact⟨zdf HF.out.symm,rfl⟩
 ·have HF:=Lib.hid (zqj (n:=n) (by omega))
  go_enter Tryz.func173,Tryz.ntmps173
  go_wp2_with fail
  go_ret
  exact⟨zdf HF.out.symm,rfl⟩
theorem zee(x:Int)(w:World):
  Calls Tryz.prog 345 #[.int .i64 x] w λe w'=>e= .returned (.bool (zce x))/\w=w':=by
 by_cases h:0<=x
 ·go_enter Tryz.func345,Tryz.ntmps345
  go_wp2_with fail
  go_ret
  exact⟨zdf (by simp[zce,h]),rfl⟩
 ·go_enter Tryz.func345,Tryz.ntmps345
  go_wp2_with fail
  go_ret
  exact⟨zdf (by simp[zce];omega),rfl⟩
theorem zuj{m:Nat}(hm:m<=131070){k:Nat}(hk:k<lv m):(bits BinOp.and IntKind.i64 ((m:Int)/2^k) 1==1)=true:=by
 obtain⟨h1,h2,_⟩:=zgc hm
 generalize lv m=l at*
 have e:((m:Int)/2^k)=((m/2^k:Nat):Int):=by simp
 have hlt:m/2^k<9223372036854775808:=Nat.lt_of_le_of_lt (Nat.div_le_self _ _) (by omega)
 rw[e,show(1:Int)=((1:Nat):Int)from rfl,zhd _ _ hlt (by omega),nat_mask1]
 have h3:m%2^l/2^k%2=m/2^k%2:=by
  obtain⟨j,rfl⟩: ∃j,l=k+(j+1):=⟨l-k-1,by omega⟩
  rw[Nat.pow_add,Nat.mod_mul_right_div_self,Nat.pow_succ,Nat.mul_comm,Nat.mod_mul_right_mod]
 rw[h2]at h3
 have h4:(2^l-1)/2^k%2=1:=by
  obtain⟨j,rfl⟩: ∃j,l=k+(j+1):=⟨l-k-1,by omega⟩
  have hp:=za3 k
  have hj:=za3 j
  have e1:2^(k+(j+1))-1=2^k*(2*2^j-1)+(2^k-1):=by
   rw[Nat.pow_add,Nat.pow_succ,Nat.mul_comm (2^j) 2,Nat.mul_sub,Nat.mul_one]
   have:2^k*1<=2^k*(2*2^j):=Nat.mul_le_mul_left _ (by omega)
   omega
  rw[e1,Nat.mul_add_div hp,Nat.div_eq_of_lt (by omega)]
  omega
 rw[h4]at h3
 rw[<-h3];rfl
theorem zm3{m:Nat}(hm:m<=131070):(bits BinOp.and IntKind.i64 ((m:Int)/2^lv m) 1==1)=false:=by
 obtain⟨h1,_,h2⟩:=zgc hm
 generalize lv m=l at*
 have e:((m:Int)/2^l)=((m/2^l:Nat):Int):=by simp
 have hlt:m/2^l<9223372036854775808:=Nat.lt_of_le_of_lt (Nat.div_le_self _ _) (by omega)
 rw[e,show(1:Int)=((1:Nat):Int)from rfl,zhd _ _ hlt (by omega),nat_mask1,h2]
 rfl
def z6j(m:Nat)(w:World)(a':Act)(w':World):Prop:=
 w=w'/\∃(k:Nat) (u4 u5 u6 u7 u8 u9 u10 u11 u12 u13:Value),a'={tmps:= #[.int .i64 m,undef, .int .i64 0, .int .i64 k,u4,u5,u6,u7,u8,u9,u10,u11,u12,u13,undef],defers:=[]}/\k<=lv m
def zw2(m:Nat)(a':Act)(_:World):Nat:=lv m-(intOf (a'.tmps.getD 3 undef)).toNat
theorem zjo(x:Int)(w:World):
  Calls Tryz.prog 346 #[.int .i64 x] w λe w'=>e= .returned (.int .i64 (lvI x))/\w=w':=by
 rcases hf:zce x with _ |_
 ·have HF:=Lib.hid hf
  have HL:=Lib.hid (zrl hf)
  clear hf
  go_enter Tryz.func346,Tryz.ntmps346
  go_wp2_with fail
  go_step3
  go_wp2_with fail
  refine(zee x _).mono ?_
  rintro e w' ⟨rfl,rfl⟩
  rw[HF.out]
  go_wp2_with fail
  try rw[Exit.noGoto_ret]
  go_ret
  exact⟨zbp HL.out.symm,rfl⟩
 ·have HF:=Lib.hid hf
  have HL:=Lib.hid (zlw hf)
  rw[zej]at hf
  obtain⟨m,rfl⟩:=Int.eq_ofNat_of_zero_le hf.1
  rw[Int.toNat_natCast]at HL
  have hm:m<=131070:=by omega
  obtain⟨hl,_⟩:=zgc hm
  go_enter Tryz.func346,Tryz.ntmps346
  go_wp2_with fail
  refine wp_scope_jumps 0 (z6j m w) (zw2 m) rfl ?_ ?_
  rotate_left
  ·rintro a' w' ⟨rfl,k,u4,u5,u6,u7,u8,u9,u10,u11,u12,u13,rfl,hk⟩
   by_cases hlt:k<lv m
   ·have ht:=zuj hm hlt
    go_wp2_with fail
    go_step3
    exact⟨rfl,⟨rfl,k+1,_,_,_,_,_,_,_,_,_,_,rfl,by omega⟩,by simp[zw2,intOf];omega⟩
   ·obtain rfl:k=lv m:=by omega
    have ht:=zm3 hm
    go_wp2_with fail
    try simp only[Exit.jump]
    go_ret
    exact⟨zbp HL.out.symm,rfl⟩
  ·go_wp2_with fail
   refine(zee m _).mono ?_
   rintro e w' ⟨rfl,rfl⟩
   rw[HF.out]
   go_wp2_with fail
   go_step3
   by_cases hlt:0<lv m
   ·have ht:=zuj hm hlt
    simp at ht
    go_wp2_with fail
    go_step3
    exact⟨rfl,⟨rfl,1,_,_,_,_,_,_,_,_,_,_,rfl,by omega⟩⟩
   ·have hz:lv m=0:=by omega
    have ht:=zm3 hm
    rw[hz]at HL ht
    clear hz
    simp at ht
    go_wp2_with fail
    try simp only[Exit.jump]
    go_ret
    exact⟨zbp HL.out.symm,rfl⟩
theorem zur{k:Nat}(h:k<=16):1<=(2:Int)^k/\(2:Int)^k<=65536:=by
 have h1:(2:Nat)^k<=2^16:=Nat.pow_le_pow_right (by omega) h
 have h2:=za3 k
 have e:(2:Int)^k=((2^k:Nat):Int):=by simp
 omega
theorem zfb(x:Int)(w:World):
  Calls Tryz.prog 280 #[.int .i64 x] w λe w'=>e= .returned (.int .i64 (zb1 x))/\w=w':=by
 obtain⟨h1,h2⟩:=zrk x
 by_cases h:0<lvI x
 ·have HH:Hid (zb1 x=2^(lvI x-1).toNat):=Lib.hid (by simp[zb1,h])
  have hb:=zur (k:=(lvI x).toNat-1) (by omega)
  go_enter Tryz.func280,Tryz.ntmps280
  go_wp2_with fail
  refine(zjo x _).mono ?_
  rintro e w' ⟨rfl,rfl⟩
  go_wp2_with fail
  go_ret
  exact⟨zbp (by rw[HH.out,show(lvI x-1).toNat=(lvI x).toNat-1 by omega]),rfl⟩
 ·have HH:Hid (zb1 x=0):=Lib.hid (by simp[zb1,h])
  go_enter Tryz.func280,Tryz.ntmps280
  go_wp2_with fail
  refine(zjo x _).mono ?_
  rintro e w' ⟨rfl,rfl⟩
  go_wp2_with fail
  go_ret
  exact⟨zbp HH.out.symm,rfl⟩
theorem zq1(x:Int):0<=zb1 x/\zb1 x<=32768:=by
 obtain⟨h1,h2⟩:=zrk x
 unfold zb1
 split
 ·have h3:(2:Nat)^(lvI x-1).toNat<=2^15:=Nat.pow_le_pow_right (by omega) (by omega)
  have e:(2:Int)^(lvI x-1).toNat=((2^(lvI x-1).toNat:Nat):Int):=by simp
  rw[e]
  generalize (2:Nat)^(lvI x-1).toNat=q at*
  omega
 ·omega
theorem zmu{x:Int}(h:zce x=false):zb1 x=0:=by simp[zb1,zrl h]
theorem z1d(x:Int)(w:World):
  Calls Tryz.prog 169 #[.int .i64 x] w λe w'=>e= .returned (.int .i64 (zf2 x))/\w=w':=by
 obtain⟨h1,h2⟩:=zq1 x
 rcases hn:zce x with _ |_
 ·have HH:=Lib.hid (zmu hn)
  go_enter Tryz.func169,Tryz.ntmps169
  go_wp2_with fail
  refine(zfb x _).mono ?_
  rintro e w' ⟨rfl,rfl⟩
  rw[HH.out]
  go_wp2_with fail
  go_ret
  exact⟨zbp (by simp[zf2,HH.out]),rfl⟩
 ·rw[zej]at hn
  by_cases hz:zb1 x=0
  ·have HH:=Lib.hid hz
   clear hz
   go_enter Tryz.func169,Tryz.ntmps169
   go_wp2_with fail
   refine(zfb x _).mono ?_
   rintro e w' ⟨rfl,rfl⟩
   rw[HH.out]
   go_wp2_with fail
   go_ret
   exact⟨zbp (by simp[zf2,HH.out]),rfl⟩
  ·have hz':(zb1 x==0)=false:=by simpa using hz
   have HL:Hid (zf2 x=x-zb1 x):=Lib.hid (by simp[zf2,hz])
   go_enter Tryz.func169,Tryz.ntmps169
   go_wp2_with fail
   refine(zfb x _).mono ?_
   rintro e w' ⟨rfl,rfl⟩
   go_wp2_with fail
   go_ret
   exact⟨zbp HL.out.symm,rfl⟩
theorem zy9(x:Int)(w:World):
  Calls Tryz.prog 170 #[.int .i64 x] w λe w'=>e= .returned (.int .i64 (ze1 x))/\w=w':=by
 obtain⟨h1,h2⟩:=zq1 x
 rcases hn:zce x with _ |_
 ·have HH:=Lib.hid (zmu hn)
  go_enter Tryz.func170,Tryz.ntmps170
  go_wp2_with fail
  refine(zfb x _).mono ?_
  rintro e w' ⟨rfl,rfl⟩
  rw[HH.out]
  go_wp2_with fail
  go_ret
  exact⟨zbp (by simp[ze1,HH.out]),rfl⟩
 ·rw[zej]at hn
  by_cases hz:zb1 x=0
  ·have HH:=Lib.hid hz
   clear hz
   go_enter Tryz.func170,Tryz.ntmps170
   go_wp2_with fail
   refine(zfb x _).mono ?_
   rintro e w' ⟨rfl,rfl⟩
   rw[HH.out]
   go_wp2_with fail
   go_ret
   exact⟨zbp (by simp[ze1,HH.out]),rfl⟩
  ·have hz':(zb1 x==0)=false:=by simpa using hz
   have HL:Hid (ze1 x=x+zb1 x):=Lib.hid (by simp[ze1,hz])
   go_enter Tryz.func170,Tryz.ntmps170
   go_wp2_with fail
   refine(zfb x _).mono ?_
   rintro e w' ⟨rfl,rfl⟩
   go_wp2_with fail
   go_ret
   exact⟨zbp HL.out.symm,rfl⟩
theorem z1x(n:Int)(w:World):
  Calls Tryz.prog 84 #[.int .i64 n] w λe w'=>e= .returned (.int .i64 (ziu n))/\w=w':=by
 rcases hf:zc5 n with _ |_
 ·have HF:=Lib.hid hf
  clear hf
  go_enter Tryz.func84,Tryz.ntmps84
  go_wp2_with fail
  refine(zlr n _).mono ?_
  rintro e w' ⟨rfl,rfl⟩
  rw[HF.out]
  go_wp2_with fail
  go_ret
  exact⟨zbp (by simp[ziu,HF.out]),rfl⟩
 ·obtain⟨b1,b2⟩:=znw hf
  have HF:=Lib.hid hf
  clear hf
  go_enter Tryz.func84,Tryz.ntmps84
  go_wp2_with fail
  refine(zlr n _).mono ?_
  rintro e w' ⟨rfl,rfl⟩
  rw[HF.out]
  go_wp2_with fail
  go_ret
  exact⟨zbp (by simp[ziu,HF.out]),rfl⟩
theorem zzn(x y:Int)(w:World):
  Calls Tryz.prog 227 #[.int .i64 x, .int .i64 y] w λe w'=>e= .returned (.bool (zb6 x y))/\w=w':=by
 rcases hx:zce x with _ |_
 ·have HX:=Lib.hid hx
  clear hx
  go_enter Tryz.func227,Tryz.ntmps227
  go_wp2_with fail
  refine(zee x _).mono ?_
  rintro e w' ⟨rfl,rfl⟩
  rw[HX.out]
  go_wp2_with fail
  go_ret
  exact⟨zdf (by simp[zb6,HX.out]),rfl⟩
 ·rcases hy:zce y with _ |_
  ·have HX:=Lib.hid hx
   have HY:=Lib.hid hy
   clear hx hy
   go_enter Tryz.func227,Tryz.ntmps227
   go_wp2_with fail
   refine(zee x _).mono ?_
   rintro e w' ⟨rfl,rfl⟩
   rw[HX.out]
   go_wp2_with fail
   refine(zee y _).mono ?_
   rintro e w' ⟨rfl,rfl⟩
   rw[HY.out]
   go_wp2_with fail
   go_ret
   exact⟨zdf (by simp[zb6,HX.out,HY.out]),rfl⟩
  ·have HX:=Lib.hid hx
   have HY:=Lib.hid hy
   rw[zej]at hx hy
   have hL:0<=lvI y:=by rw[zlw HY.out];omega
   obtain⟨_,hL2⟩:=zrk y
   obtain⟨hp1,hp2⟩:=zur (k:=(lvI y).toNat) (by omega)
   go_enter Tryz.func227,Tryz.ntmps227
   go_wp2_with fail
   refine(zee x _).mono ?_
   rintro e w' ⟨rfl,rfl⟩
   rw[HX.out]
   go_wp2_with fail
   refine(zee y _).mono ?_
   rintro e w' ⟨rfl,rfl⟩
   rw[HY.out]
   go_wp2_with fail
   refine(zjo y _).mono ?_
   rintro e w' ⟨rfl,rfl⟩
   go_wp2_with fail
   ·go_ret
    have h3:y-(2^(lvI y).toNat-1)<=x:=by assumption
    exact⟨zdf (by rw[Bool.eq_iff_iff,znh,zsq];simp[HX.out,HY.out,h3]),rfl⟩
   ·go_ret
    have h3:x<y-(2^(lvI y).toNat-1):=by assumption
    exact⟨zdf (by rw[Bool.eq_iff_iff,znh,zsq];constructor<;>intro h<;>first |cases h;done |omega),rfl⟩
end
section
structure D3 where
 at_:Int
 lo:Int
 hi:Int
theorem zuc{d h k:Nat}(hd:d<=16)(hh:h<=d)(hk:k<2^(d-h)):zb1 (nd h k:Int)=if h=0 then 0 else((2^(h-1):Nat):Int):=by
 unfold zb1
 rw[z78 hd hh hk]
 rcases Nat.eq_zero_or_pos h with rfl |hp
 ·simp
 ·rw[if_pos (by omega),if_neg (by omega),show((h:Int)-1).toNat=h-1 by omega];simp
theorem z40{d h k:Nat}(hd:d<=16)(hh:h+1<=d)(hk:k<2^(d-(h+1))):zf2 (nd (h+1) k:Int)=(nd h (2*k):Int):=by
 unfold zf2
 rw[zuc hd hh hk,if_neg (by omega: ¬h+1=0)]
 have hp:=za3 h
 simp only[Nat.add_sub_cancel]
 rw[if_neg (by omega)]
 unfold nd
 rw[Nat.pow_succ 2 (h+1),Nat.pow_succ 2 h,show 2*k*(2^h*2)=k*(2^h*2*2)by rw[Nat.mul_comm 2 k,Nat.mul_assoc,Nat.mul_comm 2]]
 omega
theorem z1w{d h k:Nat}(hd:d<=16)(hh:h+1<=d)(hk:k<2^(d-(h+1))):ze1 (nd (h+1) k:Int)=(nd h (2*k+1):Int):=by
 unfold ze1
 rw[zuc hd hh hk,if_neg (by omega: ¬h+1=0)]
 have hp:=za3 h
 simp only[Nat.add_sub_cancel]
 rw[if_neg (by omega)]
 unfold nd
 rw[Nat.pow_succ 2 (h+1),Nat.pow_succ 2 h,Nat.add_mul,show 2*k*(2^h*2)=k*(2^h*2*2)by rw[Nat.mul_comm 2 k,Nat.mul_assoc,Nat.mul_comm 2]]
 omega
end
section
def z3l(l m:List Int)(i:Value)(w wr:World):Prop:=∃j:Nat,i= .int .i64 (j:Int)/\j<=l.length/\l.take j=m.take j/\Ext w wr
theorem ztj(p q:AC)(l m:List Int){S S':Nat->Prop}(w:World)(hp:Is w S p l)(hq:Is w S' q m):
  Calls Tryz.prog 261 #[.slice p.a l.length p.c, .slice q.a m.length q.c] w (Ret w λ_ v=>v= .bool (decide (l=m))):=by
 have hl:=hp.lens
 have hm:=hq.lens
 unfold maxLen at hl hm
 by_cases hlen:l.length=m.length
 ·have ht:((l.length:Int) != (m.length:Int))=false:=by simp[hlen]
  have HL:=Lib.hid hlen
  obtain⟨N,hN⟩: ∃N,N=l.length:=⟨_,rfl⟩
  have HN:=Lib.hid hN
  have hNb:N<=9223372036854775807:=by omega
  rw[<-hlen,<-hN]at ht
  rw[<-hlen,<-hN]
  clear hlen hN hl hm
  go_enter Tryz.func261,Tryz.ntmps261
  go_wp2_with fail
  go_loopw [5] (λi wr=>z3l l m i w wr) (λi _=>N-(intOf i).toNat)
  case atStart=>exact⟨0,rfl,Nat.zero_le _,by simp,Ext.refl _⟩
  case round=>
   obtain⟨j,rfl,e1,e2,e3⟩:=hrel
   have E2:=Lib.hid e2
   rw[<-HN.out]at e1
   clear e2
   by_cases hj:j<N
   ·have hj1:j<l.length:=by rw[<-HN.out];exact hj
    have hj2:j<m.length:=by rw[<-HL.out];exact hj1
    obtain⟨b,o,hpa,hc⟩:=(hp.ext e3).at_ hj1
    obtain⟨b',o',hqa,hc'⟩:=(hq.ext e3).at_ hj2
    have hj0:(0:Int)<=(j:Int):=by omega
    have hjN:(j:Int)< (N:Int):=by omega
    rw[hpa,hqa]
    clear hpa hqa
    by_cases he:l[j]=m[j]
    ·have ht2:(l[j] != m[j])=false:=by simp[he]
     have HE:=Lib.hid he
     obtain⟨X,hX⟩: ∃X,X=l[j]:=⟨_,rfl⟩
     obtain⟨Y,hY⟩: ∃Y,Y=m[j]:=⟨_,rfl⟩
     rw[<-hX]at hc ht2
     rw[<-hY]at hc' ht2
     clear he hX hY
     go_wp2_with fail
     go_quiet (fail)
     go_wp2_with fail
     go_roundw
     case rel=>exact⟨j+1,by simp,by have:=HN.out;omega,by rw[List.take_add_one,List.take_add_one,E2.out,List.getElem?_eq_getElem hj1,List.getElem?_eq_getElem hj2,HE.out],by(repeat (first |exact Ext.refl _ |refine Ext.drew ?_ |refine Ext.drewN ?_ _ |refine Ext.alloc ?_ _ |(refine Ext.setCell ?_ (by first |omega |(simp;done) |(simp;omega)) _) |refine Ext.trans ?_ (by assumption)))⟩
     case measure=>(first |omega |(simp[intOf];done) |(simp[intOf];omega))
    ·have ht2:(l[j] != m[j])=true:=by simpa using he
     have HE:Hid (l≠m):=Lib.hid (λh=>he (by subst h;rfl))
     obtain⟨X,hX⟩: ∃X,X=l[j]:=⟨_,rfl⟩
     obtain⟨Y,hY⟩: ∃Y,Y=m[j]:=⟨_,rfl⟩
     rw[<-hX]at hc ht2
     rw[<-hY]at hc' ht2
     clear he hX hY
     go_wp2_with fail
     go_quiet (fail)
     go_wp2_with fail
     go_ret
     exact⟨_,rfl,by(repeat (first |exact Ext.refl _ |refine Ext.drew ?_ |refine Ext.drewN ?_ _ |refine Ext.alloc ?_ _ |(refine Ext.setCell ?_ (by first |omega |(simp;done) |(simp;omega)) _) |refine Ext.trans ?_ (by assumption))),by simp[HE.out]⟩
   ·go_wp2_with fail
    go_ret
    have:l=m:=by
     have h1:=HN.out
     have h2:=HL.out
     have h3:=E2.out
     rwa[List.take_of_length_le (by omega),List.take_of_length_le (by omega)]at h3
    exact⟨_,rfl,by(repeat (first |exact Ext.refl _ |refine Ext.drew ?_ |refine Ext.drewN ?_ _ |refine Ext.alloc ?_ _ |(refine Ext.setCell ?_ (by first |omega |(simp;done) |(simp;omega)) _) |refine Ext.trans ?_ (by assumption))),by simp[this]⟩
 ·have ht:((l.length:Int) != (m.length:Int))=true:=by simp;omega
  have HE:Hid (l≠m):=Lib.hid (λh=>hlen (by rw[h]))
  clear hlen
  go_enter Tryz.func261,Tryz.ntmps261
  go_wp2_with fail
  go_ret
  exact⟨_,rfl,by(repeat (first |exact Ext.refl _ |refine Ext.drew ?_ |refine Ext.drewN ?_ _ |refine Ext.alloc ?_ _ |(refine Ext.setCell ?_ (by first |omega |(simp;done) |(simp;omega)) _) |refine Ext.trans ?_ (by assumption))),by simp[HE.out]⟩
end
section
def rotr(n x:Nat):Nat:=x/2^n+x%2^n*2^(32-n)
def chN(e f g:Nat):Nat:=(e&&&f)^^^((4294967295-e)&&&g)
def majN(a b c:Nat):Nat:=((a&&&b)^^^(a&&&c))^^^(b&&&c)
def bs0(a:Nat):Nat:=(rotr 2 a^^^rotr 13 a)^^^rotr 22 a
def bs1(e:Nat):Nat:=(rotr 6 e^^^rotr 11 e)^^^rotr 25 e
def ss0(x:Nat):Nat:=(rotr 7 x^^^rotr 18 x)^^^(x/8)
def ss1(x:Nat):Nat:=(rotr 17 x^^^rotr 19 x)^^^(x/1024)
theorem z9t:(2:Nat)^32=4294967296:=rfl
theorem zdm{n x:Nat}(hx:x<4294967296)(h1:1<=n)(h2:n<=31):rotr n x<4294967296:=by
 unfold rotr
 have hp:=za3 n
 have hq:=za3 (32-n)
 have e:2^(32-n)*2^n=4294967296:=by rw[<-Nat.pow_add,show 32-n+n=32 by omega]
 have hd:x/2^n<2^(32-n):=Nat.div_lt_of_lt_mul (by rw[Nat.mul_comm,e];exact hx)
 have hm:x%2^n<2^n:=Nat.mod_lt _ hp
 generalize x/2^n=d at*
 generalize x%2^n=m at*
 have:=Nat.mul_le_mul_right (2^(32-n)) (show m+1<=2^n from hm)
 rw[Nat.add_mul,Nat.mul_comm (2^n),e]at this
 omega
theorem znq{a b:Nat}(ha:a<4294967296)(hb:b<4294967296):a^^^b<4294967296:=by
 rw[<-z9t]at*;exact Nat.xor_lt_two_pow ha hb
theorem zgg{a b:Nat}(ha:a<4294967296):a&&&b<4294967296:=Nat.lt_of_le_of_lt Nat.and_le_left ha
structure H8 where
 a:Nat
 b:Nat
 c:Nat
 d:Nat
 e:Nat
 f:Nat
 g:Nat
 h:Nat
def H8.ok(s:H8):Prop:=s.a<4294967296/\s.b<4294967296/\s.c<4294967296/\s.d<4294967296/\s.e<4294967296/\s.f<4294967296/\s.g<4294967296/\s.h<4294967296
def H8.list(s:H8):List Nat:=[s.a,s.b,s.c,s.d,s.e,s.f,s.g,s.h]
def be32(b:List UInt8)(i:Nat):Nat:=(((b.getD i 0).toNat*256+(b.getD (i+1) 0).toNat)*256+(b.getD (i+2) 0).toNat)*256+(b.getD (i+3) 0).toNat
theorem z3s(b:List UInt8)(i:Nat):be32 b i<4294967296:=by
 unfold be32
 have h0:=(b.getD i 0).toNat_lt
 have h1:=(b.getD (i+1) 0).toNat_lt
 have h2:=(b.getD (i+2) 0).toNat_lt
 have h3:=(b.getD (i+3) 0).toNat_lt
 omega
def zi1(b:List UInt8)(L:List Nat):Nat:=
 if L.length<16 then be32 b (4*L.length)
 else(ss1 (L.getD (L.length-2) 0)+L.getD (L.length-7) 0+ss0 (L.getD (L.length-15) 0)+L.getD (L.length-16) 0)%4294967296
def wTo(b:List UInt8):Nat->List Nat
 |0=>[]
 |t+1=>wTo b t++[zi1 b (wTo b t)]
theorem zbq(b:List UInt8): ∀t,(wTo b t).length=t
 |0=>rfl
 |t+1=>by rw[wTo,List.length_append,zbq b t];rfl
theorem z2d(b:List UInt8)(L:List Nat):zi1 b L<4294967296:=by
 unfold zi1
 split
 ·exact z3s _ _
 ·exact Nat.mod_lt _ (by omega)
theorem zzr(b:List UInt8): ∀t,∀x∈wTo b t,x<4294967296
 |0,x,h=>by cases h
 |t+1,x,h=>by
  rcases List.mem_append.1 h with h |h
  ·exact zzr b t x h
  ·rw[List.mem_singleton.1 h];exact z2d _ _
def kTab:List Nat:=[
 0x428a2f98,0x71374491,0xb5c0fbcf,0xe9b5dba5,0x3956c25b,0x59f111f1,0x923f82a4,0xab1c5ed5,
 0xd807aa98,0x12835b01,0x243185be,0x550c7dc3,0x72be5d74,0x80deb1fe,0x9bdc06a7,0xc19bf174,
 0xe49b69c1,0xefbe4786,0x0fc19dc6,0x240ca1cc,0x2de92c6f,0x4a7484aa,0x5cb0a9dc,0x76f988da,
 0x983e5152,0xa831c66d,0xb00327c8,0xbf597fc7,0xc6e00bf3,0xd5a79147,0x06ca6351,0x14292967,
 0x27b70a85,0x2e1b2138,0x4d2c6dfc,0x53380d13,0x650a7354,0x766a0abb,0x81c2c92e,0x92722c85,
 0xa2bfe8a1,0xa81a664b,0xc24b8b70,0xc76c51a3,0xd192e819,0xd6990624,0xf40e3585,0x106aa070,
 0x19a4c116,0x1e376c08,0x2748774c,0x34b0bcb5,0x391c0cb3,0x4ed8aa4a,0x5b9cca4f,0x682e6ff3,
 0x748f82ee,0x78a5636f,0x84c87814,0x8cc70208,0x90befffa,0xa4506ceb,0xbef9a3f7,0xc67178f2]
def h0Tab:H8:=⟨0x6a09e667,0xbb67ae85,0x3c6ef372,0xa54ff53a,0x510e527f,0x9b05688c,0x1f83d9ab,0x5be0cd19⟩
theorem zzq(b:List UInt8)(n t:Nat):(wTo b n).getD t 0<4294967296:=by
 rcases Nat.lt_or_ge t n with h |h
 ·have hl:t< (wTo b n).length:=by rw[zbq];exact h
  rw[List.getD_eq_getElem?_getD,List.getElem?_eq_getElem hl]
  exact zzr _ _ _ (List.getElem_mem hl)
 ·rw[List.getD_eq_getElem?_getD,List.getElem?_eq_none (by rw[zbq];exact h)];decide
def t1N(k w:Nat)(s:H8):Nat:=s.h+bs1 s.e+chN s.e s.f s.g+k+w
def t2N(s:H8):Nat:=bs0 s.a+majN s.a s.b s.c
def znb(k w:Nat)(s:H8):H8:=⟨(t1N k w s+t2N s)%4294967296,s.a,s.b,s.c,(s.d+t1N k w s)%4294967296,s.e,s.f,s.g⟩
theorem zza{k w:Nat}{s:H8}(h:s.ok):(znb k w s).ok:=by
 obtain⟨ha,hb,hc,hd,he,hf,hg,hh⟩:=h
 exact⟨Nat.mod_lt _ (by omega),ha,hb,hc,Nat.mod_lt _ (by omega),he,hf,hg⟩
def zda(b:List UInt8)(s:H8):Nat->H8
 |0=>s
 |t+1=>znb (kTab.getD t 0) ((wTo b 64).getD t 0) (zda b s t)
theorem znc{b:List UInt8}{s:H8}(h:s.ok): ∀t,(zda b s t).ok
 |0=>h
 |t+1=>zza (znc h t)
def addH(s x:H8):H8:=⟨(s.a+x.a)%4294967296,(s.b+x.b)%4294967296,(s.c+x.c)%4294967296,(s.d+x.d)%4294967296,(s.e+x.e)%4294967296,(s.f+x.f)%4294967296,(s.g+x.g)%4294967296,(s.h+x.h)%4294967296⟩
theorem z3p(s x:H8):(addH s x).ok:=⟨Nat.mod_lt _ (by omega),Nat.mod_lt _ (by omega),Nat.mod_lt _ (by omega),Nat.mod_lt _ (by omega),Nat.mod_lt _ (by omega),Nat.mod_lt _ (by omega),Nat.mod_lt _ (by omega),Nat.mod_lt _ (by omega)⟩
def zk0(s:H8)(b:List UInt8):H8:=addH s (zda b s 64)
def runH:Nat->H8->List UInt8->H8
 |0,s,_=>s
 |m+1,s,l=>runH m (zk0 s (l.take 64)) (l.drop 64)
theorem zn9: ∀(m:Nat) (s:H8) (l:List UInt8),s.ok->(runH m s l).ok
 |0,s,l,h=>h
 |m+1,s,l,h=>zn9 m _ _ (z3p _ _)
theorem zpb: ∀(m:Nat) (s:H8) (l:List UInt8),runH (m+1) s l=zk0 (runH m s l) ((l.drop (64*m)).take 64)
 |0,s,l=>by simp[runH]
 |m+1,s,l=>by
  rw[runH,zpb m,runH,List.drop_drop,show 64+64*m=64*(m+1)by omega]
def zdb(n:Nat):Nat:=(119-n%64)%64
def zhb(n:Nat):List UInt8:=128::(List.replicate (zdb n) 0++beB 8 (n*8))
theorem zpi(n:Nat):(zhb n).length=9+zdb n:=by
 unfold zhb
 rw[List.length_cons,List.length_append,List.length_replicate,zay];omega
theorem zka(n:Nat):zdb n<64:=Nat.mod_lt _ (by omega)
theorem z1p(n:Nat):(n+(9+zdb n))%64=0:=by unfold zdb;omega
def outH(s:H8):List UInt8:=s.list.flatMap (beB 4)
theorem zef(s:H8):(outH s).length=32:=by simp[outH,H8.list,zay]
def shaB(l:List UInt8):List UInt8:=outH (runH ((l++zhb l.length).length/64) h0Tab (l++zhb l.length))
theorem zdg(l:List UInt8):(shaB l).length=32:=zef _
theorem z2m:h0Tab.ok:=by unfold H8.ok;decide
end
end Go.Proofs.YtlofklpckddkfaaGreat
