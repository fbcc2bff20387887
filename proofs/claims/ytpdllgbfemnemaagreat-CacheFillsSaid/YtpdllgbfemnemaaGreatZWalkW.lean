import Derived.Test.YtpdllgbfemnemaaGreatProg
import Derived.Test.YtpdllgbfemnemaaGreatZApp
import Derived.Test.YtpdllgbfemnemaaGreatZOnes
import Derived.Deep.QuietTactic
import Derived.BigQuiet
import Derived.Deep.LoopGhost
namespace Go.Proofs.YtpdllgbfemnemaaGreat
set_option linter.unusedVariables false
open Go.RowKit
theorem zjn {a b : Nat} {x y : Int} (hx : x = (a : Int)) (hy : y = (b : Int)) (ha : a < 18446744073709551616) (hb : b < 18446744073709551616) : bits .and .u64 x y = ((a &&& b : Nat) : Int) := by
 rw [hx, hy]; exact u64_and_nat a b ha hb
theorem zg8 {a : Nat} {x : Int} (hx : x = (a : Int)) (ha : a < 18446744073709551616) : IntKind.u64.wrap x = (a : Int) := by
 rw [hx]; simp [IntKind.wrap, IntKind.bits, IntKind.signed]; omega
theorem zg6 (a : Nat) (ha : a < 9223372036854775808) : (BitVec.ofInt 64 (a : Int)).toNat = a := by
 rw [BitVec.ofInt_natCast, BitVec.toNat_ofNat]; exact Nat.mod_eq_of_lt (by omega)
theorem zk8 (a b : Nat) (ha : a < 9223372036854775808) (hb : b < 9223372036854775808) : bits .and .i64 (a : Int) (b : Int) = ((a &&& b : Nat) : Int) := by
 have hx : a &&& b < 2 ^ 63 := Nat.and_lt_two_pow _ (by omega)
 show IntKind.i64.wrap ((BitVec.ofInt 64 (a : Int) &&& BitVec.ofInt 64 (b : Int)).toNat : Int) = _
 rw [BitVec.toNat_and, zg6 a ha, zg6 b hb, IntKind.wrap_i64]
 omega
theorem zsu (a : Nat) {j : Nat} (ha : a < 9223372036854775808) (hj : j < 63) : bits .andNot .i64 (a : Int) ((2 ^ j : Nat) : Int) = ((a - a / 2 ^ j % 2 * 2 ^ j : Nat) : Int) := by
 have hb : 2 ^ j < 2 ^ 63 := Nat.pow_lt_pow_right (by omega) hj
 show IntKind.i64.wrap ((BitVec.ofInt 64 (a : Int) &&& ~~~ BitVec.ofInt 64 ((2 ^ j : Nat) : Int)).toNat : Int) = _
 rw [BitVec.toNat_and, BitVec.toNat_not, zg6 a ha, zg6 _ (by omega), IntKind.wrap_i64]
 rw [show 2 ^ 64 - 1 - 2 ^ j = 2 ^ 64 - (2 ^ j + 1) by omega, z2l (by omega) (by omega)]
 omega
theorem z19 (a b : Nat) (ha : a < 9223372036854775808) (hb : b < 9223372036854775808) : bits .or .i64 (a : Int) (b : Int) = ((a ||| b : Nat) : Int) := by
 have hx : a ||| b < 2 ^ 63 := Nat.or_lt_two_pow (by omega) (by omega)
 show IntKind.i64.wrap ((BitVec.ofInt 64 (a : Int) ||| BitVec.ofInt 64 (b : Int)).toNat : Int) = _
 rw [BitVec.toNat_or, zg6 a ha, zg6 b hb, IntKind.wrap_i64]
 omega
set_option maxHeartbeats 1000000 in
theorem z0w (n : Nat) (w : World) (hn : n <= 65536) :
  Calls Tryz.prog 135 #[.int .u64 (n : Int)] w λ e w' => e = .returned (.int .i64 (zr3 n)) /\ w = w' := by
 go_enter Tryz.func135, Tryz.ntmps135
 go_wp2_with fail
 go_ret
 refine ⟨zb1 ?_, rfl⟩
 have hand : ∀ x y : Nat, x &&& y <= x := λ x y => Nat.and_le_left
 obtain ⟨a0, ha0⟩ : ∃ a, a = (n / 2 &&& 6148914691236517205) := ⟨_, rfl⟩
 obtain ⟨a1, ha1⟩ : ∃ a, a = (n &&& 6148914691236517205) := ⟨_, rfl⟩
 have l0 : a0 <= 65536 := by have := hand (n / 2) 6148914691236517205; omega
 have l1 : a1 <= 65536 := by have := hand n 6148914691236517205; omega
 obtain ⟨b0, hb0⟩ : ∃ a, a = ((a0 + a1) / 4 &&& 3689348814741910323) := ⟨_, rfl⟩
 obtain ⟨b1, hb1⟩ : ∃ a, a = (a0 + a1 &&& 3689348814741910323) := ⟨_, rfl⟩
 have m0 : b0 <= 131072 := by have := hand ((a0 + a1) / 4) 3689348814741910323; omega
 have m1 : b1 <= 131072 := by have := hand (a0 + a1) 3689348814741910323; omega
 obtain ⟨c0, hc0⟩ : ∃ a, a = ((b0 + b1) / 16 + (b0 + b1) &&& 1085102592571150095) := ⟨_, rfl⟩
 have p0 : c0 <= 1048576 := by have := hand ((b0 + b1) / 16 + (b0 + b1)) 1085102592571150095; omega
 have E1 : bits BinOp.and IntKind.u64 ((n : Int) / 2) 6148914691236517205 = (a0 : Int) := by rw [ha0]; exact zjn (by omega) rfl (by omega) (by omega)
 have E2 : bits BinOp.and IntKind.u64 (n : Int) 6148914691236517205 = (a1 : Int) := by rw [ha1]; exact zjn rfl rfl (by omega) (by omega)
 have E3 : IntKind.u64.wrap ((a0 : Int) + a1) = ((a0 + a1 : Nat) : Int) := zg8 (by omega) (by omega)
 have E4 : bits BinOp.and IntKind.u64 (((a0 + a1 : Nat) : Int) / 4) 3689348814741910323 = (b0 : Int) := by rw [hb0]; exact zjn (by omega) rfl (by omega) (by omega)
 have E5 : bits BinOp.and IntKind.u64 ((a0 + a1 : Nat) : Int) 3689348814741910323 = (b1 : Int) := by rw [hb1]; exact zjn rfl rfl (by omega) (by omega)
 have E6 : IntKind.u64.wrap ((b0 : Int) + b1) = ((b0 + b1 : Nat) : Int) := zg8 (by omega) (by omega)
 have E7 : IntKind.u64.wrap (((b0 + b1 : Nat) : Int) / 16 + ((b0 + b1 : Nat) : Int)) = (((b0 + b1) / 16 + (b0 + b1) : Nat) : Int) := zg8 (by omega) (by omega)
 have E8 : bits BinOp.and IntKind.u64 (((b0 + b1) / 16 + (b0 + b1) : Nat) : Int) 1085102592571150095 = (c0 : Int) := by rw [hc0]; exact zjn rfl rfl (by omega) (by omega)
 have E9 : IntKind.u64.wrap ((c0 : Int) + (c0 : Int) / 256) = ((c0 + c0 / 256 : Nat) : Int) := zg8 (by omega) (by omega)
 obtain ⟨d, hd⟩ : ∃ d, d = c0 + c0 / 256 := ⟨_, rfl⟩
 have E10 : IntKind.u64.wrap ((d : Int) + (d : Int) / 65536) = ((d + d / 65536 : Nat) : Int) := zg8 (by omega) (by omega)
 obtain ⟨e, he⟩ : ∃ e, e = d + d / 65536 := ⟨_, rfl⟩
 have E11 : IntKind.u64.wrap ((e : Int) + (e : Int) / 4294967296) = ((e + e / 4294967296 : Nat) : Int) := zg8 (by omega) (by omega)
 simp only [E1, E2, E3, E4, E5, E6, E7, E8, E9, <- hd, E10, <- he, E11]
 rw [IntWalk.wrap64_in _ ⟨by omega, by omega⟩]
 rw [show (127 : Int) = ((127 : Nat) : Int) from rfl, zk8 _ _ (by omega) (by omega)]
 subst he hd hc0 hb0 hb1 ha0 ha1
 rfl
theorem z5f (n : Nat) (w : World) (hn : n <= 65536) :
  Calls Tryz.prog 93 #[.int .u64 (n : Int)] w λ e w' => e = .returned (.int .i64 (zr3 n)) /\ w = w' := by
 go_enter Tryz.func93, Tryz.ntmps93
 go_wp2_with fail
 refine (z0w n _ hn).mono ?_
 rintro e w' ⟨rfl, rfl⟩
 go_wp2_with fail
 go_ret
 exact ⟨rfl, rfl⟩
theorem zv4 {n : Int} (h : ¬ (1 <= n /\ n <= 65536)) : zau n = false := by
 rcases hf : zau n with _ | _
 ·rfl
 ·exact absurd (zd5 hf) h
theorem zid (n : Int) (w : World) :
  Calls Tryz.prog 54 #[.int .i64 n] w λ e w' => e = .returned (.bool (zau n)) /\ w = w' := by
 by_cases h1 : 1 <= n
 ·by_cases h2 : n <= 65536
  ·obtain ⟨m, rfl⟩ := Int.eq_ofNat_of_zero_le (show 0 <= n by omega)
   have hf : zau (m : Int) = ((zr3 m : Int) == 1) := by
    have h := z6t (n := m) (by omega) (by omega)
    rw [Bool.eq_iff_iff, <- h]
    simp; omega
   have HF := Lib.hid hf
   clear hf
   go_enter Tryz.func54, Tryz.ntmps54
   go_wp2_with fail
   refine (z5f m _ (by omega)).mono ?_
   rintro e w' ⟨rfl, rfl⟩
   go_wp2_with fail
   go_ret
   exact ⟨zc4 HF.out.symm, rfl⟩
  ·have HF := Lib.hid (zv4 (n := n) (by omega))
   go_enter Tryz.func54, Tryz.ntmps54
   go_wp2_with fail
   go_ret
   exact ⟨zc4 HF.out.symm, rfl⟩
 ·have HF := Lib.hid (zv4 (n := n) (by omega))
  go_enter Tryz.func54, Tryz.ntmps54
  go_wp2_with fail
  go_ret
  exact ⟨zc4 HF.out.symm, rfl⟩
theorem zgy (x : Int) (w : World) :
  Calls Tryz.prog 142 #[.int .i64 x] w λ e w' => e = .returned (.bool (za5 x)) /\ w = w' := by
 by_cases h : 0 <= x
 ·go_enter Tryz.func142, Tryz.ntmps142
  go_wp2_with fail
  go_ret
  exact ⟨zc4 (by simp [za5, h]), rfl⟩
 ·go_enter Tryz.func142, Tryz.ntmps142
  go_wp2_with fail
  go_ret
  exact ⟨zc4 (by simp [za5]; omega), rfl⟩
theorem zxk (x n : Int) (w : World) :
  Calls Tryz.prog 136 #[.int .i64 x, .int .i64 n] w λ e w' => e = .returned (.bool (ofI x n)) /\ w = w' := by
 rcases hf : zau n with _ | _
 ·have HF := Lib.hid hf
  clear hf
  go_enter Tryz.func136, Tryz.ntmps136
  go_wp2_with fail
  refine (zid n _).mono ?_
  rintro e w' ⟨rfl, rfl⟩
  rw [HF.out]
  go_wp2_with fail
  go_ret
  exact ⟨zc4 (by simp [ofI, HF.out]), rfl⟩
 ·obtain ⟨b1, b2⟩ := zd5 hf
  have HF := Lib.hid hf
  clear hf
  by_cases h : 0 <= x
  ·go_enter Tryz.func136, Tryz.ntmps136
   go_wp2_with fail
   refine (zid n _).mono ?_
   rintro e w' ⟨rfl, rfl⟩
   rw [HF.out]
   go_wp2_with fail
   go_ret
   exact ⟨zc4 (by simp [ofI, HF.out, h]), rfl⟩
  ·go_enter Tryz.func136, Tryz.ntmps136
   go_wp2_with fail
   refine (zid n _).mono ?_
   rintro e w' ⟨rfl, rfl⟩
   rw [HF.out]
   go_wp2_with fail
   go_ret
   exact ⟨zc4 (by simp [ofI, HF.out]; omega), rfl⟩
theorem zzt {m : Nat} (hm : m <= 131070) {k : Nat} (hk : k < lv m) : (bits BinOp.and IntKind.i64 ((m : Int) / 2 ^ k) 1 == 1) = true := by
 obtain ⟨h1, h2, _⟩ := zgb hm
 generalize lv m = l at *
 have e : ((m : Int) / 2 ^ k) = ((m / 2 ^ k : Nat) : Int) := by simp
 have hlt : m / 2 ^ k < 9223372036854775808 := Nat.lt_of_le_of_lt (Nat.div_le_self _ _) (by omega)
 rw [e, show (1 : Int) = ((1 : Nat) : Int) from rfl, zk8 _ _ hlt (by omega), nat_mask1]
 have h3 : m % 2 ^ l / 2 ^ k % 2 = m / 2 ^ k % 2 := by
  obtain ⟨j, rfl⟩ : ∃ j, l = k + (j + 1) := ⟨l - k - 1, by omega⟩
  rw [Nat.pow_add, Nat.mod_mul_right_div_self, Nat.pow_succ, Nat.mul_comm, Nat.mod_mul_right_mod]
 rw [h2] at h3
 have h4 : (2 ^ l - 1) / 2 ^ k % 2 = 1 := by
  obtain ⟨j, rfl⟩ : ∃ j, l = k + (j + 1) := ⟨l - k - 1, by omega⟩
  have hp := zag k
  have hj := zag j
  have e1 : 2 ^ (k + (j + 1)) - 1 = 2 ^ k * (2 * 2 ^ j - 1) + (2 ^ k - 1) := by
   rw [Nat.pow_add, Nat.pow_succ, Nat.mul_comm (2 ^ j) 2, Nat.mul_sub, Nat.mul_one]
   have : 2 ^ k * 1 <= 2 ^ k * (2 * 2 ^ j) := Nat.mul_le_mul_left _ (by omega)
   omega
  rw [e1, Nat.mul_add_div hp, Nat.div_eq_of_lt (by omega)]
  omega
 rw [h4] at h3
 rw [<- h3]; rfl
theorem zq8 {m : Nat} (hm : m <= 131070) : (bits BinOp.and IntKind.i64 ((m : Int) / 2 ^ lv m) 1 == 1) = false := by
 obtain ⟨h1, _, h2⟩ := zgb hm
 generalize lv m = l at *
 have e : ((m : Int) / 2 ^ l) = ((m / 2 ^ l : Nat) : Int) := by simp
 have hlt : m / 2 ^ l < 9223372036854775808 := Nat.lt_of_le_of_lt (Nat.div_le_self _ _) (by omega)
 rw [e, show (1 : Int) = ((1 : Nat) : Int) from rfl, zk8 _ _ hlt (by omega), nat_mask1, h2]
 rfl
def z9k (m : Nat) (w : World) (a' : Act) (w' : World) : Prop :=
 w = w' /\ ∃ (k : Nat) (u4 u5 u6 u7 u8 u9 u10 u11 u12 u13 : Value), a' = { tmps := #[.int .i64 m, undef, .int .i64 0, .int .i64 k, u4, u5, u6, u7, u8, u9, u10, u11, u12, u13, undef], defers := [] } /\ k <= lv m
def z34 (m : Nat) (a' : Act) (_ : World) : Nat := lv m - (intOf (a'.tmps.getD 3 undef)).toNat
theorem zkn (x : Int) (w : World) :
  Calls Tryz.prog 137 #[.int .i64 x] w λ e w' => e = .returned (.int .i64 (lvI x)) /\ w = w' := by
 rcases hf : za5 x with _ | _
 ·have HF := Lib.hid hf
  have HL := Lib.hid (zxe hf)
  clear hf
  go_enter Tryz.func137, Tryz.ntmps137
  go_wp2_with fail
  go_step3
  go_wp2_with fail
  refine (zgy x _).mono ?_
  rintro e w' ⟨rfl, rfl⟩
  rw [HF.out]
  go_wp2_with fail
  try rw [Exit.noGoto_ret]
  go_ret
  exact ⟨zb1 HL.out.symm, rfl⟩
 ·have HF := Lib.hid hf
  have HL := Lib.hid (zmu hf)
  rw [zcm] at hf
  obtain ⟨m, rfl⟩ := Int.eq_ofNat_of_zero_le hf.1
  rw [Int.toNat_natCast] at HL
  have hm : m <= 131070 := by omega
  obtain ⟨hl, _⟩ := zgb hm
  go_enter Tryz.func137, Tryz.ntmps137
  go_wp2_with fail
  refine wp_scope_jumps 0 (z9k m w) (z34 m) rfl ?_ ?_
  rotate_left
  ·rintro a' w' ⟨rfl, k, u4, u5, u6, u7, u8, u9, u10, u11, u12, u13, rfl, hk⟩
   by_cases hlt : k < lv m
   ·have ht := zzt hm hlt
    go_wp2_with fail
    go_step3
    exact ⟨rfl, ⟨rfl, k + 1, _, _, _, _, _, _, _, _, _, _, rfl, by omega⟩, by simp [z34, intOf]; omega⟩
   ·obtain rfl : k = lv m := by omega
    have ht := zq8 hm
    go_wp2_with fail
    try simp only [Exit.jump]
    go_ret
    exact ⟨zb1 HL.out.symm, rfl⟩
  ·go_wp2_with fail
   refine (zgy m _).mono ?_
   rintro e w' ⟨rfl, rfl⟩
   rw [HF.out]
   go_wp2_with fail
   go_step3
   by_cases hlt : 0 < lv m
   ·have ht := zzt hm hlt
    simp at ht
    go_wp2_with fail
    go_step3
    exact ⟨rfl, ⟨rfl, 1, _, _, _, _, _, _, _, _, _, _, rfl, by omega⟩⟩
   ·have hz : lv m = 0 := by omega
    have ht := zq8 hm
    rw [hz] at HL ht
    clear hz
    simp at ht
    go_wp2_with fail
    try simp only [Exit.jump]
    go_ret
    exact ⟨zb1 HL.out.symm, rfl⟩
theorem zyx {k : Nat} (h : k <= 16) : 1 <= (2 : Int) ^ k /\ (2 : Int) ^ k <= 65536 := by
 have h1 : (2 : Nat) ^ k <= 2 ^ 16 := Nat.pow_le_pow_right (by omega) h
 have h2 := zag k
 have e : (2 : Int) ^ k = ((2 ^ k : Nat) : Int) := by simp
 omega
theorem zh6 (x : Int) (w : World) :
  Calls Tryz.prog 131 #[.int .i64 x] w λ e w' => e = .returned (.int .i64 (zdb x)) /\ w = w' := by
 obtain ⟨h1, h2⟩ := zqr x
 by_cases h : 0 < lvI x
 ·have HH : Hid (zdb x = 2 ^ (lvI x - 1).toNat) := Lib.hid (by simp [zdb, h])
  have hb := zyx (k := (lvI x).toNat - 1) (by omega)
  go_enter Tryz.func131, Tryz.ntmps131
  go_wp2_with fail
  refine (zkn x _).mono ?_
  rintro e w' ⟨rfl, rfl⟩
  go_wp2_with fail
  go_ret
  exact ⟨zb1 (by rw [HH.out, show (lvI x - 1).toNat = (lvI x).toNat - 1 by omega]), rfl⟩
 ·have HH : Hid (zdb x = 0) := Lib.hid (by simp [zdb, h])
  go_enter Tryz.func131, Tryz.ntmps131
  go_wp2_with fail
  refine (zkn x _).mono ?_
  rintro e w' ⟨rfl, rfl⟩
  go_wp2_with fail
  go_ret
  exact ⟨zb1 HH.out.symm, rfl⟩
theorem zqj (x : Int) : 0 <= zdb x /\ zdb x <= 32768 := by
 obtain ⟨h1, h2⟩ := zqr x
 unfold zdb
 split
 ·have h3 : (2 : Nat) ^ (lvI x - 1).toNat <= 2 ^ 15 := Nat.pow_le_pow_right (by omega) (by omega)
  have e : (2 : Int) ^ (lvI x - 1).toNat = ((2 ^ (lvI x - 1).toNat : Nat) : Int) := by simp
  rw [e]
  generalize (2 : Nat) ^ (lvI x - 1).toNat = q at *
  omega
 ·omega
theorem zmv {x : Int} (h : za5 x = false) : zdb x = 0 := by simp [zdb, zxe h]
theorem zx4 (x : Int) (w : World) :
  Calls Tryz.prog 90 #[.int .i64 x] w λ e w' => e = .returned (.int .i64 (zba x)) /\ w = w' := by
 obtain ⟨h1, h2⟩ := zqj x
 rcases hn : za5 x with _ | _
 ·have HH := Lib.hid (zmv hn)
  go_enter Tryz.func90, Tryz.ntmps90
  go_wp2_with fail
  refine (zh6 x _).mono ?_
  rintro e w' ⟨rfl, rfl⟩
  rw [HH.out]
  go_wp2_with fail
  go_ret
  exact ⟨zb1 (by simp [zba, HH.out]), rfl⟩
 ·rw [zcm] at hn
  by_cases hz : zdb x = 0
  ·have HH := Lib.hid hz
   clear hz
   go_enter Tryz.func90, Tryz.ntmps90
   go_wp2_with fail
   refine (zh6 x _).mono ?_
   rintro e w' ⟨rfl, rfl⟩
   rw [HH.out]
   go_wp2_with fail
   go_ret
   exact ⟨zb1 (by simp [zba, HH.out]), rfl⟩
  ·have hz' : (zdb x == 0) = false := by simpa using hz
   have HL : Hid (zba x = x - zdb x) := Lib.hid (by simp [zba, hz])
   go_enter Tryz.func90, Tryz.ntmps90
   go_wp2_with fail
   refine (zh6 x _).mono ?_
   rintro e w' ⟨rfl, rfl⟩
   go_wp2_with fail
   go_ret
   exact ⟨zb1 HL.out.symm, rfl⟩
theorem ztp (x : Int) (w : World) :
  Calls Tryz.prog 91 #[.int .i64 x] w λ e w' => e = .returned (.int .i64 (za6 x)) /\ w = w' := by
 obtain ⟨h1, h2⟩ := zqj x
 rcases hn : za5 x with _ | _
 ·have HH := Lib.hid (zmv hn)
  go_enter Tryz.func91, Tryz.ntmps91
  go_wp2_with fail
  refine (zh6 x _).mono ?_
  rintro e w' ⟨rfl, rfl⟩
  rw [HH.out]
  go_wp2_with fail
  go_ret
  exact ⟨zb1 (by simp [za6, HH.out]), rfl⟩
 ·rw [zcm] at hn
  by_cases hz : zdb x = 0
  ·have HH := Lib.hid hz
   clear hz
   go_enter Tryz.func91, Tryz.ntmps91
   go_wp2_with fail
   refine (zh6 x _).mono ?_
   rintro e w' ⟨rfl, rfl⟩
   rw [HH.out]
   go_wp2_with fail
   go_ret
   exact ⟨zb1 (by simp [za6, HH.out]), rfl⟩
  ·have hz' : (zdb x == 0) = false := by simpa using hz
   have HL : Hid (za6 x = x + zdb x) := Lib.hid (by simp [za6, hz])
   go_enter Tryz.func91, Tryz.ntmps91
   go_wp2_with fail
   refine (zh6 x _).mono ?_
   rintro e w' ⟨rfl, rfl⟩
   go_wp2_with fail
   go_ret
   exact ⟨zb1 HL.out.symm, rfl⟩
theorem z6a (n : Int) (w : World) :
  Calls Tryz.prog 53 #[.int .i64 n] w λ e w' => e = .returned (.int .i64 (zga n)) /\ w = w' := by
 rcases hf : zau n with _ | _
 ·have HF := Lib.hid hf
  clear hf
  go_enter Tryz.func53, Tryz.ntmps53
  go_wp2_with fail
  refine (zid n _).mono ?_
  rintro e w' ⟨rfl, rfl⟩
  rw [HF.out]
  go_wp2_with fail
  go_ret
  exact ⟨zb1 (by simp [zga, HF.out]), rfl⟩
 ·obtain ⟨b1, b2⟩ := zd5 hf
  have HF := Lib.hid hf
  clear hf
  go_enter Tryz.func53, Tryz.ntmps53
  go_wp2_with fail
  refine (zid n _).mono ?_
  rintro e w' ⟨rfl, rfl⟩
  rw [HF.out]
  go_wp2_with fail
  go_ret
  exact ⟨zb1 (by simp [zga, HF.out]), rfl⟩
theorem z2y (x y : Int) (w : World) :
  Calls Tryz.prog 98 #[.int .i64 x, .int .i64 y] w λ e w' => e = .returned (.bool (zar x y)) /\ w = w' := by
 rcases hx : za5 x with _ | _
 ·have HX := Lib.hid hx
  clear hx
  go_enter Tryz.func98, Tryz.ntmps98
  go_wp2_with fail
  refine (zgy x _).mono ?_
  rintro e w' ⟨rfl, rfl⟩
  rw [HX.out]
  go_wp2_with fail
  go_ret
  exact ⟨zc4 (by simp [zar, HX.out]), rfl⟩
 ·rcases hy : za5 y with _ | _
  ·have HX := Lib.hid hx
   have HY := Lib.hid hy
   clear hx hy
   go_enter Tryz.func98, Tryz.ntmps98
   go_wp2_with fail
   refine (zgy x _).mono ?_
   rintro e w' ⟨rfl, rfl⟩
   rw [HX.out]
   go_wp2_with fail
   refine (zgy y _).mono ?_
   rintro e w' ⟨rfl, rfl⟩
   rw [HY.out]
   go_wp2_with fail
   go_ret
   exact ⟨zc4 (by simp [zar, HX.out, HY.out]), rfl⟩
  ·have HX := Lib.hid hx
   have HY := Lib.hid hy
   rw [zcm] at hx hy
   have hL : 0 <= lvI y := by rw [zmu HY.out]; omega
   obtain ⟨_, hL2⟩ := zqr y
   obtain ⟨hp1, hp2⟩ := zyx (k := (lvI y).toNat) (by omega)
   go_enter Tryz.func98, Tryz.ntmps98
   go_wp2_with fail
   refine (zgy x _).mono ?_
   rintro e w' ⟨rfl, rfl⟩
   rw [HX.out]
   go_wp2_with fail
   refine (zgy y _).mono ?_
   rintro e w' ⟨rfl, rfl⟩
   rw [HY.out]
   go_wp2_with fail
   refine (zkn y _).mono ?_
   rintro e w' ⟨rfl, rfl⟩
   go_wp2_with fail
   ·go_ret
    have h3 : y - (2 ^ (lvI y).toNat - 1) <= x := by assumption
    exact ⟨zc4 (by rw [Bool.eq_iff_iff, zi5, zqa]; simp [HX.out, HY.out, h3]), rfl⟩
   ·go_ret
    have h3 : x < y - (2 ^ (lvI y).toNat - 1) := by assumption
    exact ⟨zc4 (by rw [Bool.eq_iff_iff, zi5, zqa]; constructor <;> intro h <;> first | cases h; done | omega), rfl⟩
theorem zr1 {x n : Int} (h : ofI x n = true) : 0 <= x /\ x <= 131070 /\ 1 <= n /\ n <= 65536 /\ x <= 2 * n - 2 := by
 rw [zib] at h
 have := zd5 h.1
 omega
theorem zto {x n : Int} (h : ofI x n = false \/ x = n - 1) : parI x n = -1 := by
 rcases h with h | h <;> simp [parI, h]
theorem z8r {m d : Nat} (hd : d <= 16) (hm : m <= 2 * 2 ^ d - 2) (hne : m ≠ 2 ^ d - 1) : lv m < d := by
 have h16 : 2 ^ d <= 2 ^ 16 := Nat.pow_le_pow_right (by omega) hd
 obtain ⟨_, h1, h2⟩ := zgb (x := m) (by omega)
 have hp := zag d
 rcases Nat.lt_or_ge (lv m) d with h | h
 ·exact h
 ·exfalso
  have h3 : 2 ^ d <= 2 ^ lv m := Nat.pow_le_pow_right (by omega) h
  have h4 := Nat.div_add_mod m (2 ^ lv m)
  rw [h1] at h4
  rcases Nat.eq_zero_or_pos (m / 2 ^ lv m) with h5 | h5
  ·rw [h5] at h4
   have : 2 ^ lv m < 2 ^ (d + 1) := by rw [Nat.pow_succ]; omega
   have : lv m < d + 1 := (Nat.pow_lt_pow_iff_right (by omega)).1 this
   have : lv m = d := by omega
   rw [this] at h4
   omega
  ·have : 2 ^ lv m * 1 <= 2 ^ lv m * (m / 2 ^ lv m) := Nat.mul_le_mul_left _ h5
   omega
theorem z5i {m l : Nat} (hm : m <= 131070) (hl : l = lv m) (h16 : l < 16) : bits BinOp.andNot IntKind.i64 (bits BinOp.or IntKind.i64 (m : Int) (wrap64 (2 ^ l))) (wrap64 (2 ^ (l + 1))) = (upN m : Int) := by
 obtain ⟨_, h1, h2⟩ := zgb hm
 rw [<- hl] at h1 h2
 have hp := zag l
 have hb : 2 ^ (l + 1) <= 2 ^ 16 := Nat.pow_le_pow_right (by omega) (by omega)
 have e2 : 2 ^ (l + 1) = 2 * 2 ^ l := by rw [Nat.pow_succ]; omega
 have w1 : wrap64 ((2 : Int) ^ l) = ((2 ^ l : Nat) : Int) := by
  rw [show ((2 : Int) ^ l) = ((2 ^ l : Nat) : Int) by simp]
  exact IntWalk.wrap64_in _ ⟨by omega, by omega⟩
 have w2 : wrap64 ((2 : Int) ^ (l + 1)) = ((2 ^ (l + 1) : Nat) : Int) := by
  rw [show ((2 : Int) ^ (l + 1)) = ((2 ^ (l + 1) : Nat) : Int) by simp]
  exact IntWalk.wrap64_in _ ⟨by omega, by omega⟩
 rw [w1, w2, z19 _ _ (by omega) (by omega)]
 have hm0 : m / 2 ^ l % 2 = 0 := h2
 rw [z3s hm0, zsu _ (by omega) (by omega)]
 have hd : (m + 2 ^ l) / 2 ^ (l + 1) = m / 2 ^ (l + 1) := by
  have e4 := Nat.div_add_mod m (2 ^ (l + 1))
  have e5 : m % 2 ^ (l + 1) = 2 ^ l - 1 := by
   rw [Nat.pow_succ, Nat.mod_mul, h1, h2]; omega
  rw [e5] at e4
  have e6 : m + 2 ^ l = (2 ^ (l + 1) - 1) + m / 2 ^ (l + 1) * 2 ^ (l + 1) := by rw [Nat.mul_comm (m / 2 ^ (l + 1))]; omega
  rw [e6, Nat.add_mul_div_right _ _ (zag _), Nat.div_eq_of_lt (by omega)]
  omega
 rw [hd]
 unfold upN
 rw [<- hl]
 have hge : m / 2 ^ (l + 1) % 2 = 1 -> 2 ^ (l + 1) <= m := λ h => by
  rcases Nat.lt_or_ge m (2 ^ (l + 1)) with h3 | h3
  ·rw [Nat.div_eq_of_lt h3] at h; omega
  ·exact h3
 rcases Nat.mod_two_eq_zero_or_one (m / 2 ^ (l + 1)) with h | h
 ·rw [h]; simp
 ·have := hge h
  rw [h, if_neg (by omega)]
  congr 1
  omega
theorem zhl (x n : Int) (w : World) :
  Calls Tryz.prog 94 #[.int .i64 x, .int .i64 n] w λ e w' => e = .returned (.int .i64 (parI x n)) /\ Ext w w' := by
 rcases ho : ofI x n with _ | _
 ·have HP := Lib.hid (zto (.inl ho))
  have HO := Lib.hid ho
  clear ho
  go_enter Tryz.func94, Tryz.ntmps94
  go_wp2_with fail
  refine (zxk x n _).mono ?_
  rintro e w' ⟨rfl, rfl⟩
  rw [HO.out]
  go_wp2_with fail
  go_ret
  exact ⟨zb1 HP.out.symm, Ext.refl _⟩
 ·obtain ⟨b1, b2, b3, b4, b5⟩ := zr1 ho
  have HO := Lib.hid ho
  by_cases hr : x = n - 1
  ·have HP := Lib.hid (zto (.inr hr))
   have hr' : (x == n - 1) = true := by simpa using hr
   clear ho hr
   go_enter Tryz.func94, Tryz.ntmps94
   go_wp2_with fail
   refine (zxk x n _).mono ?_
   rintro e w' ⟨rfl, rfl⟩
   rw [HO.out]
   go_wp2_with fail
   go_ret
   exact ⟨zb1 HP.out.symm, Ext.refl _⟩
  ·have hr' : (x == n - 1) = false := by simpa using hr
   have HP : Hid (parI x n = (upN x.toNat : Int)) := Lib.hid (by simp [parI, ho, hr])
   obtain ⟨m, rfl⟩ := Int.eq_ofNat_of_zero_le b1
   rw [Int.toNat_natCast] at HP
   have hlv : lv m < 16 := by
    obtain ⟨d, hd, hd'⟩ := zdu (zib.1 ho).1
    have := z8r (m := m) hd (by omega) (by omega)
    omega
   have HL := Lib.hid (zmu (x := (m : Int)) (zcm.2 (by omega)))
   rw [Int.toNat_natCast] at HL
   obtain ⟨l, hl⟩ : ∃ l, l = lv m := ⟨_, rfl⟩
   rw [<- hl] at HL hlv
   have HLL := Lib.hid hl
   clear ho hr hl
   go_enter Tryz.func94, Tryz.ntmps94
   go_wp2_with fail
   refine (zxk m n _).mono ?_
   rintro e w' ⟨rfl, rfl⟩
   rw [HO.out]
   go_wp2_with fail
   refine (zkn m _).mono ?_
   rintro e w' ⟨rfl, rfl⟩
   rw [HL.out]
   go_wp2_with fail
   go_quiet (fail)
   go_wp2_with fail
   go_ret
   exact ⟨zb1 (by rw [HP.out]; exact z5i (by omega) HLL.out hlv), (Ext.refl _).drewN _⟩
theorem zym (x n : Int) (w : World) :
  Calls Tryz.prog 99 #[.int .i64 x, .int .i64 n] w λ e w' => e = .returned (.int .i64 (sibI x n)) /\ Ext w w' := by
 obtain ⟨p, hp⟩ : ∃ p, p = parI x n := ⟨_, rfl⟩
 have HP := Lib.hid hp
 by_cases h1 : p < 0
 ·have HS : Hid (sibI x n = -1) := Lib.hid (by simp [sibI, <- hp, h1])
  clear hp
  go_enter Tryz.func99, Tryz.ntmps99
  go_wp2_with fail
  refine (zhl x n _).mono ?_
  rintro e w1 ⟨rfl, hb⟩
  rw [<- HP.out]
  go_wp2_with fail
  go_ret
  exact ⟨zb1 HS.out.symm, hb⟩
 ·by_cases h2 : x < p
  ·have HS : Hid (sibI x n = za6 p) := Lib.hid (by simp [sibI, <- hp, h1, h2])
   clear hp
   go_enter Tryz.func99, Tryz.ntmps99
   go_wp2_with fail
   refine (zhl x n _).mono ?_
   rintro e w1 ⟨rfl, hb⟩
   rw [<- HP.out]
   go_wp2_with fail
   refine (ztp p _).mono ?_
   rintro e w2 ⟨rfl, rfl⟩
   go_wp2_with fail
   go_ret
   exact ⟨zb1 HS.out.symm, hb⟩
  ·have HS : Hid (sibI x n = zba p) := Lib.hid (by simp [sibI, <- hp, h1, h2])
   clear hp
   go_enter Tryz.func99, Tryz.ntmps99
   go_wp2_with fail
   refine (zhl x n _).mono ?_
   rintro e w1 ⟨rfl, hb⟩
   rw [<- HP.out]
   go_wp2_with fail
   refine (zx4 p _).mono ?_
   rintro e w2 ⟨rfl, rfl⟩
   go_wp2_with fail
   go_ret
   exact ⟨zb1 HS.out.symm, hb⟩
def zzv (x0 n : Int) (w : World) (k : Nat) (x l : Value) (wr : World) : Prop :=
 ∃ (y : Int) (done : List Int) (g : Option Nat), x = .int .i64 y /\ zbw x0 n = done ++ (if y < 0 then [] else y :: zd1 n k y) /\ (0 <= y -> 17 <= k + lvI y) /\ done.length + k <= 17 /\ OwI wr w.heap.size l done g /\ Ext w wr
theorem zxc (x n : Int) (w : World) :
  Calls Tryz.prog 55 #[.int .i64 x, .int .i64 n] w (Ret w λ w' v => ∃ g, OwI w' w.heap.size v (zbw x n) g) := by
 have HS : Hid (zzv x n w 16 (.int .i64 (parI x n)) (.slice none 0 0) w) := Lib.hid (by
  refine ⟨_, [], none, rfl, ?_, λ h => ?_, by simp, Ow.nil _ _ _ _, Ext.refl _⟩
  ·rw [List.nil_append, zbw, zd1]
  ·have := (zkk h).2.2; omega)
 go_enter Tryz.func55, Tryz.ntmps55
 go_wp2_with fail
 refine (zhl x n _).mono ?_
 rintro e w1 ⟨rfl, hb⟩
 go_wp2_with fail
 go_loopg [0, 5] 16 (λ k x0 l wr => zzv x n w k x0 l wr)
 case atStart =>
  obtain ⟨y, done, g, e1, e2, e3, e4, e5, e6⟩ := HS.out
  exact ⟨y, done, g, e1, e2, e3, e4, e5.ext hb, e6.trans hb⟩
 case round =>
  obtain ⟨y, done, g, rfl, e2, e3, e4, e5, e6⟩ := hrel
  have E2 := Lib.hid e2
  obtain ⟨a, c, rfl⟩ := e5.form
  clear e2
  by_cases hy : 0 <= y
  ·have hk : 1 <= gk := by have := e3 hy; have := zqr y; omega
   go_wp2_with (first | (at_builtin; refine zc5 ?_))
   refine zc9 (zgl rfl (.tmp 14) (.tmp 16) rfl rfl (e5.alloc _) rfl rfl (zr5 _ _ _) ?_ ?_ ?_)
   ·simp; omega
   ·have := e6.le; simp; omega
   intro a' c' g' w' h1 h2 h3
   have h4 := (e5.alloc _).grown h2 (e6.alloc _) (Nat.le_refl _)
   go_wp2_with fail
   refine (zhl y n _).mono ?_
   rintro e w2 ⟨rfl, hb2⟩
   go_wp2_with fail
   go_roundg (gk - 1)
   case measure => omega
   case rel =>
    refine ⟨_, _, g', rfl, ?_, λ h => ?_, ?_, h1.ext hb2, h4.trans hb2⟩
    ·rw [E2.out, if_neg (by omega), show gk = gk - 1 + 1 by omega, List.append_assoc]
     rfl
    ·have := (zkk h).2.2; have := e3 hy; omega
    ·simp; omega
  ·go_wp2_with fail
   go_ret
   exact ⟨_, rfl, e6, g, by rw [E2.out, if_pos (by omega), List.append_nil]; exact e5⟩
theorem zwp {n : Int} : ∀ (f : Nat) (x : Int), ∀ y ∈ zd1 n f x, ofI y n = true /\ 0 <= y /\ y <= 131070
 | 0, x, y, h => by cases h
 | f + 1, x, y, h => by
  unfold zd1 at h
  split at h
  ·cases h
  ·rename_i h0
   rcases List.mem_cons.1 h with h | h
   ·subst h
    have := (zkk (x := x) (n := n) (by omega)).2.1
    have hb := zr1 this
    exact ⟨this, hb.1, hb.2.1⟩
   ·exact zwp f _ y h
theorem zxa {x n : Int} {y : Int} (h : y ∈ zbw x n) : ofI y n = true /\ 0 <= y /\ y <= 131070 := zwp 17 x y h
theorem zuu {n : Int} : ∀ (f : Nat) (x : Int), (zd1 n f x).length <= f
 | 0, x => Nat.le_refl _
 | f + 1, x => by
  unfold zd1
  split
  ·exact Nat.zero_le _
  ·simp only [List.length_cons]; have := zuu (n := n) f (parI x n); omega
theorem zeq (x n : Int) : (zbw x n).length <= 17 := zuu 17 x
theorem z47 {x n : Int} : ∀ y ∈ zbw x n, I64 y := λ y h => by have := zxa h; exact ⟨by omega, by omega⟩
def zuo (x0 n : Int) (w : World) (k : Nat) (x l i : Value) (wr : World) : Prop :=
 ∃ (y : Int) (j : Nat) (done : List Int) (g : Option Nat), x = .int .i64 y /\ i = .int .i64 (j : Int) /\ j + k = 17 /\ j <= (zbw x0 n).length /\ (zbw x0 n).drop j = zd1 n k y /\ zbb x0 n = done ++ zds n k y /\ done.length = j /\
  OwI wr w.heap.size l done g /\ Ext w wr
theorem zyf {n y : Int} {k : Nat} {l : List Int} {j : Nat} (h : l.drop j = zd1 n k y) (hj : j < l.length) : ∃ k', k = k' + 1 /\ l[j] = parI y n /\ 0 <= parI y n /\ l.drop (j + 1) = zd1 n k' (parI y n) /\ zds n k y = sibI y n :: zds n k' (parI y n) := by
 rw [List.drop_eq_getElem_cons hj] at h
 cases k with
 | zero => cases h
 | succ k =>
  unfold zd1 at h
  split at h
  ·cases h
  ·rename_i h0
   injection h with h1 h2
   refine ⟨k, rfl, h1, by omega, h2, ?_⟩
   rw [zds, if_neg h0]
theorem z0l (x n : Int) (w : World) :
  Calls Tryz.prog 57 #[.int .i64 x, .int .i64 n] w (Ret w λ w' v => ∃ g, OwI w' w.heap.size v (zbb x n) g) := by
 have hlen := zeq x n
 go_enter Tryz.func57, Tryz.ntmps57
 go_wp2_with fail
 refine (zxc x n _).mono ?_
 rintro e w1 ⟨v, rfl, hb, g1, ho⟩
 obtain ⟨p, rfl, hp⟩ := ho.is_ z47
 clear ho
 have HS : Hid (zuo x n w1 17 (.int .i64 x) (.slice none 0 0) (.int .i64 (0 : Nat)) w1) := Lib.hid ⟨x, 0, [], none, rfl, rfl, rfl, Nat.zero_le _, rfl, rfl, rfl, Ow.nil _ _ _ _, Ext.refl _⟩
 obtain ⟨N, hN⟩ : ∃ N, N = (zbw x n).length := ⟨_, rfl⟩
 have HN := Lib.hid hN
 rw [<- hN] at hlen
 rw [<- hN]
 clear hN
 go_wp2_with fail
 go_loopg [0, 5, 12] 17 (λ k x0 l i wr => zuo x n w1 k x0 l i wr)
 case atStart => exact HS.out
 case round =>
  obtain ⟨y, j, done, g, rfl, rfl, e1, e2, e3, e4, e5, e6, e7⟩ := hrel
  have E3 := Lib.hid e3
  have E4 := Lib.hid e4
  have E5 := Lib.hid e5
  have E1 : gk + j <= 17 /\ 17 <= gk + j := by omega
  obtain ⟨a, c, rfl⟩ := e6.form
  rw [<- HN.out] at e2
  clear e1 e3 e4 e5
  by_cases hj : j < N
  ·have hj' : j < (zbw x n).length := by have := HN.out; omega
   obtain ⟨k', h1, h2, h3, h4, h5⟩ := zyf E3.out hj'
   obtain ⟨b, o, hpa, hcell⟩ := (hp.ext e7).at_ hj'
   rw [h2] at hcell
   have H1 := Lib.hid h1
   have H4 := Lib.hid h4
   have H5 := Lib.hid h5
   have HA := Lib.hid hpa
   rw [hpa]
   clear h1 h2 h4 h5 hpa
   go_wp2_with fail
   refine (zym y n _).mono ?_
   rintro e w2 ⟨rfl, hb2⟩
   go_wp2_with (first | (at_builtin; refine zc5 ?_))
   refine zc9 (zgl rfl (.tmp 16) (.tmp 20) rfl rfl ((e6.ext hb2).alloc _) rfl rfl (zr5 _ _ _) ?_ ?_ ?_)
   ·simp; have := E5.out; omega
   ·have := (e7.trans hb2).le; simp; omega
   intro a' c' g' w' r1 r2 r3
   have r4 := ((e6.ext hb2).alloc _).grown r2 ((e7.trans hb2).alloc _) (Nat.le_refl _)
   go_wp2_with fail
   rw [<- HA.out]
   have E5' := E5.out
   have H1' := H1.out
   go_roundg k'
   case measure => omega
   case rel =>
    refine ⟨_, j + 1, _, g', rfl, rfl, by omega, ?_, H4.out, ?_, by simp; omega, r1, r4⟩
    ·have := HN.out; omega
    ·rw [E4.out, H5.out, List.append_assoc]; rfl
  ·go_wp2_with fail
   go_ret
   refine ⟨_, rfl, hb.trans e7, g, OwI.base_mono ?_ hb.le⟩
   have h1 : (zbw x n).drop j = [] := List.drop_eq_nil_of_le (by have := HN.out; omega)
   rw [E3.out] at h1
   have h2 : zds n gk y = [] := by
    cases gk with
    | zero => rfl
    | succ k =>
     unfold zd1 at h1
     split at h1
     ·rename_i h3
      rw [zds, if_pos h3]
     ·cases h1
   rw [E4.out, h2, List.append_nil]
   exact e6
end Go.Proofs.YtpdllgbfemnemaaGreat
