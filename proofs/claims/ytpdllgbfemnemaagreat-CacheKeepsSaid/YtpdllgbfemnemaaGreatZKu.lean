import Derived.Test.YtpdllgbfemnemaaGreatZKi
import Derived.Test.YtpdllgbfemnemaaGreatZRefC
namespace Go.Proofs.YtpdllgbfemnemaaGreat.Sx
open Go.RowKit

abbrev U64 (n : Nat) : RV := .i .u64 (n : Int)
def us (l : List Nat) : RV := .sl 1 l.length (l.map U64)

theorem wrap_nat {x : Nat} (h : x < 18446744073709551616) : IntKind.u64.wrap (x : Int) = (x : Int) := by
  have : ((x : Int) % 18446744073709551616) = x := by omega
  simp only [IntKind.wrap]
  simp [IntKind.bits, IntKind.signed]
  omega
theorem Vint.u64 {e : Int} {K : Int → Prop} (n : Nat) (he : e = (n : Int)) (h : n < 18446744073709551616) (hK : K (n : Int)) : Vint .u64 e K := ⟨n, by rw [he, wrap_nat h], hK⟩
theorem Vquo.nat {a b : Int} {K : Int → Prop} (x y : Nat) (ha : a = (x : Int)) (hb : b = (y : Int)) (hy : 0 < y) (hx : x < 18446744073709551616) (hK : K ((x / y : Nat) : Int)) : Vquo .u64 a b K := by
  subst ha; subst hb
  refine ⟨by omega, _, ?_, hK⟩
  rw [Int.tdiv_eq_ediv_of_nonneg (by omega), ← Int.natCast_ediv, wrap_nat (Nat.lt_of_le_of_lt (Nat.div_le_self _ _) hx)]
theorem Vrem.nat {a b : Int} {K : Int → Prop} (x y : Nat) (ha : a = (x : Int)) (hb : b = (y : Int)) (hy : 0 < y) (hK : K ((x % y : Nat) : Int)) : Vrem a b K := by
  subst ha; subst hb
  refine ⟨by omega, _, ?_, hK⟩
  rw [Int.tmod_eq_emod_of_nonneg (by omega), ← Int.natCast_emod]
theorem Vint.u8 {e : Int} {K : Int → Prop} (n : Nat) (he : e = (n : Int)) (hK : K (((UInt8.ofNat n).toNat : Nat) : Int)) : Vint .u8 e K := by
  refine ⟨_, ?_, hK⟩
  subst he
  simp only [IntKind.wrap]
  simp [IntKind.bits, IntKind.signed]
theorem Vbits.xor {a b : Int} {K : Int → Prop} (x y : Nat) (ha : a = (x : Int)) (hb : b = (y : Int)) (hx : x < 18446744073709551616) (hy : y < 18446744073709551616) (hK : K ((x ^^^ y : Nat) : Int)) : Vbits .u64 .xor a b K := by
  subst ha; subst hb
  refine ⟨_, ?_, hK⟩
  have hxy : x ^^^ y < 18446744073709551616 := Nat.xor_lt_two_pow (n := 64) hx hy
  have e : ∀ z : Nat, z < 18446744073709551616 → (BitVec.ofInt 64 (z : Int)).toNat = z := fun z hz => by
    rw [BitVec.toNat_ofInt]; omega
  show ((x ^^^ y : Nat) : Int) = IntKind.u64.wrap (((BitVec.ofInt 64 (x : Int) ^^^ BitVec.ofInt 64 (y : Int)).toNat : Nat) : Int)
  rw [BitVec.toNat_xor, e x hx, e y hy, wrap_nat hxy]
theorem Vadr.mk' {i : Int} {n : Nat} {K : Nat → Prop} (j : Nat) (h : i = (j : Int)) (hj : j < n) (hK : K j) : Vadr i n K := by
  subst h
  exact ⟨by omega, by omega, by rw [Int.toNat_natCast]; exact hK⟩

theorem rotr_zero' {x : Nat} : rotr 0 x = x := by simp [rotr, Nat.mod_one]
theorem rotr_succ' {x i : Nat} (hi : i < 32) : rotr (i + 1) x = rotr i x / 2 + rotr i x % 2 * 2147483648 := by
  unfold rotr
  have h1 : x / 2 ^ (i + 1) = x / 2 ^ i / 2 := by rw [Nat.pow_succ, Nat.div_div_eq_div_mul]
  have h2 : x % 2 ^ (i + 1) = x % 2 ^ i + 2 ^ i * (x / 2 ^ i % 2) := by rw [Nat.pow_succ, Nat.mod_mul]
  have h3 : 2 ^ (32 - i) = 2 * 2 ^ (32 - (i + 1)) := by rw [show 32 - i = (32 - (i + 1)) + 1 by omega, Nat.pow_succ, Nat.mul_comm]
  have h4 : 2 ^ i * 2 ^ (32 - (i + 1)) = 2147483648 := by rw [← Nat.pow_add, show i + (32 - (i + 1)) = 31 by omega]
  rw [h1, h2, h3]
  generalize x / 2 ^ i = r
  generalize x % 2 ^ i = m
  generalize 2 ^ (32 - (i + 1)) = p at *
  generalize 2 ^ i = q at *
  have e1 : m * (2 * p) = 2 * (m * p) := by rw [Nat.mul_left_comm]
  have e2 : (m + q * (r % 2)) * p = m * p + r % 2 * 2147483648 := by
    rw [Nat.add_mul, ← h4, Nat.mul_comm q, Nat.mul_assoc]
  rw [e1, e2]
  omega
theorem rotr_lt' {x : Nat} (hx : x < 4294967296) : ∀ {n : Nat}, n ≤ 31 → rotr n x < 4294967296
  | 0, _ => by rw [rotr_zero']; exact hx
  | n + 1, h => rotr_lt hx (by omega) h
theorem g_turn (x n : Nat) (hx : x < 4294967296) (hn : n ≤ 31) : Gives Tryz.prog 162 [U64 x, I n] (.r (U64 (rotr n x))) := by
  refine gives_of_vcg (T := Tab) mixed Tab_ok Tryz.func162 rfl (by kernel_rfl) ?_
  refine Vloop.mk' (fun j : Nat => { F := [(0, .r (U64 (rotr j x))), (1, .r (I n)), (5, .r (I j))], O := [], nx := 0 }) (fun j => j ≤ n) (fun j => n - j) 0 (by omega) (sub_of [] rfl ⟨Cv.of_eq (by rw [rotr_zero']), Cv.refl _, Cv.refl _, trivial⟩ trivial) ?_
  intro j hj
  refine Vcmp.split (fun h => Vif.t ?_) (fun h => Vif.f ?_)
  · simp only [beq_iff_eq, bne_iff_ne, beq_eq_false_iff_ne, bne_eq_false_iff_eq, decide_eq_true_eq, decide_eq_false_iff_not, Bool.not_eq_true', Bool.not_eq_false', ne_eq] at h
    have hr := rotr_lt' hx (show j ≤ 31 by omega)
    refine Vquo.nat (rotr j x) 2 rfl rfl (by omega) (by omega) ?_
    refine Vrem.nat (rotr j x) 2 rfl rfl (by omega) ?_
    refine Vint.u64 (rotr j x % 2 * 2147483648) (by omega) (by omega) ?_
    refine Vint.u64 (rotr j x / 2 + rotr j x % 2 * 2147483648) (by omega) (by omega) ?_
    refine Vint.i64 (m := ((j + 1 : Nat) : Int)) (by omega) (by omega) ?_
    exact ⟨j + 1, by omega, by omega, sub_of [] rfl ⟨Cv.of_eq (by rw [rotr_succ' (by omega)]), Cv.refl _, Cv.refl _, trivial⟩ trivial⟩
  · simp only [beq_iff_eq, bne_iff_ne, beq_eq_false_iff_ne, bne_eq_false_iff_eq, decide_eq_true_eq, decide_eq_false_iff_not, Bool.not_eq_true', Bool.not_eq_false', ne_eq] at h
    obtain rfl : j = n := by omega
    exact Cv.refl _
theorem g_shift (x n : Nat) (hx : x < 4294967296) (hn : n ≤ 31) : Gives Tryz.prog 163 [U64 x, I n] (.r (U64 (x / 2 ^ n))) := by
  refine gives_of_vcg (T := Tab) mixed Tab_ok Tryz.func163 rfl (by kernel_rfl) ?_
  refine Vloop.mk' (fun j : Nat => { F := [(0, .r (U64 (x / 2 ^ j))), (1, .r (I n)), (5, .r (I j))], O := [], nx := 0 }) (fun j => j ≤ n) (fun j => n - j) 0 (by omega) (sub_of [] rfl ⟨Cv.of_eq (by simp), Cv.refl _, Cv.refl _, trivial⟩ trivial) ?_
  intro j hj
  refine Vcmp.split (fun h => Vif.t ?_) (fun h => Vif.f ?_)
  · simp only [beq_iff_eq, bne_iff_ne, beq_eq_false_iff_ne, bne_eq_false_iff_eq, decide_eq_true_eq, decide_eq_false_iff_not, Bool.not_eq_true', Bool.not_eq_false', ne_eq] at h
    have hr := Nat.div_le_self x (2 ^ j)
    refine Vquo.nat (x / 2 ^ j) 2 rfl rfl (by omega) (by omega) ?_
    refine Vint.i64 (m := ((j + 1 : Nat) : Int)) (by omega) (by omega) ?_
    exact ⟨j + 1, by omega, by omega, sub_of [] rfl ⟨Cv.of_eq (by rw [Nat.pow_succ, Nat.div_div_eq_div_mul]), Cv.refl _, Cv.refl _, trivial⟩ trivial⟩
  · simp only [beq_iff_eq, bne_iff_ne, beq_eq_false_iff_ne, bne_eq_false_iff_eq, decide_eq_true_eq, decide_eq_false_iff_not, Bool.not_eq_true', Bool.not_eq_false', ne_eq] at h
    obtain rfl : j = n := by omega
    exact Cv.refl _
theorem g_table : Gives Tryz.prog 124 [] (.r (.tu [us h0Tab.list, us kTab])) := by
  refine gives_of_vcg (T := Tab) mixed Tab_ok Tryz.func124 rfl (by kernel_rfl) ?_
  refine Vpub.pub ?_
  refine Vpub.pub ?_
  exact ⟨_, rfl, Cv.refl _⟩
end Go.Proofs.YtpdllgbfemnemaaGreat.Sx
