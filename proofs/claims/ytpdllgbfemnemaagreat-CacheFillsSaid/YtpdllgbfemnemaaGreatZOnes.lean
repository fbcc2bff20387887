import Derived.Laws.BitsAllLaws
namespace Go.Proofs.YtpdllgbfemnemaaGreat
set_option linter.unusedVariables false
section
def lvF : Nat -> Nat -> Nat
 | 0, _ => 0
 | f + 1, x => if x % 2 = 1 then lvF f (x / 2) + 1 else 0
def lv (x : Nat) : Nat := lvF 17 x
def nd (h k : Nat) : Nat := k * 2 ^ (h + 1) + 2 ^ h - 1
theorem zag (n : Nat) : 0 < 2 ^ n := Nat.pow_pos (by omega)
theorem z2j : ∀ (f x : Nat), x < 2 ^ f - 1 -> lvF f x < f /\ x % 2 ^ (lvF f x) = 2 ^ (lvF f x) - 1 /\ x / 2 ^ (lvF f x) % 2 = 0
 | 0, x, h => by simp at h
 | f + 1, x, h => by
  have hp := zag f
  have e : 2 ^ (f + 1) = 2 * 2 ^ f := by rw [Nat.pow_succ]; omega
  unfold lvF
  by_cases hx : x % 2 = 1
  ·rw [if_pos hx]
   have ih := z2j f (x / 2) (by omega)
   generalize lvF f (x / 2) = l at ih
   have hl := zag l
   refine ⟨by omega, ?_, ?_⟩
   ·rw [Nat.pow_succ, Nat.mul_comm, Nat.mod_mul, ih.2.1]; omega
   ·rw [Nat.pow_succ, Nat.mul_comm, <- Nat.div_div_eq_div_mul]; exact ih.2.2
  ·rw [if_neg hx]
   refine ⟨by omega, by simp; omega, by simp; omega⟩
theorem zgb {x : Nat} (h : x <= 131070) : lv x <= 16 /\ x % 2 ^ (lv x) = 2 ^ (lv x) - 1 /\ x / 2 ^ (lv x) % 2 = 0 := by
 have := z2j 17 x (by omega)
 exact ⟨by unfold lv; omega, this.2⟩
theorem z1c {x : Nat} (h : x <= 131070) : x = nd (lv x) (x / 2 ^ (lv x + 1)) := by
 obtain ⟨_, h1, h2⟩ := zgb h
 generalize lv x = l at *
 have hp := zag l
 unfold nd
 have e1 : x / 2 ^ (l + 1) = x / 2 ^ l / 2 := by rw [Nat.pow_succ, Nat.div_div_eq_div_mul]
 have e2 := Nat.div_add_mod x (2 ^ l)
 have e3 := Nat.div_add_mod (x / 2 ^ l) 2
 rw [e1]
 rw [h1] at e2
 rw [h2] at e3
 generalize x / 2 ^ l / 2 = k at *
 have e4 : k * 2 ^ (l + 1) = 2 ^ l * (2 * k) := by rw [Nat.pow_succ, Nat.mul_comm (2 ^ l) 2, <- Nat.mul_assoc, Nat.mul_comm, Nat.mul_comm k 2]
 rw [e4]
 have e5 : 2 * k = x / 2 ^ l := by omega
 rw [e5]
 omega
theorem z4w : ∀ (f h k : Nat), h < f -> lvF f (nd h k) = h
 | 0, h, k, hh => by omega
 | f + 1, 0, k, _ => by unfold lvF nd; simp
 | f + 1, h + 1, k, hh => by
  have hp := zag h
  have e : nd (h + 1) k = 2 * nd h k + 1 := by
   unfold nd
   rw [Nat.pow_succ 2 (h + 1), Nat.pow_succ 2 h, <- Nat.mul_assoc]
   omega
  unfold lvF
  rw [e, if_pos (by omega), show (2 * nd h k + 1) / 2 = nd h k by omega, z4w f h k (by omega)]
theorem zo0 {h k : Nat} (hh : h <= 16) : lv (nd h k) = h := z4w 17 h k (by omega)
theorem z8k (h k : Nat) : nd (h + 1) k = 2 * nd h k + 1 := by
 have hp := zag h
 unfold nd
 rw [Nat.pow_succ 2 (h + 1), Nat.pow_succ 2 h, <- Nat.mul_assoc]
 omega
theorem zen (k : Nat) : nd 0 k = 2 * k := by unfold nd; simp; omega
def fitsL : List Int := [1, 2, 4, 8, 16, 32, 64, 128, 256, 512, 1024, 2048, 4096, 8192, 16384, 32768, 65536]
def zau (n : Int) : Bool := fitsL.contains n
theorem zdu {n : Int} (h : zau n = true) : ∃ d, d <= 16 /\ n = ((2 ^ d : Nat) : Int) := by
 unfold zau fitsL at h
 simp at h
 rcases h with h | h | h | h | h | h | h | h | h | h | h | h | h | h | h | h | h
 ·exact ⟨0, by omega, by simpa using h⟩
 ·exact ⟨1, by omega, by simpa using h⟩
 ·exact ⟨2, by omega, by simpa using h⟩
 ·exact ⟨3, by omega, by simpa using h⟩
 ·exact ⟨4, by omega, by simpa using h⟩
 ·exact ⟨5, by omega, by simpa using h⟩
 ·exact ⟨6, by omega, by simpa using h⟩
 ·exact ⟨7, by omega, by simpa using h⟩
 ·exact ⟨8, by omega, by simpa using h⟩
 ·exact ⟨9, by omega, by simpa using h⟩
 ·exact ⟨10, by omega, by simpa using h⟩
 ·exact ⟨11, by omega, by simpa using h⟩
 ·exact ⟨12, by omega, by simpa using h⟩
 ·exact ⟨13, by omega, by simpa using h⟩
 ·exact ⟨14, by omega, by simpa using h⟩
 ·exact ⟨15, by omega, by simpa using h⟩
 ·exact ⟨16, by omega, by simpa using h⟩
theorem zex : ∀ d, d <= 16 -> zau ((2 ^ d : Nat) : Int) = true := by decide +kernel
theorem zd5 {n : Int} (h : zau n = true) : 1 <= n /\ n <= 65536 := by
 obtain ⟨d, hd, rfl⟩ := zdu h
 have h1 := zag d
 have h2 : 2 ^ d <= 2 ^ 16 := Nat.pow_le_pow_right (by omega) hd
 omega
def za5 (x : Int) : Bool := decide (0 <= x) && decide (x <= 131070)
def ofI (x n : Int) : Bool := zau n && (decide (0 <= x) && decide (x <= 2 * n - 2))
theorem zcm {x : Int} : za5 x = true ↔ 0 <= x /\ x <= 131070 := by simp [za5]
theorem zib {x n : Int} : ofI x n = true ↔ zau n = true /\ 0 <= x /\ x <= 2 * n - 2 := by simp [ofI]
def lvI (x : Int) : Int := if za5 x then (lv x.toNat : Int) else -1
def zdb (x : Int) : Int := if 0 < lvI x then 2 ^ (lvI x - 1).toNat else 0
def zba (x : Int) : Int := if zdb x = 0 then -1 else x - zdb x
def za6 (x : Int) : Int := if zdb x = 0 then -1 else x + zdb x
def zga (n : Int) : Int := if zau n then n - 1 else -1
def upN (x : Nat) : Nat := if x / 2 ^ (lv x + 1) % 2 = 0 then x + 2 ^ lv x else x - 2 ^ lv x
def parI (x n : Int) : Int := if ofI x n && decide (x ≠ n - 1) then (upN x.toNat : Int) else -1
def sibI (x n : Int) : Int := if parI x n < 0 then -1 else if x < parI x n then za6 (parI x n) else zba (parI x n)
def zd1 (n : Int) : Nat -> Int -> List Int
 | 0, _ => []
 | f + 1, x => if parI x n < 0 then [] else parI x n :: zd1 n f (parI x n)
def zbw (x n : Int) : List Int := zd1 n 17 x
def zds (n : Int) : Nat -> Int -> List Int
 | 0, _ => []
 | f + 1, x => if parI x n < 0 then [] else sibI x n :: zds n f (parI x n)
def zbb (x n : Int) : List Int := zds n 17 x
def zoz (y : Int) : Int := 2 ^ (lvI y).toNat - 1
def zar (x y : Int) : Bool := (za5 x && za5 y) && (decide (y - zoz y <= x) && decide (x <= y + zoz y))
theorem zi5 {x y : Int} : zar x y = true ↔ (za5 x = true /\ za5 y = true) /\ y - zoz y <= x /\ x <= y + zoz y := by
 simp only [zar, Bool.and_eq_true, decide_eq_true_eq]
theorem zqa (y : Int) : zoz y = 2 ^ (lvI y).toNat - 1 := rfl
theorem zqr (x : Int) : -1 <= lvI x /\ lvI x <= 16 := by
 unfold lvI
 split
 ·rename_i h
  rw [zcm] at h
  have := (zgb (x := x.toNat) (by omega)).1
  omega
 ·omega
theorem zmu {x : Int} (h : za5 x = true) : lvI x = lv x.toNat := by simp [lvI, h]
theorem zxe {x : Int} (h : za5 x = false) : lvI x = -1 := by simp [lvI, h]
theorem z92 {h k : Nat} (hh : h + 1 <= 16) : upN (nd h k) = nd (h + 1) (k / 2) := by
 have hp := zag h
 unfold upN
 rw [zo0 (by omega)]
 have e1 : nd h k / 2 ^ (h + 1) = k := by
  unfold nd
  have : 2 ^ h < 2 ^ (h + 1) := by rw [Nat.pow_succ]; omega
  rw [Nat.add_sub_assoc (by omega), Nat.add_comm, Nat.add_mul_div_right _ _ (zag _), Nat.div_eq_of_lt (by omega)]
  omega
 rw [e1]
 unfold nd
 rw [Nat.pow_succ 2 (h + 1), Nat.pow_succ 2 h]
 generalize 2 ^ h = q at *
 split
 ·rename_i hk
  have : k = 2 * (k / 2) := by omega
  generalize k / 2 = j at *
  subst this
  rw [show 2 * j * (q * 2) = j * (q * 2 * 2) by rw [Nat.mul_comm 2 j, Nat.mul_assoc, Nat.mul_comm 2]]
  omega
 ·rename_i hk
  have : k = 2 * (k / 2) + 1 := by omega
  generalize k / 2 = j at *
  subst this
  rw [Nat.add_mul, show 2 * j * (q * 2) = j * (q * 2 * 2) by rw [Nat.mul_comm 2 j, Nat.mul_assoc, Nat.mul_comm 2]]
  omega
theorem z3s {a j : Nat} (h : a / 2 ^ j % 2 = 0) : a ||| 2 ^ j = a + 2 ^ j := by
 have hp := zag j
 have e3 : a = a / 2 ^ (j + 1) * 2 ^ (j + 1) + a % 2 ^ j := by
  have e4 := Nat.div_add_mod a (2 ^ j)
  have e5 : a / 2 ^ (j + 1) = a / 2 ^ j / 2 := by rw [Nat.pow_succ, Nat.div_div_eq_div_mul]
  have e6 : a / 2 ^ (j + 1) * 2 ^ (j + 1) = 2 ^ j * (2 * (a / 2 ^ j / 2)) := by rw [e5, Nat.pow_succ, Nat.mul_comm, Nat.mul_assoc]
  rw [e6, show 2 * (a / 2 ^ j / 2) = a / 2 ^ j by omega]
  omega
 have hlt : a % 2 ^ j < 2 ^ j := Nat.mod_lt _ hp
 have hs : 2 ^ (j + 1) = 2 * 2 ^ j := by rw [Nat.pow_succ]; omega
 have hq : (a / 2 ^ (j + 1) * 2 ^ (j + 1)) % 2 ^ (j + 1) = 0 := by simp
 generalize a / 2 ^ (j + 1) * 2 ^ (j + 1) = q at *
 generalize a % 2 ^ j = r at *
 have e7 : q ||| r = q + r := nat_join (j + 1) q r hq (by omega)
 have e8 : r ||| 2 ^ j = 2 ^ j + r := by rw [Nat.or_comm]; exact nat_join j _ _ (by simp) hlt
 have e9 : q ||| (2 ^ j + r) = q + (2 ^ j + r) := nat_join (j + 1) q _ hq (by omega)
 rw [e3, <- e7, Nat.or_assoc, e8, e9, e7]
 omega
theorem z2l {a j : Nat} (ha : a < 2 ^ 64) (hj : j < 64) : a &&& (2 ^ 64 - (2 ^ j + 1)) = a - a / 2 ^ j % 2 * 2 ^ j := by
 have hjj : 2 ^ j < 2 ^ 64 := Nat.pow_lt_pow_right (by omega) hj
 have key : ∀ b : Nat, b < 2 ^ 64 -> b / 2 ^ j % 2 = 0 -> b &&& (2 ^ 64 - (2 ^ j + 1)) = b := by
  intro b hb h0
  apply Nat.eq_of_testBit_eq
  intro i
  rw [Nat.testBit_and, Nat.testBit_two_pow_sub_succ hjj, Nat.testBit_two_pow]
  by_cases hi : i < 64
  ·by_cases hij : j = i
   ·subst hij
    simp [Nat.testBit_eq_decide_div_mod_eq, h0]
   ·simp [hij, hi]
  ·have : b.testBit i = false := Nat.testBit_lt_two_pow (Nat.lt_of_lt_of_le hb (Nat.pow_le_pow_right (by omega) (by omega)))
   simp [this]
 have hp := zag j
 rcases Nat.mod_two_eq_zero_or_one (a / 2 ^ j) with h | h
 ·rw [h, key a ha h]; omega
 ·have hge : 2 ^ j <= a := by
   rcases Nat.lt_or_ge a (2 ^ j) with hl | hl
   ·rw [Nat.div_eq_of_lt hl] at h; omega
   ·exact hl
  have h0 : (a - 2 ^ j) / 2 ^ j % 2 = 0 := by
   have : (a - 2 ^ j) / 2 ^ j = a / 2 ^ j - 1 := by have := Nat.sub_mul_div a (2 ^ j) 1; rwa [Nat.mul_one] at this
   omega
  have e : a = (a - 2 ^ j) ||| 2 ^ j := by rw [z3s h0]; omega
  have := key (a - 2 ^ j) (by omega) h0
  rw [h, Nat.one_mul]
  conv => lhs; rw [e]
  rw [Nat.and_or_distrib_right, this]
  have h2 : 2 ^ j &&& (2 ^ 64 - (2 ^ j + 1)) = 0 := by
   apply Nat.eq_of_testBit_eq
   intro i
   rw [Nat.testBit_and, Nat.testBit_two_pow_sub_succ hjj, Nat.testBit_two_pow]
   by_cases hij : j = i <;> simp [hij]
  rw [h2, Nat.or_zero]
theorem z14 {h k d : Nat} (hd : h <= d) : nd h k <= 2 * 2 ^ d - 2 ↔ k < 2 ^ (d - h) := by
 have hp := zag h
 have hq := zag (d - h)
 have e : 2 ^ d = 2 ^ h * 2 ^ (d - h) := by rw [<- Nat.pow_add]; congr 1; omega
 unfold nd
 rw [e, Nat.pow_succ]
 generalize 2 ^ h = q at *
 generalize 2 ^ (d - h) = Q at *
 have e1 : k * (q * 2) = 2 * (q * k) := by rw [<- Nat.mul_assoc, Nat.mul_comm k q, Nat.mul_comm]
 rw [e1]
 constructor
 ·intro h1
  rcases Nat.lt_or_ge k Q with h2 | h2
  ·exact h2
  ·have := Nat.mul_le_mul_left q h2
   have : q * 1 <= q * Q := Nat.mul_le_mul_left q hq
   omega
 ·intro h1
  have := Nat.mul_le_mul_left q (show k + 1 <= Q from h1)
  rw [Nat.mul_add] at this
  omega
theorem zh1 {x n : Int} (h : ofI x n = true) : ∃ d h k, d <= 16 /\ n = ((2 ^ d : Nat) : Int) /\ h <= d /\ k < 2 ^ (d - h) /\ x = (nd h k : Int) := by
 rw [zib] at h
 obtain ⟨d, hd, hn⟩ := zdu h.1
 obtain ⟨m, rfl⟩ := Int.eq_ofNat_of_zero_le h.2.1
 have h16 : 2 ^ d <= 2 ^ 16 := Nat.pow_le_pow_right (by omega) hd
 have hm : m <= 2 * 2 ^ d - 2 := by omega
 have hf := z1c (x := m) (by omega)
 have hl : lv m <= d := by
  rcases Nat.lt_or_ge d (lv m) with h1 | h1
  ·exfalso
   have h2 : 2 ^ (d + 1) <= 2 ^ lv m := Nat.pow_le_pow_right (by omega) h1
   rw [Nat.pow_succ] at h2
   have hp := zag d
   have : 2 ^ lv m - 1 <= m := by
    conv => rhs; rw [hf]
    unfold nd
    omega
   omega
  ·exact h1
 refine ⟨d, lv m, m / 2 ^ (lv m + 1), hd, hn, hl, ?_, by rw [<- hf]⟩
 rw [<- z14 hl, <- hf]; exact hm
theorem z1b {d h k : Nat} (hd : d <= 16) (hh : h <= d) (hk : k < 2 ^ (d - h)) : ofI (nd h k : Int) ((2 ^ d : Nat) : Int) = true := by
 rw [zib]
 have := (z14 hh).2 hk
 exact ⟨zex d hd, by omega, by have := zag d; omega⟩
theorem zyt {d h k : Nat} (hd : d <= 16) (hh : h <= d) (hk : k < 2 ^ (d - h)) : nd h k <= 131070 := by
 have := (z14 hh).2 hk
 have h16 : 2 ^ d <= 2 ^ 16 := Nat.pow_le_pow_right (by omega) hd
 omega
theorem zew {d h k : Nat} (hd : d <= 16) (hh : h <= d) (hk : k < 2 ^ (d - h)) : za5 (nd h k : Int) = true := by
 have := zyt hd hh hk
 rw [zcm]; omega
theorem zob {d h k : Nat} (hd : d <= 16) (hh : h <= d) (hk : k < 2 ^ (d - h)) : lvI (nd h k : Int) = h := by
 rw [zmu (zew hd hh hk), Int.toNat_natCast, zo0 (by omega)]
theorem zfo (d : Nat) : (nd d 0 : Int) = ((2 ^ d : Nat) : Int) - 1 := by
 have := zag d
 unfold nd; omega
theorem zgk {h k h' k' : Nat} (hh : h <= 16) (hh' : h' <= 16) (e : nd h k = nd h' k') : h = h' /\ k = k' := by
 have h1 : h = h' := by rw [<- zo0 (h := h) (k := k) hh, <- zo0 (h := h') (k := k') hh', e]
 subst h1
 refine ⟨rfl, ?_⟩
 unfold nd at e
 have hp := zag h
 have : k * 2 ^ (h + 1) = k' * 2 ^ (h + 1) := by omega
 exact Nat.eq_of_mul_eq_mul_right (zag _) this
theorem zjd {d h k : Nat} (hd : d <= 16) (hh : h < d) (hk : k < 2 ^ (d - h)) : parI (nd h k : Int) ((2 ^ d : Nat) : Int) = (nd (h + 1) (k / 2) : Int) := by
 have hne : (nd h k : Int) ≠ ((2 ^ d : Nat) : Int) - 1 := by
  rw [<- zfo]
  intro e
  have := (zgk (by omega) hd (Int.ofNat.inj e)).1
  omega
 unfold parI
 rw [z1b hd (by omega) hk, Int.toNat_natCast, z92 (by omega), Bool.true_and, if_pos (by rw [decide_eq_true_eq]; exact hne)]
theorem ziy {d : Nat} : parI (nd d 0 : Int) ((2 ^ d : Nat) : Int) = -1 := by
 unfold parI
 rw [zfo]; simp
theorem zlm {d h k : Nat} (hh : h < d) (hk : k < 2 ^ (d - h)) : k / 2 < 2 ^ (d - (h + 1)) := by
 have e : 2 ^ (d - h) = 2 * 2 ^ (d - (h + 1)) := by
  rw [show d - h = d - (h + 1) + 1 by omega, Nat.pow_succ]; omega
 omega
theorem zkk {x n : Int} (h : 0 <= parI x n) : ofI x n = true /\ ofI (parI x n) n = true /\ lvI (parI x n) = lvI x + 1 /\ 0 <= lvI x := by
 have ho : ofI x n = true := by
  unfold parI at h
  split at h
  ·rename_i h1; simp at h1; exact h1.1
  ·omega
 obtain ⟨d, l, k, hd, rfl, hh, hk, rfl⟩ := zh1 ho
 rcases Nat.lt_or_ge l d with hlt | hge
 ·rw [zjd hd hlt hk] at *
  exact ⟨ho, z1b hd (by omega) (zlm hlt hk), by rw [zob hd (by omega) (zlm hlt hk), zob hd hh hk]; rfl, by rw [zob hd hh hk]; omega⟩
 ·obtain rfl : l = d := by omega
  have : k = 0 := by simpa using hk
  subst this
  rw [ziy] at h
  omega
end
section
def beB : Nat -> Nat -> List UInt8
 | 0, _ => []
 | s + 1, n => UInt8.ofNat (n / 256 ^ s) :: beB s n
theorem zbj : ∀ (s n : Nat), (beB s n).length = s
 | 0, _ => rfl
 | s + 1, n => by rw [beB, List.length_cons, zbj s n]
def lenB (n : Nat) : List UInt8 := if n < 64 then beB 1 n else if n < 16384 then beB 2 (16384 + n) else beB 4 (2147483648 + n)
def zcf (n : Nat) : Nat := if n < 64 then 1 else if n < 16384 then 2 else 4
theorem zhy (n : Nat) : (lenB n).length = zcf n := by
 unfold lenB zcf
 split
 ·exact zbj _ _
 ·split <;> exact zbj _ _
theorem zjl (n : Nat) : 1 <= zcf n /\ zcf n <= 4 := by unfold zcf; split <;> (try split) <;> omega
def vecB (v : List UInt8) : List UInt8 := lenB v.length ++ v
theorem zqe (v : List UInt8) : (vecB v).length = zcf v.length + v.length := by rw [vecB, List.length_append, zhy]
theorem za9 (v : List UInt8) : (vecB v).length <= v.length + 4 := by rw [zqe]; have := zjl v.length; omega
theorem zp7 (n : Nat) : ((UInt8.ofNat n).toNat : Int) = (n : Int) % 256 := by rw [UInt8.toNat_ofNat']; omega
theorem z3y (i : Nat) : 2 ^ (8 * i) = 256 ^ i := by rw [Nat.pow_mul]
end
section
def on6 (f : Nat) : Nat := Nat.land (Nat.add f (Nat.div f 4294967296)) 127
def on5 (e : Nat) : Nat := on6 (Nat.add e (Nat.div e 65536))
def on4 (d : Nat) : Nat := on5 (Nat.add d (Nat.div d 256))
def on3 (b : Nat) : Nat := on4 (Nat.land (Nat.add (Nat.div b 16) b) 1085102592571150095)
def on2 (a : Nat) : Nat := on3 (Nat.add (Nat.land (Nat.div a 4) 3689348814741910323) (Nat.land a 3689348814741910323))
def zr3 (n : Nat) : Nat := on2 (Nat.add (Nat.land (Nat.div n 2) 6148914691236517205) (Nat.land n 6148914691236517205))
def pwN (n : Nat) : Bool := Nat.beq (Nat.land n (Nat.sub n 1)) 0
def beqB : Bool -> Bool -> Bool
 | true, b => b
 | false, true => false
 | false, false => true
def z4k (n : Nat) : Bool := beqB (Nat.beq (zr3 n) 1) (pwN n)
def upTo (p : Nat -> Bool) : Nat -> Bool
 | 0 => true
 | n + 1 => match p (n + 1) with | true => upTo p n | false => false
theorem zsv {p : Nat -> Bool} : ∀ {n : Nat}, upTo p n = true -> ∀ i, i < n -> p (i + 1) = true
 | 0, _, i, h => by omega
 | n + 1, h, i, hi => by
  unfold upTo at h
  split at h
  ·by_cases e : i = n
   ·subst e; assumption
   ·exact zsv h i (by omega)
  ·cases h
theorem zyr : upTo (λ k => upTo (λ i => z4k (Nat.add (Nat.mul 2048 (Nat.sub k 1)) i)) 2048) 32 = true := by decide +kernel
theorem z7z {n : Nat} (h1 : 1 <= n) (h2 : n <= 65536) : z4k n = true := by
 have h := zsv zyr ((n - 1) / 2048) (by omega)
 have h' := zsv h ((n - 1) % 2048) (by omega)
 have e : Nat.add (Nat.mul 2048 (Nat.sub ((n - 1) / 2048 + 1) 1)) ((n - 1) % 2048 + 1) = n := by
  show 2048 * ((n - 1) / 2048 + 1 - 1) + ((n - 1) % 2048 + 1) = n
  omega
 rw [e] at h'
 exact h'
theorem z78 {a b : Bool} (h : beqB a b = true) : a = b := by cases a <;> cases b <;> simp [beqB] at *
theorem z9g {n : Nat} (h1 : 1 <= n) (h2 : n <= 65536) (h : n &&& (n - 1) = 0) : ∃ d, d <= 16 /\ n = 2 ^ d := by
 obtain ⟨hl, _, _⟩ := zgb (x := n - 1) (by omega)
 have hn := z1c (x := n - 1) (by omega)
 generalize lv (n - 1) = l at *
 generalize (n - 1) / 2 ^ (l + 1) = k at hn
 have hp := zag l
 have hp1 := zag (l + 1)
 have hlt : 2 ^ l < 2 ^ (l + 1) := by rw [Nat.pow_succ]; omega
 unfold nd at hn
 have e1 : n = k * 2 ^ (l + 1) + 2 ^ l := by omega
 have d1 : n / 2 ^ (l + 1) = k := by
  rw [e1, Nat.add_comm, Nat.add_mul_div_right _ _ hp1, Nat.div_eq_of_lt (by omega)]; omega
 have d2 : (n - 1) / 2 ^ (l + 1) = k := by
  rw [hn, Nat.add_sub_assoc (by omega), Nat.add_comm, Nat.add_mul_div_right _ _ hp1, Nat.div_eq_of_lt (by omega)]; omega
 have := Nat.and_div_two_pow (a := n) (b := n - 1) (n := l + 1)
 rw [h, d1, d2, Nat.and_self, Nat.zero_div] at this
 subst this
 exact ⟨l, hl, by omega⟩
theorem z9f : ∀ d, d <= 16 -> pwN (2 ^ d) = true := by decide +kernel
theorem z6t {n : Nat} (h1 : 1 <= n) (h2 : n <= 65536) : (zr3 n = 1) ↔ zau (n : Int) = true := by
 have h := z78 (z7z h1 h2)
 constructor
 ·intro h3
  rw [h3] at h
  have h4 : n &&& (n - 1) = 0 := Nat.eq_of_beq_eq_true (h.symm.trans rfl)
  obtain ⟨d, hd, rfl⟩ := z9g h1 h2 h4
  exact zex d hd
 ·intro h3
  obtain ⟨d, hd, e⟩ := zdu h3
  have e' : n = 2 ^ d := by omega
  rw [e', z9f d hd] at h
  rw [e']
  exact Nat.eq_of_beq_eq_true h
end
end Go.Proofs.YtpdllgbfemnemaaGreat
