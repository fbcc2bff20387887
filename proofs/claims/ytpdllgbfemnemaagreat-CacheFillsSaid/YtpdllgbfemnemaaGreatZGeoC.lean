import Derived.Test.YtpdllgbfemnemaaGreatZOnes
namespace Go.Proofs.YtpdllgbfemnemaaGreat
set_option linter.unusedVariables false
section
structure D3 where
 at_ : Int
 lo : Int
 hi : Int
def zf5 (x : Int) : Nat -> Int -> Int -> List D3
 | 0, _, _ => []
 | f + 1, lo, hi => ⟨(lo + hi) / 2, lo, hi⟩ :: (if (lo + hi) / 2 = x then [] else if x < (lo + hi) / 2 then zf5 x f lo ((lo + hi) / 2 - 1) else zf5 x f ((lo + hi) / 2 + 1) hi)
def zc3 (x n : Int) : List D3 := if ofI x n then zf5 x 17 0 (2 * n - 2) else []
def trip (h k : Nat) : D3 := ⟨(nd h k : Int), ((k * 2 ^ (h + 1) : Nat) : Int), ((k * 2 ^ (h + 1) + 2 ^ (h + 1) - 2 : Nat) : Int)⟩
def upT : Nat -> Nat -> Nat -> List D3
 | 0, h, k => [trip h k]
 | m + 1, h, k => trip h k :: upT m (h + 1) (k / 2)
theorem zpw : ∀ (m h k : Nat), upT (m + 1) h k = upT m h k ++ [trip (h + (m + 1)) (k / 2 ^ (m + 1))]
 | 0, h, k => by simp [upT]
 | m + 1, h, k => by
  rw [upT, zpw m (h + 1) (k / 2), <- List.cons_append]
  congr 2
  rw [Nat.div_div_eq_div_mul, <- Nat.pow_succ', show h + 1 + (m + 1) = h + (m + 1 + 1) by omega]
theorem zls : ∀ (m h k : Nat), (upT m h k).length = m + 1
 | 0, _, _ => rfl
 | m + 1, h, k => by rw [upT, List.length_cons, zls]
theorem z2c (h k i : Nat) : (k / 2 ^ i) * 2 ^ (h + i + 1) <= nd h k /\ nd h k + 2 <= (k / 2 ^ i) * 2 ^ (h + i + 1) + 2 ^ (h + i + 1) := by
 have hp := zag h
 have e1 : 2 ^ (h + i + 1) = 2 ^ i * 2 ^ (h + 1) := by rw [<- Nat.pow_add]; congr 1; omega
 have e2 : 2 ^ (h + 1) = 2 * 2 ^ h := by rw [Nat.pow_succ]; omega
 have h1 := Nat.div_mul_le_self k (2 ^ i)
 have h2 : k < (k / 2 ^ i + 1) * 2 ^ i := by
  have := Nat.lt_div_mul_add (a := k) (zag i)
  rw [Nat.add_mul]; omega
 have h3 := Nat.mul_le_mul_right (2 ^ (h + 1)) h1
 have h4 := Nat.mul_le_mul_right (2 ^ (h + 1)) (show k + 1 <= (k / 2 ^ i + 1) * 2 ^ i from h2)
 rw [Nat.mul_assoc] at h3 h4
 rw [Nat.add_mul, Nat.add_mul] at h4
 unfold nd
 rw [e1]
 omega
theorem z3w (h k : Nat) : (((k * 2 ^ (h + 1) : Nat) : Int) + ((k * 2 ^ (h + 1) + 2 ^ (h + 1) - 2 : Nat) : Int)) / 2 = (nd h k : Int) := by
 have hp := zag h
 have e2 : 2 ^ (h + 1) = 2 * 2 ^ h := by rw [Nat.pow_succ]; omega
 unfold nd
 generalize k * 2 ^ (h + 1) = q
 omega
theorem zv8 (h k : Nat) : ∀ (i f : Nat), h + i <= 16 -> i < f ->
  zf5 (nd h k : Int) f (((k / 2 ^ i) * 2 ^ (h + i + 1) : Nat) : Int) (((k / 2 ^ i) * 2 ^ (h + i + 1) + 2 ^ (h + i + 1) - 2 : Nat) : Int) = (upT i h k).reverse
 | 0, f, hi, hf => by
  obtain ⟨f, rfl⟩ : ∃ g, f = g + 1 := ⟨f - 1, by omega⟩
  rw [zf5]
  have := z3w h k
  simp only [Nat.pow_zero, Nat.div_one, Nat.add_zero] at this ⊢
  rw [this, if_pos rfl]
  rfl
 | i + 1, f, hi, hf => by
  obtain ⟨f, rfl⟩ : ∃ g, f = g + 1 := ⟨f - 1, by omega⟩
  have hne : (nd (h + (i + 1)) (k / 2 ^ (i + 1)) : Int) ≠ (nd h k : Int) := by
   intro e
   have := (zgk (by omega) (by omega) (Int.ofNat.inj e)).1
   omega
  rw [zf5, z3w, if_neg hne, zpw, List.reverse_append, List.reverse_singleton]
  show _ :: _ = trip (h + (i + 1)) (k / 2 ^ (i + 1)) :: (upT i h k).reverse
  congr 1
  obtain ⟨b1, b2⟩ := z2c h k i
  have e1 : k / 2 ^ (i + 1) = k / 2 ^ i / 2 := by rw [Nat.pow_succ, Nat.div_div_eq_div_mul]
  have e2 : 2 ^ (h + (i + 1) + 1) = 2 * 2 ^ (h + i + 1) := by rw [show h + (i + 1) + 1 = h + i + 1 + 1 by omega, Nat.pow_succ]; omega
  have e3 : 2 ^ (h + (i + 1)) = 2 ^ (h + i + 1) := by congr 1
  have hp := zag (h + i + 1)
  rw [e1]
  have ih := zv8 h k i f (by omega) (by omega)
  generalize k / 2 ^ i = q at *
  have hnd : nd (h + (i + 1)) (q / 2) = q / 2 * (2 * 2 ^ (h + i + 1)) + 2 ^ (h + i + 1) - 1 := by unfold nd; rw [e2, e3]
  rw [hnd, e2]
  generalize 2 ^ (h + i + 1) = Q at *
  rcases Nat.mod_two_eq_zero_or_one q with hq | hq
  ·have eq : q = 2 * (q / 2) := by omega
   generalize q / 2 = r at *
   subst eq
   have e4 : 2 * r * Q = r * (2 * Q) := by rw [Nat.mul_comm 2 r, Nat.mul_assoc]
   rw [e4] at b1 b2 ih
   rw [if_pos (by omega), <- ih]
   congr 1
   omega
  ·have eq : q = 2 * (q / 2) + 1 := by omega
   generalize q / 2 = r at *
   subst eq
   have e4 : (2 * r + 1) * Q = r * (2 * Q) + Q := by rw [Nat.add_mul, Nat.mul_comm 2 r, Nat.mul_assoc, Nat.one_mul]
   rw [e4] at b1 b2 ih
   rw [if_neg (by omega), <- ih]
   congr 1 <;> omega
theorem zjz {d h k : Nat} (hd : d <= 16) (hh : h <= d) (hk : k < 2 ^ (d - h)) : zc3 (nd h k : Int) ((2 ^ d : Nat) : Int) = (upT (d - h) h k).reverse := by
 unfold zc3
 rw [if_pos (z1b hd hh hk)]
 have := zv8 h k (d - h) 17 (by omega) (by omega)
 rw [Nat.div_eq_of_lt hk, show h + (d - h) = d by omega] at this
 rw [<- this]
 have hp := zag d
 congr 1 <;> first | omega | (rw [Nat.pow_succ]; omega)
theorem zhp {x n : Int} (h : ofI x n = false) : zc3 x n = [] := by simp [zc3, h]
theorem zwi {d : Nat} (hd : d <= 16) : ∀ (m f h k : Nat), h + m = d -> k < 2 ^ m -> m < f -> zd1 ((2 ^ d : Nat) : Int) f (nd h k : Int) = (upT m h k).tail.map (·.at_)
 | 0, f, h, k, hm, hk, hf => by
  obtain ⟨f, rfl⟩ : ∃ g, f = g + 1 := ⟨f - 1, by omega⟩
  obtain rfl : h = d := by omega
  have : k = 0 := by simpa using hk
  subst this
  rw [zd1, ziy]; rfl
 | m + 1, f, h, k, hm, hk, hf => by
  obtain ⟨f, rfl⟩ : ∃ g, f = g + 1 := ⟨f - 1, by omega⟩
  have hk2 : k / 2 < 2 ^ m := by rw [Nat.pow_succ] at hk; omega
  rw [zd1, zjd hd (by omega) (by rw [show d - h = m + 1 by omega]; exact hk), if_neg (by omega), zwi hd m f (h + 1) (k / 2) (by omega) hk2 (by omega)]
  cases m with
  | zero => rfl
  | succ m => rfl
theorem zwe {d h k : Nat} (hd : d <= 16) (hh : h <= d) (hk : k < 2 ^ (d - h)) : zbw (nd h k : Int) ((2 ^ d : Nat) : Int) = (upT (d - h) h k).tail.map (·.at_) :=
 zwi hd (d - h) 17 h k (by omega) hk (by omega)
theorem z0d {x n : Int} (h : ofI x n = false) : zbw x n = [] := by
 unfold zbw zd1
 rw [if_pos (by have : parI x n = -1 := (by simp [parI, h]); omega)]
theorem z4e (x n : Int) : ((zc3 x n).dropLast.reverse).map (·.at_) = zbw x n := by
 rcases ho : ofI x n with _ | _
 ·rw [zhp ho, z0d ho]; rfl
 ·obtain ⟨d, h, k, hd, rfl, hh, hk, rfl⟩ := zh1 ho
  rw [zjz hd hh hk, zwe hd hh hk]
  congr 1
  rw [List.dropLast_reverse, List.reverse_reverse]
theorem z2t {x n : Int} (ho : ofI x n = true) : ∃ d h k, d <= 16 /\ h <= d /\ k < 2 ^ (d - h) /\ n = ((2 ^ d : Nat) : Int) /\ x = (nd h k : Int) /\ (zc3 x n).length = d - h + 1 /\ (zc3 x n).getLast? = some (trip h k) := by
 obtain ⟨d, h, k, hd, rfl, hh, hk, rfl⟩ := zh1 ho
 refine ⟨d, h, k, hd, hh, hk, rfl, rfl, ?_, ?_⟩
 ·rw [zjz hd hh hk, List.length_reverse, zls]
 ·rw [zjz hd hh hk, List.getLast?_reverse]
  cases d - h <;> rfl
theorem zmg {x : Int} : za5 x = ofI x 65536 := by
 rw [Bool.eq_iff_iff, zcm, zib]
 have : zau 65536 = true := by decide
 constructor
 ·intro h; exact ⟨this, by omega⟩
 ·intro h; omega
theorem z8u {d h k : Nat} (hd : d <= 16) (hh : h <= d) (hk : k < 2 ^ (d - h)) : zoz (nd h k : Int) = ((2 ^ h - 1 : Nat) : Int) := by
 have hp := zag h
 rw [zqa, zob hd hh hk, Int.toNat_natCast, show (2 : Int) ^ h = ((2 ^ h : Nat) : Int) by simp]
 omega
theorem zrw {x : Int} {h k d : Nat} (hd : d <= 16) (hh : h <= d) (hk : k < 2 ^ (d - h)) (hx : za5 x = true) : zar x (nd h k : Int) = (decide ((trip h k).lo <= x) && decide (x <= (trip h k).hi)) := by
 rw [Bool.eq_iff_iff, zi5, z8u hd hh hk, Bool.and_eq_true, decide_eq_true_eq, decide_eq_true_eq, hx, zew hd hh hk]
 have hp := zag h
 have e2 : 2 ^ (h + 1) = 2 * 2 ^ h := by rw [Nat.pow_succ]; omega
 simp only [trip, nd, e2]
 generalize k * (2 * 2 ^ h) = q
 constructor
 ·rintro ⟨_, h1, h2⟩
  omega
 ·rintro ⟨h1, h2⟩
  exact ⟨⟨trivial, trivial⟩, by omega, by omega⟩
theorem zsk {d h k : Nat} (hd : d <= 16) (hh : h <= d) (hk : k < 2 ^ (d - h)) : zdb (nd h k : Int) = if h = 0 then 0 else ((2 ^ (h - 1) : Nat) : Int) := by
 unfold zdb
 rw [zob hd hh hk]
 rcases Nat.eq_zero_or_pos h with rfl | hp
 ·simp
 ·rw [if_pos (by omega), if_neg (by omega), show ((h : Int) - 1).toNat = h - 1 by omega]; simp
theorem zdr {d h k : Nat} (hd : d <= 16) (hh : h + 1 <= d) (hk : k < 2 ^ (d - (h + 1))) : zba (nd (h + 1) k : Int) = (nd h (2 * k) : Int) := by
 unfold zba
 rw [zsk hd hh hk, if_neg (by omega : ¬ h + 1 = 0)]
 have hp := zag h
 simp only [Nat.add_sub_cancel]
 rw [if_neg (by omega)]
 unfold nd
 rw [Nat.pow_succ 2 (h + 1), Nat.pow_succ 2 h, show 2 * k * (2 ^ h * 2) = k * (2 ^ h * 2 * 2) by rw [Nat.mul_comm 2 k, Nat.mul_assoc, Nat.mul_comm 2]]
 omega
theorem zda {d h k : Nat} (hd : d <= 16) (hh : h + 1 <= d) (hk : k < 2 ^ (d - (h + 1))) : za6 (nd (h + 1) k : Int) = (nd h (2 * k + 1) : Int) := by
 unfold za6
 rw [zsk hd hh hk, if_neg (by omega : ¬ h + 1 = 0)]
 have hp := zag h
 simp only [Nat.add_sub_cancel]
 rw [if_neg (by omega)]
 unfold nd
 rw [Nat.pow_succ 2 (h + 1), Nat.pow_succ 2 h, Nat.add_mul, show 2 * k * (2 ^ h * 2) = k * (2 ^ h * 2 * 2) by rw [Nat.mul_comm 2 k, Nat.mul_assoc, Nat.mul_comm 2]]
 omega
theorem zll {d k : Nat} (hd : d <= 16) (hk : k < 2 ^ d) : zba (nd 0 k : Int) = -1 /\ za6 (nd 0 k : Int) = -1 := by
 unfold zba za6
 rw [zsk hd (Nat.zero_le _) (by simpa using hk)]
 simp
theorem zu9 {d h k : Nat} (hd : d <= 16) (hh : h <= d) (hk : k < 2 ^ (d - h)) :
  (if (trip h k).lo = (trip h k).hi then ((-1 : Int), (-1 : Int)) else (((trip h k).lo + (nd h k : Int) - 1) / 2, ((nd h k : Int) + 1 + (trip h k).hi) / 2)) = (zba (nd h k : Int), za6 (nd h k : Int)) := by
 rcases Nat.eq_zero_or_pos h with rfl | hp
 ·rw [(zll hd (by simpa using hk)).1, (zll hd (by simpa using hk)).2, if_pos (by simp [trip])]
 ·obtain ⟨h, rfl⟩ : ∃ g, h = g + 1 := ⟨h - 1, by omega⟩
  rw [zdr hd hh hk, zda hd hh hk]
  have hp := zag h
  have e1 : 2 ^ (h + 1 + 1) = 4 * 2 ^ h := by rw [Nat.pow_succ, Nat.pow_succ]; omega
  have e2 : 2 ^ (h + 1) = 2 * 2 ^ h := by rw [Nat.pow_succ]; omega
  simp only [trip, nd, e1, e2]
  have e3 : 2 * k * (2 * 2 ^ h) = k * (4 * 2 ^ h) := by rw [Nat.mul_comm 2 k, Nat.mul_assoc, <- Nat.mul_assoc 2 2]
  rw [Nat.add_mul (2 * k), e3]
  generalize k * (4 * 2 ^ h) = q
  generalize 2 ^ h = p at *
  rw [if_neg (by omega)]
  congr 1 <;> omega
theorem z2v {d h k : Nat} (hd : d <= 16) (hh : h < d) (hk : k < 2 ^ (d - h)) :
  ((nd h k : Int) < (nd (h + 1) (k / 2) : Int) ↔ zba (nd (h + 1) (k / 2) : Int) = (nd h k : Int)) /\ ¬ (nd h k : Int) = (nd (h + 1) (k / 2) : Int) := by
 rw [zdr hd hh (zlm hh hk)]
 have hp := zag h
 have e2 : 2 ^ (h + 1) = 2 * 2 ^ h := by rw [Nat.pow_succ]; omega
 have hne : nd h k ≠ nd (h + 1) (k / 2) := λ e => by
  have := (zgk (by omega) (by omega) e).1
  omega
 refine ⟨⟨λ h1 => ?_, λ h1 => ?_⟩, λ e => hne (by omega)⟩
 ·rcases Nat.mod_two_eq_zero_or_one k with hq | hq
  ·rw [show 2 * (k / 2) = k by omega]
  ·exfalso
   unfold nd at h1
   rw [Nat.pow_succ 2 (h + 1), e2] at h1
   have e3 : k * (2 * 2 ^ h) = k / 2 * (2 * 2 ^ h * 2) + 2 * 2 ^ h := by
    conv => lhs; rw [show k = 2 * (k / 2) + 1 by omega]
    rw [Nat.add_mul, Nat.mul_comm 2 (k / 2), Nat.mul_assoc, Nat.mul_comm 2 (2 * 2 ^ h)]; omega
   rw [e3] at h1
   omega
 ·have h2 : nd h (2 * (k / 2)) = nd h k := by omega
  have h3 := (zgk (by omega) (by omega) h2).2
  unfold nd
  rw [Nat.pow_succ 2 (h + 1), e2]
  have e3 : k * (2 * 2 ^ h) = k / 2 * (2 * 2 ^ h * 2) := by
   conv => lhs; rw [<- h3]
   rw [Nat.mul_comm 2 (k / 2), Nat.mul_assoc, Nat.mul_comm 2 (2 * 2 ^ h)]
  rw [e3]
  omega
theorem znn (x n : Int) : (if parI x n < 0 then -1 else if zba (parI x n) = x then za6 (parI x n) else zba (parI x n)) = sibI x n := by
 unfold sibI
 by_cases h0 : parI x n < 0
 ·rw [if_pos h0, if_pos h0]
 ·rw [if_neg h0, if_neg h0]
  obtain ⟨h1, _, _, _⟩ := zkk (x := x) (n := n) (by omega)
  obtain ⟨d, h, k, hd, rfl, hh, hk, rfl⟩ := zh1 h1
  rcases Nat.lt_or_ge h d with hlt | hge
  ·rw [zjd hd hlt hk]
   have := (z2v hd hlt hk).1
   by_cases h2 : zba (nd (h + 1) (k / 2) : Int) = (nd h k : Int)
   ·rw [if_pos h2, if_pos (this.2 h2)]
   ·rw [if_neg h2, if_neg (λ h3 => h2 (this.1 h3))]
  ·obtain rfl : h = d := by omega
   have : k = 0 := by simpa using hk
   subst this
   rw [ziy] at h0
   omega
theorem z5q (x n : Int) : (if (zc3 x n).length < 2 then -1 else (((zc3 x n)[(zc3 x n).length - 2]?).map (·.at_)).getD 0) = parI x n := by
 rcases ho : ofI x n with _ | _
 ·rw [zhp ho, if_pos (by simp)]; simp [parI, ho]
 ·obtain ⟨d, h, k, hd, rfl, hh, hk, rfl⟩ := zh1 ho
  rw [zjz hd hh hk, List.length_reverse, zls]
  rcases Nat.lt_or_ge h d with hlt | hge
  ·rw [if_neg (by omega), zjd hd hlt hk, List.getElem?_reverse (by rw [zls]; omega), zls, show d - h + 1 - 1 - (d - h + 1 - 2) = 1 by omega]
   obtain ⟨m, hm⟩ : ∃ m, d - h = m + 1 := ⟨d - h - 1, by omega⟩
   rw [hm]
   cases m <;> rfl
  ·obtain rfl : h = d := by omega
   have : k = 0 := by simpa using hk
   subst this
   rw [if_pos (by omega), ziy]
theorem zl3 {d : Nat} (hd : d <= 16) : ∀ (m f h k : Nat), h + m = d -> k < 2 ^ m -> m < f -> zds ((2 ^ d : Nat) : Int) f (nd h k : Int) = (upT m h k).dropLast.map (λ t => sibI t.at_ ((2 ^ d : Nat) : Int))
 | 0, f, h, k, hm, hk, hf => by
  obtain ⟨f, rfl⟩ : ∃ g, f = g + 1 := ⟨f - 1, by omega⟩
  obtain rfl : h = d := by omega
  have : k = 0 := by simpa using hk
  subst this
  rw [zds, ziy]; rfl
 | m + 1, f, h, k, hm, hk, hf => by
  obtain ⟨f, rfl⟩ : ∃ g, f = g + 1 := ⟨f - 1, by omega⟩
  have hk2 : k / 2 < 2 ^ m := by rw [Nat.pow_succ] at hk; omega
  rw [zds, zjd hd (by omega) (by rw [show d - h = m + 1 by omega]; exact hk), if_neg (by omega), zl3 hd m f (h + 1) (k / 2) (by omega) hk2 (by omega), upT]
  rw [List.dropLast_cons_of_ne_nil (by cases m <;> simp [upT])]
  rfl
theorem zyo (x n : Int) : ((zc3 x n).tail.reverse).map (λ t => sibI t.at_ n) = zbb x n := by
 rcases ho : ofI x n with _ | _
 ·rw [zhp ho]
  unfold zbb zds
  rw [if_pos (by have : parI x n = -1 := (by simp [parI, ho]); omega)]
  rfl
 ·obtain ⟨d, h, k, hd, rfl, hh, hk, rfl⟩ := zh1 ho
  unfold zbb
  rw [zl3 hd (d - h) 17 h k (by omega) hk (by omega), zjz hd hh hk, List.tail_reverse, List.reverse_reverse]
end
section
theorem zn9 : ∀ (m h k : Nat), upT m h k = (List.range (m + 1)).map λ i => trip (h + i) (k / 2 ^ i)
 | 0, h, k => by simp [upT]
 | m + 1, h, k => by
  rw [zpw, zn9 m h k, List.range_succ (n := m + 1), List.map_append]
  rfl
def sibN (k : Nat) : Nat := if k % 2 = 0 then k + 1 else k - 1
theorem z87 {d h k : Nat} (hd : d <= 16) (hh : h < d) (hk : k < 2 ^ (d - h)) : sibI (nd h k : Int) ((2 ^ d : Nat) : Int) = (nd h (sibN k) : Int) := by
 rw [<- znn, zjd hd hh hk, if_neg (by omega), zdr hd hh (zlm hh hk), zda hd hh (zlm hh hk)]
 unfold sibN
 by_cases he : k % 2 = 0
 ·rw [if_pos he, show 2 * (k / 2) = k by omega, if_pos rfl]
 ·rw [if_neg he, if_neg (λ e => by
   have := (zgk (h := h) (h' := h) (by omega) (by omega) (by omega : nd h (2 * (k / 2)) = nd h k)).2
   omega), show 2 * (k / 2) = k - 1 by omega]
theorem zy3 {m k : Nat} (hk : k < 2 ^ (m + 1)) : sibN k < 2 ^ (m + 1) := by
 rw [Nat.pow_succ] at *
 unfold sibN
 split <;> omega
theorem zl2 {d o : Nat} (hd : d <= 16) (ho : o < 2 ^ d) : zbw (nd 0 o : Int) ((2 ^ d : Nat) : Int) = (List.range d).map λ h => (nd (h + 1) (o / 2 ^ (h + 1)) : Int) := by
 rw [zwe hd (Nat.zero_le _) (by simpa using ho), zn9, Nat.sub_zero, List.range_succ_eq_map, List.map_cons, List.tail_cons, List.map_map, List.map_map]
 apply List.map_congr_left
 intro h _
 simp [trip]
theorem zhe {d o : Nat} (hd : d <= 16) (ho : o < 2 ^ d) : zbb (nd 0 o : Int) ((2 ^ d : Nat) : Int) = (List.range d).map λ h => (nd h (sibN (o / 2 ^ h)) : Int) := by
 unfold zbb
 rw [zl3 hd d 17 0 o (by omega) ho (by omega), zn9, List.range_succ, List.map_append, List.map_cons, List.map_nil, List.dropLast_concat, List.map_map]
 apply List.map_congr_left
 intro h hh
 rw [List.mem_range] at hh
 simp only [Function.comp_apply, trip, Nat.zero_add]
 refine z87 hd hh ?_
 rw [Nat.div_lt_iff_lt_mul (zag h), <- Nat.pow_add]
 rwa [show d - h + h = d by omega]
theorem zf4 {d o h : Nat} (ho : o < 2 ^ d) (hh : h <= d) : o / 2 ^ h < 2 ^ (d - h) := by
 rw [Nat.div_lt_iff_lt_mul (zag h), <- Nat.pow_add]
 rwa [show d - h + h = d by omega]
end
end Go.Proofs.YtpdllgbfemnemaaGreat
