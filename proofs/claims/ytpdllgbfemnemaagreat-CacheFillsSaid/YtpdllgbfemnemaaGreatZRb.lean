import Derived.Test.YtpdllgbfemnemaaGreatZQe
namespace Go.Proofs.YtpdllgbfemnemaaGreat.Sx
open Go.RowKit
set_option linter.unusedVariables false
section
inductive PR (α : Type) where
 | err (e : Nat)
 | ok (a : α) (r : List UInt8)
def numA (n : Nat) (l : List UInt8) : Nat := l.foldl (λ n c => 256 * n + c.toNat) n
theorem zj6 (n : Nat) {l : List UInt8} {j : Nat} (hj : j < l.length) : numA n (l.take (j + 1)) = 256 * numA n (l.take j) + l[j].toNat := zet (f := λ n (c : UInt8) => 256 * n + c.toNat) hj
theorem ze1 : ∀ (l : List UInt8) (n b : Nat), n < b -> numA n l < b * 256 ^ l.length
 | [], n, b, h => by simpa [numA] using h
 | c :: l, n, b, h => by
  have hc := c.toNat_lt
  have := ze1 l (256 * n + c.toNat) (256 * b) (by omega)
  rw [List.length_cons, Nat.pow_succ]
  have e : b * (256 ^ l.length * 256) = 256 * b * 256 ^ l.length := by rw [Nat.mul_comm (256 ^ l.length), <- Nat.mul_assoc, Nat.mul_comm b]
  rw [e]
  exact this
def zaz (c : UInt8) : Nat := if 128 <= c.toNat then 3 else if 64 <= c.toNat then 1 else 0
def lenP : List UInt8 -> PR Nat
 | [] => .err 4
 | c :: r => if 192 <= c.toNat then .err 3 else if r.length < zaz c then .err 4 else
  if zcf (numA (c.toNat % 64) (r.take (zaz c))) ≠ zaz c + 1 then .err 3 else .ok (numA (c.toNat % 64) (r.take (zaz c))) (r.drop (zaz c))
def vecP (l : List UInt8) : PR (List UInt8) := match lenP l with
 | .err e => .err e
 | .ok n r => if r.length < n then .err 4 else .ok (r.take n) (r.drop n)
theorem zpz {l r : List UInt8} {n : Nat} (h : lenP l = .ok n r) : ∃ j, r = l.drop j /\ 0 < j /\ j <= l.length /\ n < 1073741824 := by
 cases l with
 | nil => simp [lenP] at h
 | cons c s =>
  simp only [lenP] at h
  split at h
  ·cases h
  ·split at h
   ·cases h
   ·split at h
    ·cases h
    ·rename_i h1 h2 h3
     injection h with e1 e2
     subst e1; subst e2
     refine ⟨zaz c + 1, by simp, by omega, by simp; omega, ?_⟩
     have h4 := ze1 (s.take (zaz c)) (c.toNat % 64) 64 (by omega)
     have h5 : zaz c <= 3 := by unfold zaz; split <;> (try split) <;> omega
     have h6 : (256 : Nat) ^ (s.take (zaz c)).length <= 256 ^ 3 := Nat.pow_le_pow_right (by omega) (by rw [List.length_take]; omega)
     have : (256 : Nat) ^ 3 = 16777216 := by decide
     omega
theorem zbz {l r v : List UInt8} (h : vecP l = .ok v r) : ∃ j, r = l.drop j /\ 0 < j /\ j <= l.length /\ v.length < j := by
 unfold vecP at h
 cases hl : lenP l with
 | err e => rw [hl] at h; cases h
 | ok n s =>
  rw [hl] at h
  simp only at h
  split at h
  ·cases h
  ·rename_i hn
   injection h with e1 e2
   subst e1; subst e2
   obtain ⟨j, rfl, h0, hj, _⟩ := zpz hl
   rw [List.length_drop] at hn
   exact ⟨j + n, by rw [List.drop_drop], by omega, by omega, by rw [List.length_take, List.length_drop]; omega⟩
theorem zs9 (n : Nat) (hn : n <= 1073741823) : zae Tryz.prog 164 [I n] (bch (lenB n)) :=
 zbo (za7 Tryz.func164 rfl (by kernel_rfl)) λ w k vs hp => by
  obtain ⟨a, rfl, h1⟩ := zhh hp
  simp only [RV.at_] at h1
  subst h1
  exact (zrt n w hn).mono λ _ _ ⟨v, he, hx, _, hv⟩ => ⟨v, he, hx, zgp hv⟩
def nxt (b r : List UInt8) : Int := ((b.length - r.length : Nat) : Int)
def lenR (b : List UInt8) (at_ : Nat) : List RV := match lenP (b.drop at_) with
 | .err e => [I 0, I at_, I e]
 | .ok n r => [I n, I (nxt b r), I 0]
set_option maxHeartbeats 1000000 in
theorem z4p (b : List UInt8) (at_ : Nat) (hb : b.length <= 1000000000) (ha : at_ <= b.length) : zae Tryz.prog 242 [bs b, I at_] (.r (.tu (lenR b at_))) := by
 refine zad (T := Tab) zaf Tab_ok Tryz.func242 rfl (by kernel_rfl) ?_
 by_cases hend : at_ = b.length
 ·subst hend
  refine zu (by simp only [zb]; omega) (zq ?_)
  exact ⟨_, rfl, zf (by unfold lenR; rw [List.drop_length]; rfl)⟩
 have ha' : at_ < b.length := by omega
 refine zw (by simp only [zb]; omega) (zt ?_)
 obtain ⟨c, hc⟩ : ∃ c, c = b[at_] := ⟨_, rfl⟩
 obtain ⟨r, hr⟩ : ∃ r, r = b.drop (at_ + 1) := ⟨_, rfl⟩
 have hd : b.drop at_ = c :: r := by rw [hc, hr]; exact List.drop_eq_getElem_cons ha'
 have hrl : r.length = b.length - (at_ + 1) := by rw [hr, List.length_drop]
 have hcl := c.toNat_lt
 have hrat : ∀ (i : Nat) (hi : i < r.length), r[i] = b[at_ + 1 + i]'(by omega) := λ i hi => by simp [hr]
 by_cases h192 : 192 <= c.toNat
 ·refine zm (by omega) (by omega) (zah rfl ha') (zg rfl ?_)
  rw [<- hc]
  refine zu (by simp only [zb]; omega) (zq ?_)
  refine zm (by omega) (by omega) (zah rfl ha') (zg rfl ?_)
  rw [<- hc]
  refine zu (by simp only [zb]; omega) (zq ?_)
  refine zm (by omega) (by omega) (zah rfl ha') (zg rfl ?_)
  rw [<- hc]
  refine zu (by simp only [zb]; omega) (zq ?_)
  exact ⟨_, rfl, zf (by unfold lenR; rw [hd]; simp only [lenP]; rw [if_pos h192]; rfl)⟩
 by_cases h128 : 128 <= c.toNat
 ·have hm : zaz c = 3 := by unfold zaz; rw [if_pos h128]
  refine zm (by omega) (by omega) (zah rfl ha') (zg rfl ?_)
  rw [<- hc]
  refine zu (by simp only [zb]; omega) (zq ?_)
  refine zm (by omega) (by omega) (zah rfl ha') (zg rfl ?_)
  rw [<- hc]
  refine zu (by simp only [zb]; omega) (zq ?_)
  refine zm (by omega) (by omega) (zah rfl ha') (zg rfl ?_)
  rw [<- hc]
  refine zw (by simp only [zb]; omega) (zt ?_)
  by_cases hsh : r.length < 3
  ·refine zd (m := ((at_ + 4 : Nat) : Int)) (by omega) (by omega) ?_
   refine zu (by simp only [zb]; omega) (zq ?_)
   exact ⟨_, rfl, zf (by unfold lenR; rw [hd]; simp only [lenP]; rw [if_neg (by omega), hm, if_pos hsh]; rfl)⟩
  refine zd (m := ((at_ + 4 : Nat) : Int)) (by omega) (by omega) ?_
  refine zw (by simp only [zb]; omega) (zt ?_)
  refine zm (by omega) (by omega) (zah rfl ha') (zg rfl ?_)
  rw [<- hc]
  refine zd rfl (by omega) ?_
  refine ⟨by decide, ((c.toNat % 64 : Nat) : Int), by rw [Int.tmod_eq_emod_of_nonneg (by omega)]; omega, ?_⟩
  obtain ⟨x, hx⟩ : ∃ x, x = c.toNat % 64 := ⟨_, rfl⟩
  have hbd : ∀ i, i <= 3 -> numA x (r.take i) < 64 * 256 ^ 3 := λ i hi => by
   have h1 := ze1 (r.take i) x 64 (by omega)
   have h2 : (256 : Nat) ^ (r.take i).length <= 256 ^ 3 := Nat.pow_le_pow_right (by omega) (by rw [List.length_take]; omega)
   exact Nat.lt_of_lt_of_le h1 (Nat.mul_le_mul_left 64 h2)
  have hpw : (256 : Nat) ^ 3 = 16777216 := by decide
  rw [hpw] at hbd
  rw [<- hx]
  refine zy (λ i : Nat => { F := [(0, .r (bs b)), (1, .r (I at_)), (7, .r (I ((4 : Nat) : Int))), (8, .r (I (numA x (r.take i)))), (9, .r (I ((i + 1 : Nat) : Int)))], O := [], nx := 0 }) (λ i => i <= 3) (λ i => 3 - i) 0 (by omega) (zac [] rfl ⟨cr, cr, cr, cr, cr, trivial⟩ trivial) ?_
  intro i hi
  have hni := hbd i hi
  refine zh (λ h => zq ?_) (λ h => zt ?_)
  ·simp only [zb] at h
   have hi' : i < r.length := by omega
   have hn1 := hbd (i + 1) (by omega)
   have hsn := zj6 x hi'
   have hri := hrat i hi'
   refine zd rfl (by omega) ?_
   refine zd (m := ((at_ + 1 + i : Nat) : Int)) (by omega) (by omega) ?_
   refine zm (by omega) (by omega) (zah rfl (show at_ + 1 + i < b.length by omega)) (zg rfl ?_)
   rw [<- hri]
   have hbl := r[i].toNat_lt
   refine zd rfl (by omega) ?_
   refine zd (m := ((numA x (r.take (i + 1)) : Nat) : Int)) (by omega) (by omega) ?_
   refine zd (m := ((i + 1 + 1 : Nat) : Int)) (by omega) (by omega) ?_
   exact ⟨i + 1, by omega, by omega, zac [] rfl ⟨cr, cr, cr, cr, cr, trivial⟩ trivial⟩
  simp only [zb] at h
  have him : i = 3 := by omega
  subst him
  refine ze (zs9 _ (by omega)) ?_
  have hll := zhy (numA x (r.take 3))
  by_cases hsz : zcf (numA x (r.take 3)) = 4
  ·refine zw (by simp only [zb]; omega) (zt ?_)
   refine zd (m := nxt b (r.drop 3)) (by unfold nxt; rw [List.length_drop]; omega) (by omega) ?_
   refine ⟨_, rfl, zf ?_⟩
   unfold lenR
   rw [hd]
   simp only [lenP]
   rw [if_neg (by omega), hm, if_neg hsh, <- hx, if_neg (by omega)]
   rfl
  ·refine zu (by simp only [zb]; omega) (zq ?_)
   refine ⟨_, rfl, zf ?_⟩
   unfold lenR
   rw [hd]
   simp only [lenP]
   rw [if_neg (by omega), hm, if_neg hsh, <- hx, if_pos (by omega)]
   rfl
 by_cases h64 : 64 <= c.toNat
 ·have hm : zaz c = 1 := by unfold zaz; rw [if_neg h128, if_pos h64]
  refine zm (by omega) (by omega) (zah rfl ha') (zg rfl ?_)
  rw [<- hc]
  refine zu (by simp only [zb]; omega) (zq ?_)
  refine zm (by omega) (by omega) (zah rfl ha') (zg rfl ?_)
  rw [<- hc]
  refine zw (by simp only [zb]; omega) (zt ?_)
  refine zm (by omega) (by omega) (zah rfl ha') (zg rfl ?_)
  rw [<- hc]
  refine zw (by simp only [zb]; omega) (zt ?_)
  by_cases hsh : r.length < 1
  ·refine zd (m := ((at_ + 2 : Nat) : Int)) (by omega) (by omega) ?_
   refine zu (by simp only [zb]; omega) (zq ?_)
   exact ⟨_, rfl, zf (by unfold lenR; rw [hd]; simp only [lenP]; rw [if_neg (by omega), hm, if_pos hsh]; rfl)⟩
  refine zd (m := ((at_ + 2 : Nat) : Int)) (by omega) (by omega) ?_
  refine zw (by simp only [zb]; omega) (zt ?_)
  refine zm (by omega) (by omega) (zah rfl ha') (zg rfl ?_)
  rw [<- hc]
  refine zd rfl (by omega) ?_
  refine ⟨by decide, ((c.toNat % 64 : Nat) : Int), by rw [Int.tmod_eq_emod_of_nonneg (by omega)]; omega, ?_⟩
  obtain ⟨x, hx⟩ : ∃ x, x = c.toNat % 64 := ⟨_, rfl⟩
  have hbd : ∀ i, i <= 1 -> numA x (r.take i) < 64 * 256 ^ 1 := λ i hi => by
   have h1 := ze1 (r.take i) x 64 (by omega)
   have h2 : (256 : Nat) ^ (r.take i).length <= 256 ^ 1 := Nat.pow_le_pow_right (by omega) (by rw [List.length_take]; omega)
   exact Nat.lt_of_lt_of_le h1 (Nat.mul_le_mul_left 64 h2)
  have hpw : (256 : Nat) ^ 1 = 256 := by decide
  rw [hpw] at hbd
  rw [<- hx]
  refine zy (λ i : Nat => { F := [(0, .r (bs b)), (1, .r (I at_)), (7, .r (I ((2 : Nat) : Int))), (8, .r (I (numA x (r.take i)))), (9, .r (I ((i + 1 : Nat) : Int)))], O := [], nx := 0 }) (λ i => i <= 1) (λ i => 1 - i) 0 (by omega) (zac [] rfl ⟨cr, cr, cr, cr, cr, trivial⟩ trivial) ?_
  intro i hi
  have hni := hbd i hi
  refine zh (λ h => zq ?_) (λ h => zt ?_)
  ·simp only [zb] at h
   have hi' : i < r.length := by omega
   have hn1 := hbd (i + 1) (by omega)
   have hsn := zj6 x hi'
   have hri := hrat i hi'
   refine zd rfl (by omega) ?_
   refine zd (m := ((at_ + 1 + i : Nat) : Int)) (by omega) (by omega) ?_
   refine zm (by omega) (by omega) (zah rfl (show at_ + 1 + i < b.length by omega)) (zg rfl ?_)
   rw [<- hri]
   have hbl := r[i].toNat_lt
   refine zd rfl (by omega) ?_
   refine zd (m := ((numA x (r.take (i + 1)) : Nat) : Int)) (by omega) (by omega) ?_
   refine zd (m := ((i + 1 + 1 : Nat) : Int)) (by omega) (by omega) ?_
   exact ⟨i + 1, by omega, by omega, zac [] rfl ⟨cr, cr, cr, cr, cr, trivial⟩ trivial⟩
  simp only [zb] at h
  have him : i = 1 := by omega
  subst him
  refine ze (zs9 _ (by omega)) ?_
  have hll := zhy (numA x (r.take 1))
  by_cases hsz : zcf (numA x (r.take 1)) = 2
  ·refine zw (by simp only [zb]; omega) (zt ?_)
   refine zd (m := nxt b (r.drop 1)) (by unfold nxt; rw [List.length_drop]; omega) (by omega) ?_
   refine ⟨_, rfl, zf ?_⟩
   unfold lenR
   rw [hd]
   simp only [lenP]
   rw [if_neg (by omega), hm, if_neg hsh, <- hx, if_neg (by omega)]
   rfl
  ·refine zu (by simp only [zb]; omega) (zq ?_)
   refine ⟨_, rfl, zf ?_⟩
   unfold lenR
   rw [hd]
   simp only [lenP]
   rw [if_neg (by omega), hm, if_neg hsh, <- hx, if_pos (by omega)]
   rfl
 have hm : zaz c = 0 := by unfold zaz; rw [if_neg h128, if_neg h64]
 refine zm (by omega) (by omega) (zah rfl ha') (zg rfl ?_)
 rw [<- hc]
 refine zw (by simp only [zb]; omega) (zt ?_)
 refine zm (by omega) (by omega) (zah rfl ha') (zg rfl ?_)
 rw [<- hc]
 refine zw (by simp only [zb]; omega) (zt ?_)
 refine zm (by omega) (by omega) (zah rfl ha') (zg rfl ?_)
 rw [<- hc]
 refine zw (by simp only [zb]; omega) (zt ?_)
 have hsh : ¬ r.length < 0 := by omega
 refine zd (m := ((at_ + 1 : Nat) : Int)) (by omega) (by omega) ?_
 refine zw (by simp only [zb]; omega) (zt ?_)
 refine zm (by omega) (by omega) (zah rfl ha') (zg rfl ?_)
 rw [<- hc]
 refine zd rfl (by omega) ?_
 refine ⟨by decide, ((c.toNat % 64 : Nat) : Int), by rw [Int.tmod_eq_emod_of_nonneg (by omega)]; omega, ?_⟩
 obtain ⟨x, hx⟩ : ∃ x, x = c.toNat % 64 := ⟨_, rfl⟩
 have hbd : ∀ i, i <= 0 -> numA x (r.take i) < 64 * 256 ^ 0 := λ i hi => by
  have h1 := ze1 (r.take i) x 64 (by omega)
  have h2 : (256 : Nat) ^ (r.take i).length <= 256 ^ 0 := Nat.pow_le_pow_right (by omega) (by rw [List.length_take]; omega)
  exact Nat.lt_of_lt_of_le h1 (Nat.mul_le_mul_left 64 h2)
 have hpw : (256 : Nat) ^ 0 = 1 := by decide
 rw [hpw] at hbd
 rw [<- hx]
 refine zy (λ i : Nat => { F := [(0, .r (bs b)), (1, .r (I at_)), (7, .r (I ((1 : Nat) : Int))), (8, .r (I (numA x (r.take i)))), (9, .r (I ((i + 1 : Nat) : Int)))], O := [], nx := 0 }) (λ i => i <= 0) (λ i => 0 - i) 0 (by omega) (zac [] rfl ⟨cr, cr, cr, cr, cr, trivial⟩ trivial) ?_
 intro i hi
 have hni := hbd i hi
 refine zh (λ h => zq ?_) (λ h => zt ?_)
 ·simp only [zb] at h
  have hi' : i < r.length := by omega
  have hn1 := hbd (i + 1) (by omega)
  have hsn := zj6 x hi'
  have hri := hrat i hi'
  refine zd rfl (by omega) ?_
  refine zd (m := ((at_ + 1 + i : Nat) : Int)) (by omega) (by omega) ?_
  refine zm (by omega) (by omega) (zah rfl (show at_ + 1 + i < b.length by omega)) (zg rfl ?_)
  rw [<- hri]
  have hbl := r[i].toNat_lt
  refine zd rfl (by omega) ?_
  refine zd (m := ((numA x (r.take (i + 1)) : Nat) : Int)) (by omega) (by omega) ?_
  refine zd (m := ((i + 1 + 1 : Nat) : Int)) (by omega) (by omega) ?_
  exact ⟨i + 1, by omega, by omega, zac [] rfl ⟨cr, cr, cr, cr, cr, trivial⟩ trivial⟩
 simp only [zb] at h
 have him : i = 0 := by omega
 subst him
 refine ze (zs9 _ (by omega)) ?_
 have hll := zhy (numA x (r.take 0))
 by_cases hsz : zcf (numA x (r.take 0)) = 1
 ·refine zw (by simp only [zb]; omega) (zt ?_)
  refine zd (m := nxt b (r.drop 0)) (by unfold nxt; rw [List.length_drop]; omega) (by omega) ?_
  refine ⟨_, rfl, zf ?_⟩
  unfold lenR
  rw [hd]
  simp only [lenP]
  rw [if_neg (by omega), hm, if_neg hsh, <- hx, if_neg (by omega)]
  rfl
 ·refine zu (by simp only [zb]; omega) (zq ?_)
  refine ⟨_, rfl, zf ?_⟩
  unfold lenR
  rw [hd]
  simp only [lenP]
  rw [if_neg (by omega), hm, if_neg hsh, <- hx, if_pos (by omega)]
  rfl
def vecR (b : List UInt8) (at_ : Nat) : List RV := match vecP (b.drop at_) with
 | .err e => [bs [], I at_, I e]
 | .ok v r => [bs v, I (nxt b r), I 0]
theorem zh4 {b r : List UInt8} {at_ j : Nat} (h : r = (b.drop at_).drop j) (ha : at_ + j <= b.length) : nxt b r = ((at_ + j : Nat) : Int) := by
 unfold nxt
 rw [h, List.length_drop, List.length_drop]
 omega
theorem z3m (b : List UInt8) (at_ : Nat) (hb : b.length <= 1000000000) (ha : at_ <= b.length) : zae Tryz.prog 232 [bs b, I at_] (.r (.tu (vecR b at_))) := by
 refine zad (T := Tab) zaf Tab_ok Tryz.func232 rfl (by kernel_rfl) ?_
 have gl := z4p b at_ hb ha
 unfold lenR at gl
 cases hl : lenP (b.drop at_) with
 | err e =>
  rw [hl] at gl
  have hv : vecP (b.drop at_) = .err e := by unfold vecP; rw [hl]
  have he : e = 3 \/ e = 4 := by
   cases hq : b.drop at_ with
   | nil => rw [hq] at hl; simp only [lenP, PR.err.injEq] at hl; omega
   | cons c s =>
    rw [hq] at hl
    simp only [lenP] at hl
    split at hl
    ·injection hl with hl; omega
    ·split at hl
     ·injection hl with hl; omega
     ·split at hl
      ·injection hl with hl; omega
      ·cases hl
  refine ze gl ?_
  refine zu (by simp only [zb]; omega) (zq ?_)
  refine ⟨_, rfl, ?_⟩
  unfold vecR
  rw [hv]
  exact Cv.tu (zk (Cv.nil 1) (zn _))
 | ok n r =>
  rw [hl] at gl
  obtain ⟨j, hj, h0, hjl, hn⟩ := zpz hl
  rw [List.length_drop] at hjl
  have hnx := zh4 hj (by omega)
  have hrl : r.length = b.length - (at_ + j) := by rw [hj, List.length_drop, List.length_drop]; omega
  refine ze gl ?_
  refine zw rfl (zt ?_)
  simp only [hnx]
  refine zd (m := ((b.length - (at_ + j) : Nat) : Int)) (by omega) (by omega) ?_
  by_cases hlt : r.length < n
  ·have hv : vecP (b.drop at_) = .err 4 := by unfold vecP; rw [hl]; simp only; rw [if_pos hlt]
   refine zu (by simp only [zb]; omega) (zq ?_)
   refine ⟨_, rfl, ?_⟩
   unfold vecR
   rw [hv]
   exact Cv.tu (zk (Cv.nil 1) (zn _))
  ·have hv : vecP (b.drop at_) = .ok (r.take n) (r.drop n) := by unfold vecP; rw [hl]; simp only; rw [if_neg hlt]
   refine zw (by simp only [zb]; omega) (zt ?_)
   refine zd (m := ((at_ + j + n : Nat) : Int)) (by omega) (by omega) ?_
   refine ⟨by omega, by omega, by omega, n, (r.take n).map U8, by omega, ?_, ?_⟩
   ·rw [hj, Int.toNat_natCast, Nat.mul_one, Nat.mul_one, <- List.map_drop, <- List.map_take, List.drop_drop]
   refine zd (m := ((at_ + j + n : Nat) : Int)) (by omega) (by omega) ?_
   refine ⟨_, rfl, ?_⟩
   unfold vecR
   rw [hv]
   have e1 : nxt b (r.drop n) = ((at_ + j + n : Nat) : Int) := by unfold nxt; rw [List.length_drop]; omega
   have e2 : (r.take n).length = n := by rw [List.length_take]; omega
   refine Cv.tu (zk (zf ?_) (zk (zf (by rw [e1])) (zn _)))
   unfold bs
   rw [e2]
end
section
theorem Cv.any {f : RV} : Cv f .any := λ w k v h => by simp only [RV.at_]
def zadb : List RV := [I 1, I 0, .i .u64 0, .x (.slice none 0 0), .x (.slice none 0 0)]
def z0s (v : List UInt8) : List RV := [I 1, I 0, .i .u64 0, bs v, .x (.slice none 0 0)]
def zvd (b : List UInt8) (at_ : Nat) : List RV := match vecP (b.drop at_) with
 | .err e => [.ag (z0s []), I at_, I e]
 | .ok v r => [.ag (z0s v), I (nxt b r), I 0]
theorem z6o (b : List UInt8) (at_ : Nat) (hb : b.length <= 1000000000) (ha : at_ <= b.length) : zae Tryz.prog 210 [bs b, I at_, .ag zadb] (.r (.tu (zvd b at_))) := by
 refine zad (T := Tab) zaf Tab_ok Tryz.func210 rfl (by kernel_rfl) ?_
 have gv := z3m b at_ hb ha
 refine zw rfl (zt ?_)
 refine zu rfl (zq ?_)
 unfold vecR at gv
 cases hv : vecP (b.drop at_) with
 | err e =>
  rw [hv] at gv
  refine ze gv ?_
  refine za rfl rfl ?_
  refine za rfl rfl ?_
  refine ⟨_, rfl, zf ?_⟩
  unfold zvd
  rw [hv]
  rfl
 | ok v r =>
  rw [hv] at gv
  refine ze gv ?_
  refine za rfl rfl ?_
  refine za rfl rfl ?_
  refine ⟨_, rfl, zf ?_⟩
  unfold zvd
  rw [hv]
  rfl
def zbe : Nat -> List UInt8 -> PR (List (List UInt8))
 | 0, l => .ok [] l
 | n + 1, l => match vecP l with
  | .err e => .err e
  | .ok v r => match zbe n r with
   | .err e => .err e
   | .ok vs s => .ok (v :: vs) s
def PR.after (vs : List (List UInt8)) : PR (List (List UInt8)) -> PR (List (List UInt8))
 | .err e => .err e
 | .ok ws s => .ok (vs ++ ws) s
theorem zf0 : ∀ (n : Nat) {l r : List UInt8} {vs : List (List UInt8)}, zbe n l = .ok vs r -> vs.length = n /\ ∃ j, r = l.drop j /\ j <= l.length /\ ∀ v ∈ vs, v.length <= l.length
 | 0, l, r, vs, h => by
  simp only [zbe, PR.ok.injEq] at h
  obtain ⟨rfl, rfl⟩ := h
  exact ⟨rfl, 0, by simp, by omega, by simp⟩
 | n + 1, l, r, vs, h => by
  simp only [zbe] at h
  cases hv : vecP l with
  | err e => rw [hv] at h; cases h
  | ok v s =>
   rw [hv] at h
   simp only at h
   obtain ⟨j, rfl, h0, hj, hvl⟩ := zbz hv
   cases hw : zbe n (l.drop j) with
   | err e => rw [hw] at h; cases h
   | ok ws t =>
    rw [hw] at h
    simp only [PR.ok.injEq] at h
    obtain ⟨rfl, rfl⟩ := h
    obtain ⟨h1, i, e1, hi, h2⟩ := zf0 n hw
    rw [List.length_drop] at hi h2
    refine ⟨by simp [h1], j + i, by rw [e1, List.drop_drop], by omega, λ w hw => ?_⟩
    rcases List.mem_cons.1 hw with rfl | hw
    ·omega
    ·have := h2 w hw; omega
def zri (b : List UInt8) (at_ n : Nat) : List RV := match zbe n (b.drop at_) with
 | .err e => [bss [], .any, I e]
 | .ok vs r => [bss vs, I (nxt b r), I 0]
theorem z3a (b : List UInt8) (at_ n : Nat) (hb : b.length <= 1000000000) (ha : at_ <= b.length) (hn : n <= 10) : zae Tryz.prog 190 [bs b, I at_, I n] (.r (.tu (zri b at_ n))) := by
 refine zad (T := Tab) zaf Tab_ok Tryz.func190 rfl (by kernel_rfl) ?_
 refine zy (λ i : Nat × List (List UInt8) × Nat => { F := [(0, .r (bs b)), (1, .r (I i.2.2)), (2, .r (I n)), (9, .own 0), (10, .r (I i.1))], O := [(0, some (.ch 28 1 i.2.1.length (i.2.1.map bs) true))], nx := 1 })
  (λ i => i.1 <= n /\ i.2.1.length = i.1 /\ i.2.2 <= b.length /\ zbe n (b.drop at_) = (zbe (n - i.1) (b.drop i.2.2)).after i.2.1) (λ i => n - i.1) (0, [], at_) ⟨by simp, rfl, ha, by
   simp only [Nat.sub_zero]
   cases zbe n (b.drop at_) <;> simp [PR.after]⟩
  ((zc1 9 28 1 rfl).trans (zac [(0, 0)] rfl ⟨cr, cr, cr, rfl, cr, trivial⟩ ⟨⟨rfl, rfl, rfl, rfl, zn _⟩, trivial⟩)) ?_
 rintro ⟨i, vs, a⟩ ⟨hi, hvl, hab, hv⟩
 simp only at hi hvl hab hv
 have gt := z6o b a hb hab
 unfold zvd at gt
 refine zh (λ h => zq ?_) (λ h => zt ?_)
 ·simp only [zb] at h
  have hm : n - i = (n - (i + 1)) + 1 := by omega
  rw [hm] at hv
  simp only [zbe] at hv
  cases hp : vecP (b.drop a) with
  | err e =>
   rw [hp] at gt hv
   refine ze gt ?_
   have he : e ≠ 0 := by
    intro h0
    subst h0
    unfold vecP at hp
    cases hq : lenP (b.drop a) with
    | err e =>
     rw [hq] at hp
     injection hp with hp
     subst hp
     cases hd : b.drop a with
     | nil => rw [hd] at hq; simp [lenP] at hq
     | cons c s =>
      rw [hd] at hq
      simp only [lenP] at hq
      split at hq
      ·cases hq
      ·split at hq
       ·cases hq
       ·split at hq <;> cases hq
    | ok m s =>
     rw [hq] at hp
     simp only at hp
     split at hp <;> cases hp
   refine zu (by simp only [zb]; omega) (zq ?_)
   refine ⟨_, rfl, ?_⟩
   unfold zri
   rw [hv]
   exact Cv.tu (zk (Cv.nil 1) (zk Cv.any (zn _)))
  | ok v r =>
   rw [hp] at gt hv
   obtain ⟨j, hr, h0, hj, hl⟩ := zbz hp
   rw [List.length_drop] at hj
   have hnx := zh4 hr (by omega)
   refine ze gt ?_
   refine zw rfl (zt ?_)
   refine zx ?_
   refine Vapp.mk' (j := (vs ++ [v]).length) (zs := (vs ++ [v]).map bs) (by simp [maxLen]; omega) (by simp; omega) (by simp) (by simp [zbh, cellsOf, z0s, bs]) ?_
   refine zd (m := ((i + 1 : Nat) : Int)) (by omega) (by omega) ?_
   refine ⟨(i + 1, vs ++ [v], a + j), ⟨by simp only; omega, by simp [hvl], by simp only; omega, ?_⟩, by simp only; omega, zac [(0, _)] rfl ⟨cr, zf (by simp only [hnx]), cr, rfl, cr, trivial⟩ ⟨⟨rfl, rfl, rfl, rfl, zn _⟩, trivial⟩⟩
   rw [hv]
   simp only
   rw [hr, List.drop_drop]
   cases zbe (n - (i + 1)) (b.drop (a + j)) <;> simp [PR.after]
 ·simp only [zb] at h
  have hi' : n - i = 0 := by omega
  rw [hi'] at hv
  simp only [zbe, PR.after, List.append_nil] at hv
  refine ⟨_, rfl, zf ?_⟩
  unfold zri
  rw [hv]
  have : nxt b (b.drop a) = (a : Int) := by unfold nxt; rw [List.length_drop]; omega
  simp only [this]
  rfl
end
end Go.Proofs.YtpdllgbfemnemaaGreat.Sx
