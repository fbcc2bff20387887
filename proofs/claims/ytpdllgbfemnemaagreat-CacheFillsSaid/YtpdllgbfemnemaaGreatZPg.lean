import Derived.Test.YtpdllgbfemnemaaGreatZNd
import Derived.Laws.ComplexArith
import Derived.Test.YtpdllgbfemnemaaGreatZSxX
import Derived.Test.YtpdllgbfemnemaaGreatZSxW
import Derived.Laws.Cover3
namespace Go.Proofs.YtpdllgbfemnemaaGreat.Sx
open Go.RowKit
set_option linter.unusedVariables false
section
instance {h k : Nat} {x : Int} : Decidable (inR h k x) := by unfold inR; infer_instance
theorem z2p {h k : Nat} {x : Int} (hx : inR h k x) : inR (h + 1) (k / 2) x := by
 rcases Nat.mod_two_eq_zero_or_one k with he | he
 ·exact (zbu (k := k / 2) (by rwa [show 2 * (k / 2) = k by omega])).1
 ·exact (zbx (k := k / 2) (by rwa [show 2 * (k / 2) + 1 = k by omega])).1
theorem zua {h k : Nat} {x : Int} (hx : inR h k x) : ∀ e, inR (h + e) (k / 2 ^ e) x
 | 0 => by simpa using hx
 | e + 1 => by
  have := z2p (zua hx e)
  rwa [Nat.div_div_eq_div_mul, <- Nat.pow_succ] at this
theorem z6x {h k k' : Nat} {x : Int} (h1 : inR h k x) (h2 : inR h k' x) : k = k' := by
 unfold inR at *
 have hp := zag (h + 1)
 generalize 2 ^ (h + 1) = q at *
 rcases Nat.lt_trichotomy k k' with hlt | rfl | hgt
 ·have := Nat.mul_le_mul_right q (show k + 1 <= k' from hlt)
  rw [Nat.add_mul, Nat.one_mul] at this
  omega
 ·rfl
 ·have := Nat.mul_le_mul_right q (show k' + 1 <= k from hgt)
  rw [Nat.add_mul, Nat.one_mul] at this
  omega
theorem zpu (k : Nat) : sibN k / 2 = k / 2 /\ sibN k ≠ k := by
 unfold sibN
 split <;> omega
theorem z3f {o i j : Nat} {x : Int} (h1 : inR i (sibN (o / 2 ^ i)) x) (h2 : inR j (sibN (o / 2 ^ j)) x) : i = j := by
 have key : ∀ {i j : Nat}, i < j -> inR i (sibN (o / 2 ^ i)) x -> inR j (sibN (o / 2 ^ j)) x -> False := λ {i j} hij h1 h2 => by
  have h3 := zua (z2p h1) (j - i - 1)
  rw [(zpu _).1, <- zp4, Nat.div_div_eq_div_mul, <- Nat.pow_add, show i + 1 + (j - i - 1) = j by omega] at h3
  exact (zpu (o / 2 ^ j)).2 (z6x h2 h3)
 rcases Nat.lt_trichotomy i j with h | h | h
 ·exact (key h h1 h2).elim
 ·exact h
 ·exact (key h h2 h1).elim
theorem z0y {o i j : Nat} (h1 : inR i (sibN (o / 2 ^ i)) (nd j (o / 2 ^ j))) : False := by
 obtain ⟨h2, h3⟩ := zqv.1 h1
 rw [Nat.div_div_eq_div_mul, <- Nat.pow_add, show j + (i - j) = i by omega] at h3
 exact (zpu (o / 2 ^ i)).2 h3.symm
section
variable {s : Lean_} {d o i : Nat} {h0 : List UInt8}
end
end
section
theorem zt6 {α : Type} {l : List α} {j : Nat} (hj : j < l.length) : l.take (j + 1) = l.take j ++ [l[j]] := by
 rw [List.take_add_one, List.getElem?_eq_getElem hj]; rfl
end
end Go.Proofs.YtpdllgbfemnemaaGreat.Sx
