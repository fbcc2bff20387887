import Derived.Test.YtpdllgbfemnemaaGreatZKx
import Derived.Test.YtpdllgbfemnemaaGreatZKv
import Derived.Test.YtpdllgbfemnemaaGreatZLd
namespace Go.Proofs.YtpdllgbfemnemaaGreat.Sx
open Go.RowKit
structure Lean_.input (s : Lean_) : Prop where
 opn : s.opn.length <= maxL
 shut : s.shut.length <= maxL
 late : ∀ x ∈ s.opn, ∀ u ∈ x.node.par.late, i64 u
 at_ : ∀ x ∈ s.shut, i64 x.at_
theorem Lean_.small_fit {s : Lean_} (hi : s.input) (h : s.small = true) : s.fitN /\ ∀ x ∈ s.opn, x.node.par.late.length <= 1000 := by
 simp only [Lean_.small, decide_eq_true_eq] at h
 obtain ⟨h1, h2, h3, h4⟩ := h
 refine ⟨⟨by omega, by omega, λ x hx => ?_, λ x hx => by have := h4 x hx; omega⟩, λ x hx => ?_⟩
 ·have h5 := h3 x hx
  simp only [Node.small, decide_eq_true_eq] at h5
  exact ⟨⟨by omega, by omega, by omega, by omega, by omega⟩, by omega, by omega, by omega, hi.late x hx⟩
 ·have h5 := h3 x hx
  simp only [Node.small, decide_eq_true_eq] at h5
  omega
end Go.Proofs.YtpdllgbfemnemaaGreat.Sx
