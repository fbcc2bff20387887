import Derived.Test.YtpdllgbfemnemaaGreatZQe
namespace Go.Proofs.YtpdllgbfemnemaaGreat.Sx
open Go.RowKit
set_option linter.unusedVariables false
theorem zoc {l : List Int} {z : Int} : z ∈ zci l ↔ z ∈ l := by
 unfold zci
 have : ∀ (l a : List Int), z ∈ l.foldl (λ a x => insD x a) a ↔ z ∈ a \/ z ∈ l := by
  intro l
  induction l with
  | nil => intro a; simp
  | cons x l ih =>
   intro a
   rw [List.foldl_cons, ih, zh9]
   simp only [List.mem_cons]
   exact ⟨λ h => by rcases h with (h | h) | h <;> simp [h], λ h => by rcases h with h | h | h <;> simp [h]⟩
 simpa using this l []
end Go.Proofs.YtpdllgbfemnemaaGreat.Sx
