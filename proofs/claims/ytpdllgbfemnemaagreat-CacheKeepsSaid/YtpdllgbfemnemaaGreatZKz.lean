import Derived.Test.YtpdllgbfemnemaaGreatZKx
import Derived.Test.YtpdllgbfemnemaaGreatZKv
import Derived.Test.YtpdllgbfemnemaaGreatZLd
namespace Go.Proofs.YtpdllgbfemnemaaGreat.Sx
open Go.RowKit

structure Lean_.input (s : Lean_) : Prop where
  opn : s.opn.length ≤ maxL
  shut : s.shut.length ≤ maxL
  late : ∀ x ∈ s.opn, ∀ u ∈ x.node.par.late, i64 u
  at_ : ∀ x ∈ s.shut, i64 x.at_
end Go.Proofs.YtpdllgbfemnemaaGreat.Sx
