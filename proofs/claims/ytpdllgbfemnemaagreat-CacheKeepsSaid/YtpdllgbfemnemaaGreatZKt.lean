import Derived.Test.YtpdllgbfemnemaaGreatZKs
namespace Go.Proofs.YtpdllgbfemnemaaGreat.Sx
open Go.RowKit

def hashR (s : Lean_) : Nat → Nat → List UInt8
  | 0, k => match findS s.opn (nd 0 k) with
    | some n => shaB ([1] ++ beB 4 k ++ nodeB n)
    | none => stubB s.shut (nd 0 k)
  | h + 1, k => match findS s.opn (nd (h + 1) k) with
    | some n => shaB ([2] ++ nodeB n ++ (vecB (hashR s h (2 * k)) ++ vecB (hashR s h (2 * k + 1))))
    | none => stubB s.shut (nd (h + 1) k)
end Go.Proofs.YtpdllgbfemnemaaGreat.Sx
