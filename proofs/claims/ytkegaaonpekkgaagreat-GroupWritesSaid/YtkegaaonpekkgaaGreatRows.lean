/-
  No cell of these rows narrows 'for every input' (looked for: loops, veiled, ifaces, maps, wideKeys, modest, calm, conditions, laid).
  DERIVED. THE GIVEN ROWS OF THIS SEAT. 3 by the template 'for every input the law returns true; each argument reads behind the call as it read before'; 0 by the template 'total and deterministic' (their statements: YtkegaaonpekkgaaGreatTotals.lean).
  GIVEN WITH THE SEED: the statements are not yours to turn. If you find one false, say at which input.
  Laid BY PROGRAM, IN A SANDBOX (cutbox-rows.mjs): the forced cells as the released guide's own fill.sh prints them over the translation 8cd9a93409cdf508… (all of the seat's roots in one cut). By AI agents, Wed Nov 11 2026. No macro, syntax, notation, axiom, sorry.
-/
import Derived.Test.YtkegaaonpekkgaaGreatChecked
import GoSem.Claim
import GoSem.ClaimJoined
import GoSem.ClaimMapViews
import Derived.JoinedTies
import Derived.KernelRfl
namespace Go.Proofs.YtkegaaonpekkgaaGreat
/- THE CELL 'sum', in the pinned program and in every row, IS THE sha256 OF THE DUMP (.gsa) THAT YtkegaaonpekkgaaGreatProg.lean LOADS. Nothing in Lean hashes anything: it is a label: what it is worth is what the hold of that sum in a sandbox is worth. -/
noncomputable def Tryz.pinned : Pinned := { name := "ytkegaaonpekkgaagreat", sum := "8cd9a93409cdf5088c32dca52dfcf4570723c873bce3c9582fc1abe846c45453", checked := Tryz.checked }
namespace Rows
def none {H : Type} : Left H := { results := [], args := [] }

/-- 'ratlinelaw25.GroupNews': WHATEVER THE INPUT: true; the input reads as it did. -/
def groupNewsSpec : ChangeSpec := { name := "groupNews", fn := fun _ => fun
  | [d1, d2, d3] => { results := [.lit (.bool true)], args := [d1, d2, d3] }
  | _ => none }
def groupNewsRow : OpenClaim := { program := "ytkegaaonpekkgaagreat", sum := "8cd9a93409cdf5088c32dca52dfcf4570723c873bce3c9582fc1abe846c45453", func := "ratline/ratlinelaw25.GroupNews", spec := "groupNews", inPlace := ["math/bits.Add64", "internal/bytealg.MakeNoZero", "math/bits.Sub64", "slices.overlaps[int]"], unfollowed := true, recurses := true, apart := false }
def GroupNewsSaid : Prop := groupNewsRow.holds Tryz.pinned (OpenSpec.ofChange groupNewsSpec)

/-- ITS FALSE NEIGHBOUR: 'it returns false'. Refute it at one input. -/
def groupNewsWrong : ChangeSpec := { name := "groupNews", fn := fun _ => fun
  | [d1, d2, d3] => { results := [.lit (.bool false)], args := [d1, d2, d3] }
  | _ => none }
def GroupNewsWrongFalsely : Prop := groupNewsRow.holds Tryz.pinned (OpenSpec.ofChange groupNewsWrong)

/-- 'ratlinelaw25.GroupWrites': WHATEVER THE INPUT: true; the input reads as it did. -/
def groupWritesSpec : ChangeSpec := { name := "groupWrites", fn := fun _ => fun
  | [d1, d2, d3, d4, d5, d6, d7] => { results := [.lit (.bool true)], args := [d1, d2, d3, d4, d5, d6, d7] }
  | _ => none }
def groupWritesRow : OpenClaim := { program := "ytkegaaonpekkgaagreat", sum := "8cd9a93409cdf5088c32dca52dfcf4570723c873bce3c9582fc1abe846c45453", func := "ratline/ratlinelaw25.GroupWrites", spec := "groupWrites", inPlace := ["math/bits.Add64", "internal/bytealg.MakeNoZero", "math/bits.Sub64", "slices.overlaps[int]"], unfollowed := true, recurses := true, apart := false }
def GroupWritesSaid : Prop := groupWritesRow.holds Tryz.pinned (OpenSpec.ofChange groupWritesSpec)

/-- ITS FALSE NEIGHBOUR: 'it returns false'. Refute it at one input. -/
def groupWritesWrong : ChangeSpec := { name := "groupWrites", fn := fun _ => fun
  | [d1, d2, d3, d4, d5, d6, d7] => { results := [.lit (.bool false)], args := [d1, d2, d3, d4, d5, d6, d7] }
  | _ => none }
def GroupWritesWrongFalsely : Prop := groupWritesRow.holds Tryz.pinned (OpenSpec.ofChange groupWritesWrong)

/-- 'ratlinelaw25.GroupNil': WHATEVER THE INPUT: true; the input reads as it did. -/
def groupNilSpec : ChangeSpec := { name := "groupNil", fn := fun _ => fun
  | [d1, d2] => { results := [.lit (.bool true)], args := [d1, d2] }
  | _ => none }
def groupNilRow : OpenClaim := { program := "ytkegaaonpekkgaagreat", sum := "8cd9a93409cdf5088c32dca52dfcf4570723c873bce3c9582fc1abe846c45453", func := "ratline/ratlinelaw25.GroupNil", spec := "groupNil", inPlace := ["math/bits.Add64", "internal/bytealg.MakeNoZero", "math/bits.Sub64", "slices.overlaps[int]"], unfollowed := true, recurses := true, apart := false }
def GroupNilSaid : Prop := groupNilRow.holds Tryz.pinned (OpenSpec.ofChange groupNilSpec)

/-- ITS FALSE NEIGHBOUR: 'it returns false'. Refute it at one input. -/
def groupNilWrong : ChangeSpec := { name := "groupNil", fn := fun _ => fun
  | [d1, d2] => { results := [.lit (.bool false)], args := [d1, d2] }
  | _ => none }
def GroupNilWrongFalsely : Prop := groupNilRow.holds Tryz.pinned (OpenSpec.ofChange groupNilWrong)

/- THE SECOND FORM. 'bulk': how many values and letters a reading holds, each counted each time it is reached (what is shared counts as often as it is met; a slice's spare places count too). A statement '..UptoSaid' is the law's where the arguments, and the package variables that the reading takes, are together of bulk at most 1048576: NARROWER than '..Said'. Prove '..Said' where nothing that the law and all that it calls make is longer than what came in: it says more and counts as full. Else prove '..UptoSaid'. A law counts once. -/
mutual
def uptoBulk {H : Type} : DataW H → Nat
  | .lit (.string bytes) => bytes.length + 1
  | .lit _ => 1
  | .nil => 1
  | .ptr d => uptoBulk d + 1
  | .slice elems spare => uptoBulkAll elems + uptoBulkAll spare + 1
  | .agg parts => uptoBulkAll parts + 1
  | .iface _ d => uptoBulk d + 1
  | .map entries => uptoBulkEntries entries + 1
  | .held _ => 1
def uptoBulkAll {H : Type} : List (DataW H) → Nat
  | [] => 0
  | d :: r => uptoBulk d + uptoBulkAll r
def uptoBulkEntries {H : Type} : List (Lit × DataW H) → Nat
  | [] => 0
  | x :: r => uptoBulkEntry x + uptoBulkEntries r
def uptoBulkEntry {H : Type} : Lit × DataW H → Nat
  | (.string bytes, d) => bytes.length + uptoBulk d + 1
  | (_, d) => uptoBulk d + 1
 end
def uptoSmall : (H : Type) → List (DataW H) → Bool := fun _ ds => decide (uptoBulkAll ds ≤ 1048576)
def OpenSpec.upto (s : _root_.Go.ChangeSpec) : _root_.Go.OpenSpec := { _root_.Go.OpenSpec.ofChange s with cond := some uptoSmall }

/-- 'ratlinelaw25.GroupNews', WHERE WHAT IT READS IS OF BULK AT MOST 1048576: true; the input reads as it did. -/
def groupNewsUptoRow : OpenClaim := { program := "ytkegaaonpekkgaagreat", sum := "8cd9a93409cdf5088c32dca52dfcf4570723c873bce3c9582fc1abe846c45453", func := "ratline/ratlinelaw25.GroupNews", spec := "groupNews", inPlace := ["math/bits.Add64", "internal/bytealg.MakeNoZero", "math/bits.Sub64", "slices.overlaps[int]"], unfollowed := true, recurses := true, apart := false, narrowed := true }
def GroupNewsUptoSaid : Prop := groupNewsUptoRow.holds Tryz.pinned (OpenSpec.upto groupNewsSpec)

/-- 'ratlinelaw25.GroupWrites', WHERE WHAT IT READS IS OF BULK AT MOST 1048576: true; the input reads as it did. -/
def groupWritesUptoRow : OpenClaim := { program := "ytkegaaonpekkgaagreat", sum := "8cd9a93409cdf5088c32dca52dfcf4570723c873bce3c9582fc1abe846c45453", func := "ratline/ratlinelaw25.GroupWrites", spec := "groupWrites", inPlace := ["math/bits.Add64", "internal/bytealg.MakeNoZero", "math/bits.Sub64", "slices.overlaps[int]"], unfollowed := true, recurses := true, apart := false, narrowed := true }
def GroupWritesUptoSaid : Prop := groupWritesUptoRow.holds Tryz.pinned (OpenSpec.upto groupWritesSpec)

/-- 'ratlinelaw25.GroupNil', WHERE WHAT IT READS IS OF BULK AT MOST 1048576: true; the input reads as it did. -/
def groupNilUptoRow : OpenClaim := { program := "ytkegaaonpekkgaagreat", sum := "8cd9a93409cdf5088c32dca52dfcf4570723c873bce3c9582fc1abe846c45453", func := "ratline/ratlinelaw25.GroupNil", spec := "groupNil", inPlace := ["math/bits.Add64", "internal/bytealg.MakeNoZero", "math/bits.Sub64", "slices.overlaps[int]"], unfollowed := true, recurses := true, apart := false, narrowed := true }
def GroupNilUptoSaid : Prop := groupNilUptoRow.holds Tryz.pinned (OpenSpec.upto groupNilSpec)

end Rows
end Go.Proofs.YtkegaaonpekkgaaGreat
