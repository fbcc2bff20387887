/-
  No cell of these rows narrows 'for every input' (looked for: loops, veiled, ifaces, maps, wideKeys, modest, calm, conditions, laid).
  DERIVED. THE GIVEN ROWS OF THIS SEAT. 4 by the template 'for every input the law returns true; each argument reads behind the call as it read before'; 0 by the template 'total and deterministic' (their statements: YtddokcpcpoihmaaGreatTotals.lean).
  GIVEN WITH THE SEED: the statements are not yours to turn. If you find one false, say at which input.
  Laid BY PROGRAM, IN A SANDBOX (cutbox-rows.mjs): the forced cells as the released guide's own fill.sh prints them over the translation dbb02660374cde23… (all of the seat's roots in one cut). By AI agents, Wed Nov 11 2026. No macro, syntax, notation, axiom, sorry.
-/
import Derived.Test.YtddokcpcpoihmaaGreatChecked
import GoSem.Claim
import GoSem.ClaimJoined
import GoSem.ClaimMapViews
import Derived.JoinedTies
import Derived.KernelRfl
namespace Go.Proofs.YtddokcpcpoihmaaGreat
/- THE CELL 'sum', in the pinned program and in every row, IS THE sha256 OF THE DUMP (.gsa) THAT YtddokcpcpoihmaaGreatProg.lean LOADS. Nothing in Lean hashes anything: it is a label: what it is worth is what the hold of that sum in a sandbox is worth. -/
noncomputable def Tryz.pinned : Pinned := { name := "ytddokcpcpoihmaagreat", sum := "dbb02660374cde23b59ef9858d1c4a9e33abd481f6b543e55342e7eeaf873885", checked := Tryz.checked }
namespace Rows
def none {H : Type} : Left H := { results := [], args := [] }

/-- 'ratlinelaw22.PropsRaw': WHATEVER THE INPUT: true; the input reads as it did. -/
def propsRawSpec : ChangeSpec := { name := "propsRaw", fn := fun _ => fun
  | [d1, d2, d3, d4, d5] => { results := [.lit (.bool true)], args := [d1, d2, d3, d4, d5] }
  | _ => none }
def propsRawRow : OpenClaim := { program := "ytddokcpcpoihmaagreat", sum := "dbb02660374cde23b59ef9858d1c4a9e33abd481f6b543e55342e7eeaf873885", func := "ratline/ratlinelaw22.PropsRaw", spec := "propsRaw", inPlace := ["math/bits.Add64", "internal/bytealg.MakeNoZero", "math/bits.Sub64", "slices.overlaps[int]"], unfollowed := true, recurses := true, apart := false }
def PropsRawSaid : Prop := propsRawRow.holds Tryz.pinned (OpenSpec.ofChange propsRawSpec)

/-- ITS FALSE NEIGHBOUR: 'it returns false'. Refute it at one input. -/
def propsRawWrong : ChangeSpec := { name := "propsRaw", fn := fun _ => fun
  | [d1, d2, d3, d4, d5] => { results := [.lit (.bool false)], args := [d1, d2, d3, d4, d5] }
  | _ => none }
def PropsRawWrongFalsely : Prop := propsRawRow.holds Tryz.pinned (OpenSpec.ofChange propsRawWrong)

/-- 'ratlinelaw22.PropsRenews': WHATEVER THE INPUT: true; the input reads as it did. -/
def propsRenewsSpec : ChangeSpec := { name := "propsRenews", fn := fun _ => fun
  | [d1, d2, d3, d4, d5] => { results := [.lit (.bool true)], args := [d1, d2, d3, d4, d5] }
  | _ => none }
def propsRenewsRow : OpenClaim := { program := "ytddokcpcpoihmaagreat", sum := "dbb02660374cde23b59ef9858d1c4a9e33abd481f6b543e55342e7eeaf873885", func := "ratline/ratlinelaw22.PropsRenews", spec := "propsRenews", inPlace := ["math/bits.Add64", "internal/bytealg.MakeNoZero", "math/bits.Sub64", "slices.overlaps[int]"], unfollowed := true, recurses := true, apart := false }
def PropsRenewsSaid : Prop := propsRenewsRow.holds Tryz.pinned (OpenSpec.ofChange propsRenewsSpec)

/-- ITS FALSE NEIGHBOUR: 'it returns false'. Refute it at one input. -/
def propsRenewsWrong : ChangeSpec := { name := "propsRenews", fn := fun _ => fun
  | [d1, d2, d3, d4, d5] => { results := [.lit (.bool false)], args := [d1, d2, d3, d4, d5] }
  | _ => none }
def PropsRenewsWrongFalsely : Prop := propsRenewsRow.holds Tryz.pinned (OpenSpec.ofChange propsRenewsWrong)

/-- 'ratlinelaw22.PropsPackages': WHATEVER THE INPUT: true; the input reads as it did. -/
def propsPackagesSpec : ChangeSpec := { name := "propsPackages", fn := fun _ => fun
  | [d1, d2] => { results := [.lit (.bool true)], args := [d1, d2] }
  | _ => none }
def propsPackagesRow : OpenClaim := { program := "ytddokcpcpoihmaagreat", sum := "dbb02660374cde23b59ef9858d1c4a9e33abd481f6b543e55342e7eeaf873885", func := "ratline/ratlinelaw22.PropsPackages", spec := "propsPackages", inPlace := ["math/bits.Add64", "internal/bytealg.MakeNoZero", "math/bits.Sub64", "slices.overlaps[int]"], unfollowed := true, recurses := true, apart := false }
def PropsPackagesSaid : Prop := propsPackagesRow.holds Tryz.pinned (OpenSpec.ofChange propsPackagesSpec)

/-- ITS FALSE NEIGHBOUR: 'it returns false'. Refute it at one input. -/
def propsPackagesWrong : ChangeSpec := { name := "propsPackages", fn := fun _ => fun
  | [d1, d2] => { results := [.lit (.bool false)], args := [d1, d2] }
  | _ => none }
def PropsPackagesWrongFalsely : Prop := propsPackagesRow.holds Tryz.pinned (OpenSpec.ofChange propsPackagesWrong)

/-- 'ratlinelaw22.PropsHolds': WHATEVER THE INPUT: true; the input reads as it did. -/
def propsHoldsSpec : ChangeSpec := { name := "propsHolds", fn := fun _ => fun
  | [d1, d2, d3, d4, d5] => { results := [.lit (.bool true)], args := [d1, d2, d3, d4, d5] }
  | _ => none }
def propsHoldsRow : OpenClaim := { program := "ytddokcpcpoihmaagreat", sum := "dbb02660374cde23b59ef9858d1c4a9e33abd481f6b543e55342e7eeaf873885", func := "ratline/ratlinelaw22.PropsHolds", spec := "propsHolds", inPlace := ["math/bits.Add64", "internal/bytealg.MakeNoZero", "math/bits.Sub64", "slices.overlaps[int]"], unfollowed := true, recurses := true, apart := false }
def PropsHoldsSaid : Prop := propsHoldsRow.holds Tryz.pinned (OpenSpec.ofChange propsHoldsSpec)

/-- ITS FALSE NEIGHBOUR: 'it returns false'. Refute it at one input. -/
def propsHoldsWrong : ChangeSpec := { name := "propsHolds", fn := fun _ => fun
  | [d1, d2, d3, d4, d5] => { results := [.lit (.bool false)], args := [d1, d2, d3, d4, d5] }
  | _ => none }
def PropsHoldsWrongFalsely : Prop := propsHoldsRow.holds Tryz.pinned (OpenSpec.ofChange propsHoldsWrong)

/- THE SECOND FORM. 'bulk': how many values and letters a reading holds, each counted each time it is reached (what is shared counts as often as it is met; a slice's spare places count too). A statement '..UptoSaid' is the law's where the arguments, and the package variables that the reading takes, are together of bulk at most 1048576: NARROWER than '..Said'. Prove '..Said' where nothing that the law and all that it calls make is longer than what came in: it says more and counts as full. Else prove '..UptoSaid'. A law counts once. -/
mutual
def uptoBulk {H : Type} : DataW H → Nat
  | .lit (.string bytes) => bytes.length + 1
  | .lit _ => 1
  | .nil => 1
  | .ptr d => uptoBulk d + 1
  | .slice elems spare => uptoBulkAll elems + uptoBulkAll spare + 1
  | .agg parts => uptoBulkAll parts + 1
  | .iface _ d => uptoBulk d + 1
  | .map entries => uptoBulkEntries entries + 1
  | .held _ => 1
def uptoBulkAll {H : Type} : List (DataW H) → Nat
  | [] => 0
  | d :: r => uptoBulk d + uptoBulkAll r
def uptoBulkEntries {H : Type} : List (Lit × DataW H) → Nat
  | [] => 0
  | x :: r => uptoBulkEntry x + uptoBulkEntries r
def uptoBulkEntry {H : Type} : Lit × DataW H → Nat
  | (.string bytes, d) => bytes.length + uptoBulk d + 1
  | (_, d) => uptoBulk d + 1
 end
def uptoSmall : (H : Type) → List (DataW H) → Bool := fun _ ds => decide (uptoBulkAll ds ≤ 1048576)
def OpenSpec.upto (s : _root_.Go.ChangeSpec) : _root_.Go.OpenSpec := { _root_.Go.OpenSpec.ofChange s with cond := some uptoSmall }

/-- 'ratlinelaw22.PropsRaw', WHERE WHAT IT READS IS OF BULK AT MOST 1048576: true; the input reads as it did. -/
def propsRawUptoRow : OpenClaim := { program := "ytddokcpcpoihmaagreat", sum := "dbb02660374cde23b59ef9858d1c4a9e33abd481f6b543e55342e7eeaf873885", func := "ratline/ratlinelaw22.PropsRaw", spec := "propsRaw", inPlace := ["math/bits.Add64", "internal/bytealg.MakeNoZero", "math/bits.Sub64", "slices.overlaps[int]"], unfollowed := true, recurses := true, apart := false, narrowed := true }
def PropsRawUptoSaid : Prop := propsRawUptoRow.holds Tryz.pinned (OpenSpec.upto propsRawSpec)

/-- 'ratlinelaw22.PropsRenews', WHERE WHAT IT READS IS OF BULK AT MOST 1048576: true; the input reads as it did. -/
def propsRenewsUptoRow : OpenClaim := { program := "ytddokcpcpoihmaagreat", sum := "dbb02660374cde23b59ef9858d1c4a9e33abd481f6b543e55342e7eeaf873885", func := "ratline/ratlinelaw22.PropsRenews", spec := "propsRenews", inPlace := ["math/bits.Add64", "internal/bytealg.MakeNoZero", "math/bits.Sub64", "slices.overlaps[int]"], unfollowed := true, recurses := true, apart := false, narrowed := true }
def PropsRenewsUptoSaid : Prop := propsRenewsUptoRow.holds Tryz.pinned (OpenSpec.upto propsRenewsSpec)

/-- 'ratlinelaw22.PropsPackages', WHERE WHAT IT READS IS OF BULK AT MOST 1048576: true; the input reads as it did. -/
def propsPackagesUptoRow : OpenClaim := { program := "ytddokcpcpoihmaagreat", sum := "dbb02660374cde23b59ef9858d1c4a9e33abd481f6b543e55342e7eeaf873885", func := "ratline/ratlinelaw22.PropsPackages", spec := "propsPackages", inPlace := ["math/bits.Add64", "internal/bytealg.MakeNoZero", "math/bits.Sub64", "slices.overlaps[int]"], unfollowed := true, recurses := true, apart := false, narrowed := true }
def PropsPackagesUptoSaid : Prop := propsPackagesUptoRow.holds Tryz.pinned (OpenSpec.upto propsPackagesSpec)

/-- 'ratlinelaw22.PropsHolds', WHERE WHAT IT READS IS OF BULK AT MOST 1048576: true; the input reads as it did. -/
def propsHoldsUptoRow : OpenClaim := { program := "ytddokcpcpoihmaagreat", sum := "dbb02660374cde23b59ef9858d1c4a9e33abd481f6b543e55342e7eeaf873885", func := "ratline/ratlinelaw22.PropsHolds", spec := "propsHolds", inPlace := ["math/bits.Add64", "internal/bytealg.MakeNoZero", "math/bits.Sub64", "slices.overlaps[int]"], unfollowed := true, recurses := true, apart := false, narrowed := true }
def PropsHoldsUptoSaid : Prop := propsHoldsUptoRow.holds Tryz.pinned (OpenSpec.upto propsHoldsSpec)

end Rows
end Go.Proofs.YtddokcpcpoihmaaGreat
