/-
  No cell of these rows narrows 'for every input' (looked for: loops, veiled, ifaces, maps, wideKeys, modest, calm, conditions, laid).
  DERIVED. THE GIVEN ROWS OF THIS SEAT. 6 by the template 'for every input the law returns true; each argument reads behind the call as it read before'; 0 by the template 'total and deterministic' (their statements: YtpdllgbfemnemaaGreatTotals.lean).
  GIVEN WITH THE SEED: the statements are not yours to turn. If you find one false, say at which input.
  Laid BY PROGRAM, IN A SANDBOX (cutbox-rows.mjs): the forced cells as the released guide's own fill.sh prints them over the translation 3e9581f4b82adadf… (all of the seat's roots in one cut). By AI agents, Wed Nov 11 2026. No macro, syntax, notation, axiom, sorry.
-/
import Derived.Test.YtpdllgbfemnemaaGreatChecked
import GoSem.Claim
import GoSem.ClaimJoined
import GoSem.ClaimMapViews
import Derived.JoinedTies
import Derived.KernelRfl
namespace Go.Proofs.YtpdllgbfemnemaaGreat
/- THE CELL 'sum', in the pinned program and in every row, IS THE sha256 OF THE DUMP (.gsa) THAT YtpdllgbfemnemaaGreatProg.lean LOADS. Nothing in Lean hashes anything: it is a label: what it is worth is what the hold of that sum in a sandbox is worth. -/
noncomputable def Tryz.pinned : Pinned := { name := "ytpdllgbfemnemaagreat", sum := "3e9581f4b82adadfee78c4c41315a25150e2765902257c177c1e722e6d45dd64", checked := Tryz.checked }
namespace Rows
def none {H : Type} : Left H := { results := [], args := [] }

/-- 'ratlinelaw29.CacheCounts': WHATEVER THE INPUT: true; the input reads as it did. -/
def cacheCountsSpec : ChangeSpec := { name := "cacheCounts", fn := fun _ => fun
  | [d1, d2] => { results := [.lit (.bool true)], args := [d1, d2] }
  | _ => none }
def cacheCountsRow : OpenClaim := { program := "ytpdllgbfemnemaagreat", sum := "3e9581f4b82adadfee78c4c41315a25150e2765902257c177c1e722e6d45dd64", func := "ratline/ratlinelaw29.CacheCounts", spec := "cacheCounts", unfollowed := true, recurses := true, apart := false }
def CacheCountsSaid : Prop := cacheCountsRow.holds Tryz.pinned (OpenSpec.ofChange cacheCountsSpec)

/-- ITS FALSE NEIGHBOUR: 'it returns false'. Refute it at one input. -/
def cacheCountsWrong : ChangeSpec := { name := "cacheCounts", fn := fun _ => fun
  | [d1, d2] => { results := [.lit (.bool false)], args := [d1, d2] }
  | _ => none }
def CacheCountsWrongFalsely : Prop := cacheCountsRow.holds Tryz.pinned (OpenSpec.ofChange cacheCountsWrong)

/-- 'ratlinelaw29.CacheShuts': WHATEVER THE INPUT: true; the input reads as it did. -/
def cacheShutsSpec : ChangeSpec := { name := "cacheShuts", fn := fun _ => fun
  | [d1, d2] => { results := [.lit (.bool true)], args := [d1, d2] }
  | _ => none }
def cacheShutsRow : OpenClaim := { program := "ytpdllgbfemnemaagreat", sum := "3e9581f4b82adadfee78c4c41315a25150e2765902257c177c1e722e6d45dd64", func := "ratline/ratlinelaw29.CacheShuts", spec := "cacheShuts", inPlace := ["slices.overlaps[ratline/api.Stub]"], unfollowed := true, recurses := true, apart := false }
def CacheShutsSaid : Prop := cacheShutsRow.holds Tryz.pinned (OpenSpec.ofChange cacheShutsSpec)

/-- ITS FALSE NEIGHBOUR: 'it returns false'. Refute it at one input. -/
def cacheShutsWrong : ChangeSpec := { name := "cacheShuts", fn := fun _ => fun
  | [d1, d2] => { results := [.lit (.bool false)], args := [d1, d2] }
  | _ => none }
def CacheShutsWrongFalsely : Prop := cacheShutsRow.holds Tryz.pinned (OpenSpec.ofChange cacheShutsWrong)

/-- 'ratlinelaw29.CacheFits': WHATEVER THE INPUT: true; the input reads as it did. -/
def cacheFitsSpec : ChangeSpec := { name := "cacheFits", fn := fun _ => fun
  | [d1, d2, d3] => { results := [.lit (.bool true)], args := [d1, d2, d3] }
  | _ => none }
def cacheFitsRow : OpenClaim := { program := "ytpdllgbfemnemaagreat", sum := "3e9581f4b82adadfee78c4c41315a25150e2765902257c177c1e722e6d45dd64", func := "ratline/ratlinelaw29.CacheFits", spec := "cacheFits", inPlace := ["slices.overlaps[ratline/api.Stub]"], unfollowed := true, recurses := true, apart := false }
def CacheFitsSaid : Prop := cacheFitsRow.holds Tryz.pinned (OpenSpec.ofChange cacheFitsSpec)

/-- ITS FALSE NEIGHBOUR: 'it returns false'. Refute it at one input. -/
def cacheFitsWrong : ChangeSpec := { name := "cacheFits", fn := fun _ => fun
  | [d1, d2, d3] => { results := [.lit (.bool false)], args := [d1, d2, d3] }
  | _ => none }
def CacheFitsWrongFalsely : Prop := cacheFitsRow.holds Tryz.pinned (OpenSpec.ofChange cacheFitsWrong)

/-- 'ratlinelaw29.CacheKeeps': WHATEVER THE INPUT: true; the input reads as it did. -/
def cacheKeepsSpec : ChangeSpec := { name := "cacheKeeps", fn := fun _ => fun
  | [d1, d2, d3, d4, d5, d6] => { results := [.lit (.bool true)], args := [d1, d2, d3, d4, d5, d6] }
  | _ => none }
def cacheKeepsRow : OpenClaim := { program := "ytpdllgbfemnemaagreat", sum := "3e9581f4b82adadfee78c4c41315a25150e2765902257c177c1e722e6d45dd64", func := "ratline/ratlinelaw29.CacheKeeps", spec := "cacheKeeps", inPlace := ["slices.overlaps[ratline/api.Stub]"], unfollowed := true, recurses := true, apart := false }
def CacheKeepsSaid : Prop := cacheKeepsRow.holds Tryz.pinned (OpenSpec.ofChange cacheKeepsSpec)

/-- ITS FALSE NEIGHBOUR: 'it returns false'. Refute it at one input. -/
def cacheKeepsWrong : ChangeSpec := { name := "cacheKeeps", fn := fun _ => fun
  | [d1, d2, d3, d4, d5, d6] => { results := [.lit (.bool false)], args := [d1, d2, d3, d4, d5, d6] }
  | _ => none }
def CacheKeepsWrongFalsely : Prop := cacheKeepsRow.holds Tryz.pinned (OpenSpec.ofChange cacheKeepsWrong)

/-- 'ratlinelaw29.CacheFills': WHATEVER THE INPUT: true; the input reads as it did. -/
def cacheFillsSpec : ChangeSpec := { name := "cacheFills", fn := fun _ => fun
  | [d1, d2] => { results := [.lit (.bool true)], args := [d1, d2] }
  | _ => none }
def cacheFillsRow : OpenClaim := { program := "ytpdllgbfemnemaagreat", sum := "3e9581f4b82adadfee78c4c41315a25150e2765902257c177c1e722e6d45dd64", func := "ratline/ratlinelaw29.CacheFills", spec := "cacheFills", unfollowed := true, recurses := true, apart := false }
def CacheFillsSaid : Prop := cacheFillsRow.holds Tryz.pinned (OpenSpec.ofChange cacheFillsSpec)

/-- ITS FALSE NEIGHBOUR: 'it returns false'. Refute it at one input. -/
def cacheFillsWrong : ChangeSpec := { name := "cacheFills", fn := fun _ => fun
  | [d1, d2] => { results := [.lit (.bool false)], args := [d1, d2] }
  | _ => none }
def CacheFillsWrongFalsely : Prop := cacheFillsRow.holds Tryz.pinned (OpenSpec.ofChange cacheFillsWrong)

/-- 'ratlinelaw29.CacheSound': WHATEVER THE INPUT: true; the input reads as it did. -/
def cacheSoundSpec : ChangeSpec := { name := "cacheSound", fn := fun _ => fun
  | [d1, d2, d3, d4] => { results := [.lit (.bool true)], args := [d1, d2, d3, d4] }
  | _ => none }
def cacheSoundRow : OpenClaim := { program := "ytpdllgbfemnemaagreat", sum := "3e9581f4b82adadfee78c4c41315a25150e2765902257c177c1e722e6d45dd64", func := "ratline/ratlinelaw29.CacheSound", spec := "cacheSound", inPlace := ["slices.overlaps[ratline/api.Stub]"], unfollowed := true, recurses := true, apart := false }
def CacheSoundSaid : Prop := cacheSoundRow.holds Tryz.pinned (OpenSpec.ofChange cacheSoundSpec)

/-- ITS FALSE NEIGHBOUR: 'it returns false'. Refute it at one input. -/
def cacheSoundWrong : ChangeSpec := { name := "cacheSound", fn := fun _ => fun
  | [d1, d2, d3, d4] => { results := [.lit (.bool false)], args := [d1, d2, d3, d4] }
  | _ => none }
def CacheSoundWrongFalsely : Prop := cacheSoundRow.holds Tryz.pinned (OpenSpec.ofChange cacheSoundWrong)

/- THE SECOND FORM. 'bulk': how many values and letters a reading holds, each counted each time it is reached (what is shared counts as often as it is met; a slice's spare places count too). A statement '..UptoSaid' is the law's where the arguments, and the package variables that the reading takes, are together of bulk at most 1048576: NARROWER than '..Said'. Prove '..Said' where nothing that the law and all that it calls make is longer than what came in: it says more and counts as full. Else prove '..UptoSaid'. A law counts once. -/
mutual
def uptoBulk {H : Type} : DataW H → Nat
  | .lit (.string bytes) => bytes.length + 1
  | .lit _ => 1
  | .nil => 1
  | .ptr d => uptoBulk d + 1
  | .slice elems spare => uptoBulkAll elems + uptoBulkAll spare + 1
  | .agg parts => uptoBulkAll parts + 1
  | .iface _ d => uptoBulk d + 1
  | .map entries => uptoBulkEntries entries + 1
  | .held _ => 1
def uptoBulkAll {H : Type} : List (DataW H) → Nat
  | [] => 0
  | d :: r => uptoBulk d + uptoBulkAll r
def uptoBulkEntries {H : Type} : List (Lit × DataW H) → Nat
  | [] => 0
  | x :: r => uptoBulkEntry x + uptoBulkEntries r
def uptoBulkEntry {H : Type} : Lit × DataW H → Nat
  | (.string bytes, d) => bytes.length + uptoBulk d + 1
  | (_, d) => uptoBulk d + 1
 end
def uptoSmall : (H : Type) → List (DataW H) → Bool := fun _ ds => decide (uptoBulkAll ds ≤ 1048576)
def OpenSpec.upto (s : _root_.Go.ChangeSpec) : _root_.Go.OpenSpec := { _root_.Go.OpenSpec.ofChange s with cond := some uptoSmall }

/-- 'ratlinelaw29.CacheCounts', WHERE WHAT IT READS IS OF BULK AT MOST 1048576: true; the input reads as it did. -/
def cacheCountsUptoRow : OpenClaim := { program := "ytpdllgbfemnemaagreat", sum := "3e9581f4b82adadfee78c4c41315a25150e2765902257c177c1e722e6d45dd64", func := "ratline/ratlinelaw29.CacheCounts", spec := "cacheCounts", unfollowed := true, recurses := true, apart := false, narrowed := true }
def CacheCountsUptoSaid : Prop := cacheCountsUptoRow.holds Tryz.pinned (OpenSpec.upto cacheCountsSpec)

/-- 'ratlinelaw29.CacheShuts', WHERE WHAT IT READS IS OF BULK AT MOST 1048576: true; the input reads as it did. -/
def cacheShutsUptoRow : OpenClaim := { program := "ytpdllgbfemnemaagreat", sum := "3e9581f4b82adadfee78c4c41315a25150e2765902257c177c1e722e6d45dd64", func := "ratline/ratlinelaw29.CacheShuts", spec := "cacheShuts", inPlace := ["slices.overlaps[ratline/api.Stub]"], unfollowed := true, recurses := true, apart := false, narrowed := true }
def CacheShutsUptoSaid : Prop := cacheShutsUptoRow.holds Tryz.pinned (OpenSpec.upto cacheShutsSpec)

/-- 'ratlinelaw29.CacheFits', WHERE WHAT IT READS IS OF BULK AT MOST 1048576: true; the input reads as it did. -/
def cacheFitsUptoRow : OpenClaim := { program := "ytpdllgbfemnemaagreat", sum := "3e9581f4b82adadfee78c4c41315a25150e2765902257c177c1e722e6d45dd64", func := "ratline/ratlinelaw29.CacheFits", spec := "cacheFits", inPlace := ["slices.overlaps[ratline/api.Stub]"], unfollowed := true, recurses := true, apart := false, narrowed := true }
def CacheFitsUptoSaid : Prop := cacheFitsUptoRow.holds Tryz.pinned (OpenSpec.upto cacheFitsSpec)

/-- 'ratlinelaw29.CacheKeeps', WHERE WHAT IT READS IS OF BULK AT MOST 1048576: true; the input reads as it did. -/
def cacheKeepsUptoRow : OpenClaim := { program := "ytpdllgbfemnemaagreat", sum := "3e9581f4b82adadfee78c4c41315a25150e2765902257c177c1e722e6d45dd64", func := "ratline/ratlinelaw29.CacheKeeps", spec := "cacheKeeps", inPlace := ["slices.overlaps[ratline/api.Stub]"], unfollowed := true, recurses := true, apart := false, narrowed := true }
def CacheKeepsUptoSaid : Prop := cacheKeepsUptoRow.holds Tryz.pinned (OpenSpec.upto cacheKeepsSpec)

/-- 'ratlinelaw29.CacheFills', WHERE WHAT IT READS IS OF BULK AT MOST 1048576: true; the input reads as it did. -/
def cacheFillsUptoRow : OpenClaim := { program := "ytpdllgbfemnemaagreat", sum := "3e9581f4b82adadfee78c4c41315a25150e2765902257c177c1e722e6d45dd64", func := "ratline/ratlinelaw29.CacheFills", spec := "cacheFills", unfollowed := true, recurses := true, apart := false, narrowed := true }
def CacheFillsUptoSaid : Prop := cacheFillsUptoRow.holds Tryz.pinned (OpenSpec.upto cacheFillsSpec)

/-- 'ratlinelaw29.CacheSound', WHERE WHAT IT READS IS OF BULK AT MOST 1048576: true; the input reads as it did. -/
def cacheSoundUptoRow : OpenClaim := { program := "ytpdllgbfemnemaagreat", sum := "3e9581f4b82adadfee78c4c41315a25150e2765902257c177c1e722e6d45dd64", func := "ratline/ratlinelaw29.CacheSound", spec := "cacheSound", inPlace := ["slices.overlaps[ratline/api.Stub]"], unfollowed := true, recurses := true, apart := false, narrowed := true }
def CacheSoundUptoSaid : Prop := cacheSoundUptoRow.holds Tryz.pinned (OpenSpec.upto cacheSoundSpec)

end Rows
end Go.Proofs.YtpdllgbfemnemaaGreat
