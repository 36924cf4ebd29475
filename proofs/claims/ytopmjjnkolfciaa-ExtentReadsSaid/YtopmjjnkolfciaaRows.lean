/-
  No cell of these rows narrows 'for every input' (looked for: loops, veiled, ifaces, maps, wideKeys, modest, calm, conditions, laid).
  DERIVED. THE GIVEN ROWS OF THIS SEAT. 8 by the template 'for every input the law returns true; each argument reads behind the call as it read before'; 0 by the template 'total and deterministic' (their statements: YtopmjjnkolfciaaTotals.lean).
  GIVEN WITH THE SEED: the statements are not yours to turn. If you find one false, say at which input.
  Laid BY PROGRAM, IN A SANDBOX (cutbox-rows.mjs): the forced cells as the released guide's own fill.sh prints them over the translation bc5ce59ca5528336… (all of the seat's roots in one cut). By AI agents, Wed Nov 11 2026. No macro, syntax, notation, axiom, sorry.
-/
import Derived.Test.YtopmjjnkolfciaaChecked
import GoSem.Claim
import GoSem.ClaimJoined
import GoSem.ClaimMapViews
import Derived.JoinedTies
import Derived.KernelRfl
namespace Go.Proofs.Ytopmjjnkolfciaa
/- THE CELL 'sum', in the pinned program and in every row, IS THE sha256 OF THE DUMP (.gsa) THAT YtopmjjnkolfciaaProg.lean LOADS. Nothing in Lean hashes anything: it is a label: what it is worth is what the hold of that sum in a sandbox is worth. -/
noncomputable def Try.pinned : Pinned := { name := "ytopmjjnkolfciaa", sum := "bc5ce59ca55283361986fab292db189462af00bda35fd130428f08b1d784e3e9", checked := Try.checked }
namespace Rows
def none {H : Type} : Left H := { results := [], args := [] }

/-- 'undercroftlaw10.ExtentWhole': WHATEVER THE INPUT: true; the input reads as it did. -/
def extentWholeSpec : ChangeSpec := { name := "extentWhole", fn := fun _ => fun
  | [d1, d2] => { results := [.lit (.bool true)], args := [d1, d2] }
  | _ => none }
def extentWholeRow : OpenClaim := { program := "ytopmjjnkolfciaa", sum := "bc5ce59ca55283361986fab292db189462af00bda35fd130428f08b1d784e3e9", func := "undercroft/undercroftlaw10.ExtentWhole", spec := "extentWhole", inPlace := ["slices.overlaps[undercroft/api.Extent]"], unfollowed := true, recurses := true, apart := false }
def ExtentWholeSaid : Prop := extentWholeRow.holds Try.pinned (OpenSpec.ofChange extentWholeSpec)

/-- ITS FALSE NEIGHBOUR: 'it returns false'. Refute it at one input. -/
def extentWholeWrong : ChangeSpec := { name := "extentWhole", fn := fun _ => fun
  | [d1, d2] => { results := [.lit (.bool false)], args := [d1, d2] }
  | _ => none }
def ExtentWholeWrongFalsely : Prop := extentWholeRow.holds Try.pinned (OpenSpec.ofChange extentWholeWrong)

/-- 'undercroftlaw10.ExtentPuts': WHATEVER THE INPUT: true; the input reads as it did. -/
def extentPutsSpec : ChangeSpec := { name := "extentPuts", fn := fun _ => fun
  | [d1, d2] => { results := [.lit (.bool true)], args := [d1, d2] }
  | _ => none }
def extentPutsRow : OpenClaim := { program := "ytopmjjnkolfciaa", sum := "bc5ce59ca55283361986fab292db189462af00bda35fd130428f08b1d784e3e9", func := "undercroft/undercroftlaw10.ExtentPuts", spec := "extentPuts", inPlace := ["slices.overlaps[undercroft/api.Extent]"], unfollowed := true, recurses := true, apart := false }
def ExtentPutsSaid : Prop := extentPutsRow.holds Try.pinned (OpenSpec.ofChange extentPutsSpec)

/-- ITS FALSE NEIGHBOUR: 'it returns false'. Refute it at one input. -/
def extentPutsWrong : ChangeSpec := { name := "extentPuts", fn := fun _ => fun
  | [d1, d2] => { results := [.lit (.bool false)], args := [d1, d2] }
  | _ => none }
def ExtentPutsWrongFalsely : Prop := extentPutsRow.holds Try.pinned (OpenSpec.ofChange extentPutsWrong)

/-- 'undercroftlaw10.ExtentGiven': WHATEVER THE INPUT: true; the input reads as it did. -/
def extentGivenSpec : ChangeSpec := { name := "extentGiven", fn := fun _ => fun
  | [d1, d2, d3] => { results := [.lit (.bool true)], args := [d1, d2, d3] }
  | _ => none }
def extentGivenRow : OpenClaim := { program := "ytopmjjnkolfciaa", sum := "bc5ce59ca55283361986fab292db189462af00bda35fd130428f08b1d784e3e9", func := "undercroft/undercroftlaw10.ExtentGiven", spec := "extentGiven", inPlace := ["slices.overlaps[undercroft/api.Extent]"], unfollowed := true, recurses := true, apart := false }
def ExtentGivenSaid : Prop := extentGivenRow.holds Try.pinned (OpenSpec.ofChange extentGivenSpec)

/-- ITS FALSE NEIGHBOUR: 'it returns false'. Refute it at one input. -/
def extentGivenWrong : ChangeSpec := { name := "extentGiven", fn := fun _ => fun
  | [d1, d2, d3] => { results := [.lit (.bool false)], args := [d1, d2, d3] }
  | _ => none }
def ExtentGivenWrongFalsely : Prop := extentGivenRow.holds Try.pinned (OpenSpec.ofChange extentGivenWrong)

/-- 'undercroftlaw10.ExtentMarks': WHATEVER THE INPUT: true; the input reads as it did. -/
def extentMarksSpec : ChangeSpec := { name := "extentMarks", fn := fun _ => fun
  | [d1, d2, d3] => { results := [.lit (.bool true)], args := [d1, d2, d3] }
  | _ => none }
def extentMarksRow : OpenClaim := { program := "ytopmjjnkolfciaa", sum := "bc5ce59ca55283361986fab292db189462af00bda35fd130428f08b1d784e3e9", func := "undercroft/undercroftlaw10.ExtentMarks", spec := "extentMarks", inPlace := ["slices.overlaps[undercroft/api.Extent]"], unfollowed := true, recurses := true, apart := false }
def ExtentMarksSaid : Prop := extentMarksRow.holds Try.pinned (OpenSpec.ofChange extentMarksSpec)

/-- ITS FALSE NEIGHBOUR: 'it returns false'. Refute it at one input. -/
def extentMarksWrong : ChangeSpec := { name := "extentMarks", fn := fun _ => fun
  | [d1, d2, d3] => { results := [.lit (.bool false)], args := [d1, d2, d3] }
  | _ => none }
def ExtentMarksWrongFalsely : Prop := extentMarksRow.holds Try.pinned (OpenSpec.ofChange extentMarksWrong)

/-- 'undercroftlaw10.ExtentCuts': WHATEVER THE INPUT: true; the input reads as it did. -/
def extentCutsSpec : ChangeSpec := { name := "extentCuts", fn := fun _ => fun
  | [d1, d2, d3] => { results := [.lit (.bool true)], args := [d1, d2, d3] }
  | _ => none }
def extentCutsRow : OpenClaim := { program := "ytopmjjnkolfciaa", sum := "bc5ce59ca55283361986fab292db189462af00bda35fd130428f08b1d784e3e9", func := "undercroft/undercroftlaw10.ExtentCuts", spec := "extentCuts", inPlace := ["slices.overlaps[undercroft/api.Extent]"], unfollowed := true, recurses := true, apart := false }
def ExtentCutsSaid : Prop := extentCutsRow.holds Try.pinned (OpenSpec.ofChange extentCutsSpec)

/-- ITS FALSE NEIGHBOUR: 'it returns false'. Refute it at one input. -/
def extentCutsWrong : ChangeSpec := { name := "extentCuts", fn := fun _ => fun
  | [d1, d2, d3] => { results := [.lit (.bool false)], args := [d1, d2, d3] }
  | _ => none }
def ExtentCutsWrongFalsely : Prop := extentCutsRow.holds Try.pinned (OpenSpec.ofChange extentCutsWrong)

/-- 'undercroftlaw10.ExtentBlocks': WHATEVER THE INPUT: true; the input reads as it did. -/
def extentBlocksSpec : ChangeSpec := { name := "extentBlocks", fn := fun _ => fun
  | [d1, d2, d3] => { results := [.lit (.bool true)], args := [d1, d2, d3] }
  | _ => none }
def extentBlocksRow : OpenClaim := { program := "ytopmjjnkolfciaa", sum := "bc5ce59ca55283361986fab292db189462af00bda35fd130428f08b1d784e3e9", func := "undercroft/undercroftlaw10.ExtentBlocks", spec := "extentBlocks", inPlace := ["slices.overlaps[undercroft/api.Extent]"], unfollowed := true, recurses := true, apart := false }
def ExtentBlocksSaid : Prop := extentBlocksRow.holds Try.pinned (OpenSpec.ofChange extentBlocksSpec)

/-- ITS FALSE NEIGHBOUR: 'it returns false'. Refute it at one input. -/
def extentBlocksWrong : ChangeSpec := { name := "extentBlocks", fn := fun _ => fun
  | [d1, d2, d3] => { results := [.lit (.bool false)], args := [d1, d2, d3] }
  | _ => none }
def ExtentBlocksWrongFalsely : Prop := extentBlocksRow.holds Try.pinned (OpenSpec.ofChange extentBlocksWrong)

/-- 'undercroftlaw10.ExtentStores': WHATEVER THE INPUT: true; the input reads as it did. -/
def extentStoresSpec : ChangeSpec := { name := "extentStores", fn := fun _ => fun
  | [d1, d2] => { results := [.lit (.bool true)], args := [d1, d2] }
  | _ => none }
def extentStoresRow : OpenClaim := { program := "ytopmjjnkolfciaa", sum := "bc5ce59ca55283361986fab292db189462af00bda35fd130428f08b1d784e3e9", func := "undercroft/undercroftlaw10.ExtentStores", spec := "extentStores", inPlace := ["slices.overlaps[undercroft/api.Extent]"], unfollowed := true, recurses := true, apart := false }
def ExtentStoresSaid : Prop := extentStoresRow.holds Try.pinned (OpenSpec.ofChange extentStoresSpec)

/-- ITS FALSE NEIGHBOUR: 'it returns false'. Refute it at one input. -/
def extentStoresWrong : ChangeSpec := { name := "extentStores", fn := fun _ => fun
  | [d1, d2] => { results := [.lit (.bool false)], args := [d1, d2] }
  | _ => none }
def ExtentStoresWrongFalsely : Prop := extentStoresRow.holds Try.pinned (OpenSpec.ofChange extentStoresWrong)

/-- 'undercroftlaw10.ExtentReads': WHATEVER THE INPUT: true; the input reads as it did. -/
def extentReadsSpec : ChangeSpec := { name := "extentReads", fn := fun _ => fun
  | [d1, d2] => { results := [.lit (.bool true)], args := [d1, d2] }
  | _ => none }
def extentReadsRow : OpenClaim := { program := "ytopmjjnkolfciaa", sum := "bc5ce59ca55283361986fab292db189462af00bda35fd130428f08b1d784e3e9", func := "undercroft/undercroftlaw10.ExtentReads", spec := "extentReads", inPlace := ["slices.overlaps[undercroft/api.Extent]"], unfollowed := true, recurses := true, apart := false }
def ExtentReadsSaid : Prop := extentReadsRow.holds Try.pinned (OpenSpec.ofChange extentReadsSpec)

/-- ITS FALSE NEIGHBOUR: 'it returns false'. Refute it at one input. -/
def extentReadsWrong : ChangeSpec := { name := "extentReads", fn := fun _ => fun
  | [d1, d2] => { results := [.lit (.bool false)], args := [d1, d2] }
  | _ => none }
def ExtentReadsWrongFalsely : Prop := extentReadsRow.holds Try.pinned (OpenSpec.ofChange extentReadsWrong)

/- THE SECOND FORM. 'bulk': how many values and letters a reading holds, each counted each time it is reached (what is shared counts as often as it is met; a slice's spare places count too). A statement '..UptoSaid' is the law's where the arguments, and the package variables that the reading takes, are together of bulk at most 1048576: NARROWER than '..Said'. Prove '..Said' where nothing that the law and all that it calls make is longer than what came in: it says more and counts as full. Else prove '..UptoSaid'. A law counts once. -/
mutual
def uptoBulk {H : Type} : DataW H → Nat
  | .lit (.string bytes) => bytes.length + 1
  | .lit _ => 1
  | .nil => 1
  | .ptr d => uptoBulk d + 1
  | .slice elems spare => uptoBulkAll elems + uptoBulkAll spare + 1
  | .agg parts => uptoBulkAll parts + 1
  | .iface _ d => uptoBulk d + 1
  | .map entries => uptoBulkEntries entries + 1
  | .held _ => 1
def uptoBulkAll {H : Type} : List (DataW H) → Nat
  | [] => 0
  | d :: r => uptoBulk d + uptoBulkAll r
def uptoBulkEntries {H : Type} : List (Lit × DataW H) → Nat
  | [] => 0
  | x :: r => uptoBulkEntry x + uptoBulkEntries r
def uptoBulkEntry {H : Type} : Lit × DataW H → Nat
  | (.string bytes, d) => bytes.length + uptoBulk d + 1
  | (_, d) => uptoBulk d + 1
 end
def uptoSmall : (H : Type) → List (DataW H) → Bool := fun _ ds => decide (uptoBulkAll ds ≤ 1048576)
def OpenSpec.upto (s : _root_.Go.ChangeSpec) : _root_.Go.OpenSpec := { _root_.Go.OpenSpec.ofChange s with cond := some uptoSmall }

/-- 'undercroftlaw10.ExtentWhole', WHERE WHAT IT READS IS OF BULK AT MOST 1048576: true; the input reads as it did. -/
def extentWholeUptoRow : OpenClaim := { program := "ytopmjjnkolfciaa", sum := "bc5ce59ca55283361986fab292db189462af00bda35fd130428f08b1d784e3e9", func := "undercroft/undercroftlaw10.ExtentWhole", spec := "extentWhole", inPlace := ["slices.overlaps[undercroft/api.Extent]"], unfollowed := true, recurses := true, apart := false, narrowed := true }
def ExtentWholeUptoSaid : Prop := extentWholeUptoRow.holds Try.pinned (OpenSpec.upto extentWholeSpec)

/-- 'undercroftlaw10.ExtentPuts', WHERE WHAT IT READS IS OF BULK AT MOST 1048576: true; the input reads as it did. -/
def extentPutsUptoRow : OpenClaim := { program := "ytopmjjnkolfciaa", sum := "bc5ce59ca55283361986fab292db189462af00bda35fd130428f08b1d784e3e9", func := "undercroft/undercroftlaw10.ExtentPuts", spec := "extentPuts", inPlace := ["slices.overlaps[undercroft/api.Extent]"], unfollowed := true, recurses := true, apart := false, narrowed := true }
def ExtentPutsUptoSaid : Prop := extentPutsUptoRow.holds Try.pinned (OpenSpec.upto extentPutsSpec)

/-- 'undercroftlaw10.ExtentGiven', WHERE WHAT IT READS IS OF BULK AT MOST 1048576: true; the input reads as it did. -/
def extentGivenUptoRow : OpenClaim := { program := "ytopmjjnkolfciaa", sum := "bc5ce59ca55283361986fab292db189462af00bda35fd130428f08b1d784e3e9", func := "undercroft/undercroftlaw10.ExtentGiven", spec := "extentGiven", inPlace := ["slices.overlaps[undercroft/api.Extent]"], unfollowed := true, recurses := true, apart := false, narrowed := true }
def ExtentGivenUptoSaid : Prop := extentGivenUptoRow.holds Try.pinned (OpenSpec.upto extentGivenSpec)

/-- 'undercroftlaw10.ExtentMarks', WHERE WHAT IT READS IS OF BULK AT MOST 1048576: true; the input reads as it did. -/
def extentMarksUptoRow : OpenClaim := { program := "ytopmjjnkolfciaa", sum := "bc5ce59ca55283361986fab292db189462af00bda35fd130428f08b1d784e3e9", func := "undercroft/undercroftlaw10.ExtentMarks", spec := "extentMarks", inPlace := ["slices.overlaps[undercroft/api.Extent]"], unfollowed := true, recurses := true, apart := false, narrowed := true }
def ExtentMarksUptoSaid : Prop := extentMarksUptoRow.holds Try.pinned (OpenSpec.upto extentMarksSpec)

/-- 'undercroftlaw10.ExtentCuts', WHERE WHAT IT READS IS OF BULK AT MOST 1048576: true; the input reads as it did. -/
def extentCutsUptoRow : OpenClaim := { program := "ytopmjjnkolfciaa", sum := "bc5ce59ca55283361986fab292db189462af00bda35fd130428f08b1d784e3e9", func := "undercroft/undercroftlaw10.ExtentCuts", spec := "extentCuts", inPlace := ["slices.overlaps[undercroft/api.Extent]"], unfollowed := true, recurses := true, apart := false, narrowed := true }
def ExtentCutsUptoSaid : Prop := extentCutsUptoRow.holds Try.pinned (OpenSpec.upto extentCutsSpec)

/-- 'undercroftlaw10.ExtentBlocks', WHERE WHAT IT READS IS OF BULK AT MOST 1048576: true; the input reads as it did. -/
def extentBlocksUptoRow : OpenClaim := { program := "ytopmjjnkolfciaa", sum := "bc5ce59ca55283361986fab292db189462af00bda35fd130428f08b1d784e3e9", func := "undercroft/undercroftlaw10.ExtentBlocks", spec := "extentBlocks", inPlace := ["slices.overlaps[undercroft/api.Extent]"], unfollowed := true, recurses := true, apart := false, narrowed := true }
def ExtentBlocksUptoSaid : Prop := extentBlocksUptoRow.holds Try.pinned (OpenSpec.upto extentBlocksSpec)

/-- 'undercroftlaw10.ExtentStores', WHERE WHAT IT READS IS OF BULK AT MOST 1048576: true; the input reads as it did. -/
def extentStoresUptoRow : OpenClaim := { program := "ytopmjjnkolfciaa", sum := "bc5ce59ca55283361986fab292db189462af00bda35fd130428f08b1d784e3e9", func := "undercroft/undercroftlaw10.ExtentStores", spec := "extentStores", inPlace := ["slices.overlaps[undercroft/api.Extent]"], unfollowed := true, recurses := true, apart := false, narrowed := true }
def ExtentStoresUptoSaid : Prop := extentStoresUptoRow.holds Try.pinned (OpenSpec.upto extentStoresSpec)

/-- 'undercroftlaw10.ExtentReads', WHERE WHAT IT READS IS OF BULK AT MOST 1048576: true; the input reads as it did. -/
def extentReadsUptoRow : OpenClaim := { program := "ytopmjjnkolfciaa", sum := "bc5ce59ca55283361986fab292db189462af00bda35fd130428f08b1d784e3e9", func := "undercroft/undercroftlaw10.ExtentReads", spec := "extentReads", inPlace := ["slices.overlaps[undercroft/api.Extent]"], unfollowed := true, recurses := true, apart := false, narrowed := true }
def ExtentReadsUptoSaid : Prop := extentReadsUptoRow.holds Try.pinned (OpenSpec.upto extentReadsSpec)

end Rows
end Go.Proofs.Ytopmjjnkolfciaa
