/-
  No cell of these rows narrows 'for every input' (looked for: loops, veiled, ifaces, maps, wideKeys, modest, calm, conditions, laid).
  DERIVED. THE GIVEN ROWS OF THIS SEAT. 6 by the template 'for every input the law returns true; each argument reads behind the call as it read before'; 0 by the template 'total and deterministic' (their statements: YtdobcojmfhdinaaTotals.lean).
  GIVEN WITH THE SEED: the statements are not yours to turn. If you find one false, say at which input.
  Laid BY PROGRAM, IN A SANDBOX (cutbox-rows.mjs): the forced cells as the released guide's own fill.sh prints them over the translation 9d9be8b1d4d32016… (all of the seat's roots in one cut). By AI agents, Wed Nov 11 2026. No macro, syntax, notation, axiom, sorry.
-/
import Derived.Test.YtdobcojmfhdinaaChecked
import GoSem.Claim
import GoSem.ClaimJoined
import GoSem.ClaimMapViews
import Derived.JoinedTies
import Derived.KernelRfl
namespace Go.Proofs.Ytdobcojmfhdinaa
/- THE CELL 'sum', in the pinned program and in every row, IS THE sha256 OF THE DUMP (.gsa) THAT YtdobcojmfhdinaaProg.lean LOADS. Nothing in Lean hashes anything: it is a label: what it is worth is what the hold of that sum in a sandbox is worth. -/
noncomputable def Try.pinned : Pinned := { name := "ytdobcojmfhdinaa", sum := "9d9be8b1d4d3201690d61fbbb74838557b4c96bf16fa9f0af5049b3729918a9c", checked := Try.checked }
namespace Rows
def none {H : Type} : Left H := { results := [], args := [] }

/-- 'undercroftlaw15.SparsePuts': WHATEVER THE INPUT: true; the input reads as it did. -/
def sparsePutsSpec : ChangeSpec := { name := "sparsePuts", fn := fun _ => fun
  | [d1, d2, d3] => { results := [.lit (.bool true)], args := [d1, d2, d3] }
  | _ => none }
def sparsePutsRow : OpenClaim := { program := "ytdobcojmfhdinaa", sum := "9d9be8b1d4d3201690d61fbbb74838557b4c96bf16fa9f0af5049b3729918a9c", func := "undercroft/undercroftlaw15.SparsePuts", spec := "sparsePuts", inPlace := ["internal/bytealg.IndexByteString"], apart := false }
def SparsePutsSaid : Prop := sparsePutsRow.holds Try.pinned (OpenSpec.ofChange sparsePutsSpec)

/-- ITS FALSE NEIGHBOUR: 'it returns false'. Refute it at one input. -/
def sparsePutsWrong : ChangeSpec := { name := "sparsePuts", fn := fun _ => fun
  | [d1, d2, d3] => { results := [.lit (.bool false)], args := [d1, d2, d3] }
  | _ => none }
def SparsePutsWrongFalsely : Prop := sparsePutsRow.holds Try.pinned (OpenSpec.ofChange sparsePutsWrong)

/-- 'undercroftlaw15.SparseOnce': WHATEVER THE INPUT: true; the input reads as it did. -/
def sparseOnceSpec : ChangeSpec := { name := "sparseOnce", fn := fun _ => fun
  | [d1, d2] => { results := [.lit (.bool true)], args := [d1, d2] }
  | _ => none }
def sparseOnceRow : OpenClaim := { program := "ytdobcojmfhdinaa", sum := "9d9be8b1d4d3201690d61fbbb74838557b4c96bf16fa9f0af5049b3729918a9c", func := "undercroft/undercroftlaw15.SparseOnce", spec := "sparseOnce", inPlace := ["internal/bytealg.IndexByteString"], apart := false }
def SparseOnceSaid : Prop := sparseOnceRow.holds Try.pinned (OpenSpec.ofChange sparseOnceSpec)

/-- ITS FALSE NEIGHBOUR: 'it returns false'. Refute it at one input. -/
def sparseOnceWrong : ChangeSpec := { name := "sparseOnce", fn := fun _ => fun
  | [d1, d2] => { results := [.lit (.bool false)], args := [d1, d2] }
  | _ => none }
def SparseOnceWrongFalsely : Prop := sparseOnceRow.holds Try.pinned (OpenSpec.ofChange sparseOnceWrong)

/-- 'undercroftlaw15.SparseReads': WHATEVER THE INPUT: true; the input reads as it did. -/
def sparseReadsSpec : ChangeSpec := { name := "sparseReads", fn := fun _ => fun
  | [d1, d2, d3] => { results := [.lit (.bool true)], args := [d1, d2, d3] }
  | _ => none }
def sparseReadsRow : OpenClaim := { program := "ytdobcojmfhdinaa", sum := "9d9be8b1d4d3201690d61fbbb74838557b4c96bf16fa9f0af5049b3729918a9c", func := "undercroft/undercroftlaw15.SparseReads", spec := "sparseReads", inPlace := ["internal/bytealg.IndexByteString"], apart := false }
def SparseReadsSaid : Prop := sparseReadsRow.holds Try.pinned (OpenSpec.ofChange sparseReadsSpec)

/-- ITS FALSE NEIGHBOUR: 'it returns false'. Refute it at one input. -/
def sparseReadsWrong : ChangeSpec := { name := "sparseReads", fn := fun _ => fun
  | [d1, d2, d3] => { results := [.lit (.bool false)], args := [d1, d2, d3] }
  | _ => none }
def SparseReadsWrongFalsely : Prop := sparseReadsRow.holds Try.pinned (OpenSpec.ofChange sparseReadsWrong)

/-- 'undercroftlaw15.SparseStays': WHATEVER THE INPUT: true; the input reads as it did. -/
def sparseStaysSpec : ChangeSpec := { name := "sparseStays", fn := fun _ => fun
  | [d1, d2, d3] => { results := [.lit (.bool true)], args := [d1, d2, d3] }
  | _ => none }
def sparseStaysRow : OpenClaim := { program := "ytdobcojmfhdinaa", sum := "9d9be8b1d4d3201690d61fbbb74838557b4c96bf16fa9f0af5049b3729918a9c", func := "undercroft/undercroftlaw15.SparseStays", spec := "sparseStays", inPlace := ["internal/bytealg.IndexByteString"], apart := false }
def SparseStaysSaid : Prop := sparseStaysRow.holds Try.pinned (OpenSpec.ofChange sparseStaysSpec)

/-- ITS FALSE NEIGHBOUR: 'it returns false'. Refute it at one input. -/
def sparseStaysWrong : ChangeSpec := { name := "sparseStays", fn := fun _ => fun
  | [d1, d2, d3] => { results := [.lit (.bool false)], args := [d1, d2, d3] }
  | _ => none }
def SparseStaysWrongFalsely : Prop := sparseStaysRow.holds Try.pinned (OpenSpec.ofChange sparseStaysWrong)

/-- 'undercroftlaw15.SparseTwo': WHATEVER THE INPUT: true; the input reads as it did. -/
def sparseTwoSpec : ChangeSpec := { name := "sparseTwo", fn := fun _ => fun
  | [d1, d2, d3] => { results := [.lit (.bool true)], args := [d1, d2, d3] }
  | _ => none }
def sparseTwoRow : OpenClaim := { program := "ytdobcojmfhdinaa", sum := "9d9be8b1d4d3201690d61fbbb74838557b4c96bf16fa9f0af5049b3729918a9c", func := "undercroft/undercroftlaw15.SparseTwo", spec := "sparseTwo", inPlace := ["internal/bytealg.IndexByteString"], apart := false }
def SparseTwoSaid : Prop := sparseTwoRow.holds Try.pinned (OpenSpec.ofChange sparseTwoSpec)

/-- ITS FALSE NEIGHBOUR: 'it returns false'. Refute it at one input. -/
def sparseTwoWrong : ChangeSpec := { name := "sparseTwo", fn := fun _ => fun
  | [d1, d2, d3] => { results := [.lit (.bool false)], args := [d1, d2, d3] }
  | _ => none }
def SparseTwoWrongFalsely : Prop := sparseTwoRow.holds Try.pinned (OpenSpec.ofChange sparseTwoWrong)

/-- 'undercroftlaw15.SparseHoles': WHATEVER THE INPUT: true; the input reads as it did. -/
def sparseHolesSpec : ChangeSpec := { name := "sparseHoles", fn := fun _ => fun
  | [d1, d2, d3] => { results := [.lit (.bool true)], args := [d1, d2, d3] }
  | _ => none }
def sparseHolesRow : OpenClaim := { program := "ytdobcojmfhdinaa", sum := "9d9be8b1d4d3201690d61fbbb74838557b4c96bf16fa9f0af5049b3729918a9c", func := "undercroft/undercroftlaw15.SparseHoles", spec := "sparseHoles", inPlace := ["internal/bytealg.IndexByteString"], apart := false }
def SparseHolesSaid : Prop := sparseHolesRow.holds Try.pinned (OpenSpec.ofChange sparseHolesSpec)

/-- ITS FALSE NEIGHBOUR: 'it returns false'. Refute it at one input. -/
def sparseHolesWrong : ChangeSpec := { name := "sparseHoles", fn := fun _ => fun
  | [d1, d2, d3] => { results := [.lit (.bool false)], args := [d1, d2, d3] }
  | _ => none }
def SparseHolesWrongFalsely : Prop := sparseHolesRow.holds Try.pinned (OpenSpec.ofChange sparseHolesWrong)

/- THE SECOND FORM. 'bulk': how many values and letters a reading holds, each counted each time it is reached (what is shared counts as often as it is met; a slice's spare places count too). A statement '..UptoSaid' is the law's where the arguments, and the package variables that the reading takes, are together of bulk at most 1048576: NARROWER than '..Said'. Prove '..Said' where nothing that the law and all that it calls make is longer than what came in: it says more and counts as full. Else prove '..UptoSaid'. A law counts once. -/
mutual
def uptoBulk {H : Type} : DataW H → Nat
  | .lit (.string bytes) => bytes.length + 1
  | .lit _ => 1
  | .nil => 1
  | .ptr d => uptoBulk d + 1
  | .slice elems spare => uptoBulkAll elems + uptoBulkAll spare + 1
  | .agg parts => uptoBulkAll parts + 1
  | .iface _ d => uptoBulk d + 1
  | .map entries => uptoBulkEntries entries + 1
  | .held _ => 1
def uptoBulkAll {H : Type} : List (DataW H) → Nat
  | [] => 0
  | d :: r => uptoBulk d + uptoBulkAll r
def uptoBulkEntries {H : Type} : List (Lit × DataW H) → Nat
  | [] => 0
  | x :: r => uptoBulkEntry x + uptoBulkEntries r
def uptoBulkEntry {H : Type} : Lit × DataW H → Nat
  | (.string bytes, d) => bytes.length + uptoBulk d + 1
  | (_, d) => uptoBulk d + 1
 end
def uptoSmall : (H : Type) → List (DataW H) → Bool := fun _ ds => decide (uptoBulkAll ds ≤ 1048576)
def OpenSpec.upto (s : _root_.Go.ChangeSpec) : _root_.Go.OpenSpec := { _root_.Go.OpenSpec.ofChange s with cond := some uptoSmall }

/-- 'undercroftlaw15.SparsePuts', WHERE WHAT IT READS IS OF BULK AT MOST 1048576: true; the input reads as it did. -/
def sparsePutsUptoRow : OpenClaim := { program := "ytdobcojmfhdinaa", sum := "9d9be8b1d4d3201690d61fbbb74838557b4c96bf16fa9f0af5049b3729918a9c", func := "undercroft/undercroftlaw15.SparsePuts", spec := "sparsePuts", inPlace := ["internal/bytealg.IndexByteString"], apart := false, narrowed := true }
def SparsePutsUptoSaid : Prop := sparsePutsUptoRow.holds Try.pinned (OpenSpec.upto sparsePutsSpec)

/-- 'undercroftlaw15.SparseOnce', WHERE WHAT IT READS IS OF BULK AT MOST 1048576: true; the input reads as it did. -/
def sparseOnceUptoRow : OpenClaim := { program := "ytdobcojmfhdinaa", sum := "9d9be8b1d4d3201690d61fbbb74838557b4c96bf16fa9f0af5049b3729918a9c", func := "undercroft/undercroftlaw15.SparseOnce", spec := "sparseOnce", inPlace := ["internal/bytealg.IndexByteString"], apart := false, narrowed := true }
def SparseOnceUptoSaid : Prop := sparseOnceUptoRow.holds Try.pinned (OpenSpec.upto sparseOnceSpec)

/-- 'undercroftlaw15.SparseReads', WHERE WHAT IT READS IS OF BULK AT MOST 1048576: true; the input reads as it did. -/
def sparseReadsUptoRow : OpenClaim := { program := "ytdobcojmfhdinaa", sum := "9d9be8b1d4d3201690d61fbbb74838557b4c96bf16fa9f0af5049b3729918a9c", func := "undercroft/undercroftlaw15.SparseReads", spec := "sparseReads", inPlace := ["internal/bytealg.IndexByteString"], apart := false, narrowed := true }
def SparseReadsUptoSaid : Prop := sparseReadsUptoRow.holds Try.pinned (OpenSpec.upto sparseReadsSpec)

/-- 'undercroftlaw15.SparseStays', WHERE WHAT IT READS IS OF BULK AT MOST 1048576: true; the input reads as it did. -/
def sparseStaysUptoRow : OpenClaim := { program := "ytdobcojmfhdinaa", sum := "9d9be8b1d4d3201690d61fbbb74838557b4c96bf16fa9f0af5049b3729918a9c", func := "undercroft/undercroftlaw15.SparseStays", spec := "sparseStays", inPlace := ["internal/bytealg.IndexByteString"], apart := false, narrowed := true }
def SparseStaysUptoSaid : Prop := sparseStaysUptoRow.holds Try.pinned (OpenSpec.upto sparseStaysSpec)

/-- 'undercroftlaw15.SparseTwo', WHERE WHAT IT READS IS OF BULK AT MOST 1048576: true; the input reads as it did. -/
def sparseTwoUptoRow : OpenClaim := { program := "ytdobcojmfhdinaa", sum := "9d9be8b1d4d3201690d61fbbb74838557b4c96bf16fa9f0af5049b3729918a9c", func := "undercroft/undercroftlaw15.SparseTwo", spec := "sparseTwo", inPlace := ["internal/bytealg.IndexByteString"], apart := false, narrowed := true }
def SparseTwoUptoSaid : Prop := sparseTwoUptoRow.holds Try.pinned (OpenSpec.upto sparseTwoSpec)

/-- 'undercroftlaw15.SparseHoles', WHERE WHAT IT READS IS OF BULK AT MOST 1048576: true; the input reads as it did. -/
def sparseHolesUptoRow : OpenClaim := { program := "ytdobcojmfhdinaa", sum := "9d9be8b1d4d3201690d61fbbb74838557b4c96bf16fa9f0af5049b3729918a9c", func := "undercroft/undercroftlaw15.SparseHoles", spec := "sparseHoles", inPlace := ["internal/bytealg.IndexByteString"], apart := false, narrowed := true }
def SparseHolesUptoSaid : Prop := sparseHolesUptoRow.holds Try.pinned (OpenSpec.upto sparseHolesSpec)

end Rows
end Go.Proofs.Ytdobcojmfhdinaa
