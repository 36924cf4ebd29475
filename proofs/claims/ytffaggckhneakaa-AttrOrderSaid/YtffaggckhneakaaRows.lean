/-
  No cell of these rows narrows 'for every input' (looked for: loops, veiled, ifaces, maps, wideKeys, modest, calm, conditions, laid).
  DERIVED. THE GIVEN ROWS OF THIS SEAT. 10 by the template 'for every input the law returns true; each argument reads behind the call as it read before'; 0 by the template 'total and deterministic' (their statements: YtffaggckhneakaaTotals.lean).
  GIVEN WITH THE SEED: the statements are not yours to turn. If you find one false, say at which input.
  Laid BY PROGRAM, IN A SANDBOX (cutbox-rows.mjs): the forced cells as the released guide's own fill.sh prints them over the translation 66ebde3880ae9921… (all of the seat's roots in one cut). By AI agents, Wed Nov 11 2026. No macro, syntax, notation, axiom, sorry.
-/
import Derived.Test.YtffaggckhneakaaChecked
import GoSem.Claim
import GoSem.ClaimJoined
import GoSem.ClaimMapViews
import Derived.JoinedTies
import Derived.KernelRfl
namespace Go.Proofs.Ytffaggckhneakaa
/- THE CELL 'sum', in the pinned program and in every row, IS THE sha256 OF THE DUMP (.gsa) THAT YtffaggckhneakaaProg.lean LOADS. Nothing in Lean hashes anything: it is a label: what it is worth is what the hold of that sum in a sandbox is worth. -/
noncomputable def Try.pinned : Pinned := { name := "ytffaggckhneakaa", sum := "66ebde3880ae9921a28742222fdaa2c8584626eecc92beb27d501b14ac8a804b", checked := Try.checked }
namespace Rows
def none {H : Type} : Left H := { results := [], args := [] }

/-- 'undercroftlaw13.AttrOrder': WHATEVER THE INPUT: true; the input reads as it did. -/
def attrOrderSpec : ChangeSpec := { name := "attrOrder", fn := fun _ => fun
  | [d1, d2] => { results := [.lit (.bool true)], args := [d1, d2] }
  | _ => none }
def attrOrderRow : OpenClaim := { program := "ytffaggckhneakaa", sum := "66ebde3880ae9921a28742222fdaa2c8584626eecc92beb27d501b14ac8a804b", func := "undercroft/undercroftlaw13.AttrOrder", spec := "attrOrder", inPlace := ["internal/bytealg.abigen_runtime_cmpstring", "slices.overlaps[undercroft/api.Pair]"], unfollowed := true, recurses := true, apart := false }
def AttrOrderSaid : Prop := attrOrderRow.holds Try.pinned (OpenSpec.ofChange attrOrderSpec)

/-- ITS FALSE NEIGHBOUR: 'it returns false'. Refute it at one input. -/
def attrOrderWrong : ChangeSpec := { name := "attrOrder", fn := fun _ => fun
  | [d1, d2] => { results := [.lit (.bool false)], args := [d1, d2] }
  | _ => none }
def AttrOrderWrongFalsely : Prop := attrOrderRow.holds Try.pinned (OpenSpec.ofChange attrOrderWrong)

/-- 'undercroftlaw13.AttrTurns': WHATEVER THE INPUT: true; the input reads as it did. -/
def attrTurnsSpec : ChangeSpec := { name := "attrTurns", fn := fun _ => fun
  | [d1, d2] => { results := [.lit (.bool true)], args := [d1, d2] }
  | _ => none }
def attrTurnsRow : OpenClaim := { program := "ytffaggckhneakaa", sum := "66ebde3880ae9921a28742222fdaa2c8584626eecc92beb27d501b14ac8a804b", func := "undercroft/undercroftlaw13.AttrTurns", spec := "attrTurns", inPlace := ["internal/bytealg.abigen_runtime_cmpstring", "slices.overlaps[undercroft/api.Pair]"], unfollowed := true, recurses := true, apart := false }
def AttrTurnsSaid : Prop := attrTurnsRow.holds Try.pinned (OpenSpec.ofChange attrTurnsSpec)

/-- ITS FALSE NEIGHBOUR: 'it returns false'. Refute it at one input. -/
def attrTurnsWrong : ChangeSpec := { name := "attrTurns", fn := fun _ => fun
  | [d1, d2] => { results := [.lit (.bool false)], args := [d1, d2] }
  | _ => none }
def AttrTurnsWrongFalsely : Prop := attrTurnsRow.holds Try.pinned (OpenSpec.ofChange attrTurnsWrong)

/-- 'undercroftlaw13.AttrGets': WHATEVER THE INPUT: true; the input reads as it did. -/
def attrGetsSpec : ChangeSpec := { name := "attrGets", fn := fun _ => fun
  | [d1, d2, d3] => { results := [.lit (.bool true)], args := [d1, d2, d3] }
  | _ => none }
def attrGetsRow : OpenClaim := { program := "ytffaggckhneakaa", sum := "66ebde3880ae9921a28742222fdaa2c8584626eecc92beb27d501b14ac8a804b", func := "undercroft/undercroftlaw13.AttrGets", spec := "attrGets", inPlace := ["internal/bytealg.abigen_runtime_cmpstring", "slices.overlaps[undercroft/api.Pair]"], unfollowed := true, recurses := true, apart := false }
def AttrGetsSaid : Prop := attrGetsRow.holds Try.pinned (OpenSpec.ofChange attrGetsSpec)

/-- ITS FALSE NEIGHBOUR: 'it returns false'. Refute it at one input. -/
def attrGetsWrong : ChangeSpec := { name := "attrGets", fn := fun _ => fun
  | [d1, d2, d3] => { results := [.lit (.bool false)], args := [d1, d2, d3] }
  | _ => none }
def AttrGetsWrongFalsely : Prop := attrGetsRow.holds Try.pinned (OpenSpec.ofChange attrGetsWrong)

/-- 'undercroftlaw11.LeafEncodes': WHATEVER THE INPUT: true; the input reads as it did. -/
def leafEncodesSpec : ChangeSpec := { name := "leafEncodes", fn := fun _ => fun
  | [d1, d2] => { results := [.lit (.bool true)], args := [d1, d2] }
  | _ => none }
def leafEncodesRow : OpenClaim := { program := "ytffaggckhneakaa", sum := "66ebde3880ae9921a28742222fdaa2c8584626eecc92beb27d501b14ac8a804b", func := "undercroft/undercroftlaw11.LeafEncodes", spec := "leafEncodes", inPlace := ["internal/bytealg.IndexByteString", "internal/bytealg.IndexString", "internal/bytealg.abigen_runtime_cmpstring"], unfollowed := true, recurses := true, named := ["internal/bytealg.MaxLen"], apart := false }
def LeafEncodesSaid : Prop := leafEncodesRow.holds Try.pinned (OpenSpec.ofChange leafEncodesSpec)

/-- ITS FALSE NEIGHBOUR: 'it returns false'. Refute it at one input. -/
def leafEncodesWrong : ChangeSpec := { name := "leafEncodes", fn := fun _ => fun
  | [d1, d2] => { results := [.lit (.bool false)], args := [d1, d2] }
  | _ => none }
def LeafEncodesWrongFalsely : Prop := leafEncodesRow.holds Try.pinned (OpenSpec.ofChange leafEncodesWrong)

/-- 'undercroftlaw11.LeafDecodes': WHATEVER THE INPUT: true; the input reads as it did. -/
def leafDecodesSpec : ChangeSpec := { name := "leafDecodes", fn := fun _ => fun
  | [d] => { results := [.lit (.bool true)], args := [d] }
  | _ => none }
def leafDecodesRow : OpenClaim := { program := "ytffaggckhneakaa", sum := "66ebde3880ae9921a28742222fdaa2c8584626eecc92beb27d501b14ac8a804b", func := "undercroft/undercroftlaw11.LeafDecodes", spec := "leafDecodes", inPlace := ["internal/bytealg.IndexByteString", "internal/bytealg.IndexString", "internal/bytealg.abigen_runtime_cmpstring"], unfollowed := true, recurses := true, named := ["internal/bytealg.MaxLen"], apart := false }
def LeafDecodesSaid : Prop := leafDecodesRow.holds Try.pinned (OpenSpec.ofChange leafDecodesSpec)

/-- ITS FALSE NEIGHBOUR: 'it returns false'. Refute it at one input. -/
def leafDecodesWrong : ChangeSpec := { name := "leafDecodes", fn := fun _ => fun
  | [d] => { results := [.lit (.bool false)], args := [d] }
  | _ => none }
def LeafDecodesWrongFalsely : Prop := leafDecodesRow.holds Try.pinned (OpenSpec.ofChange leafDecodesWrong)

/-- 'undercroftlaw11.LeafBack': WHATEVER THE INPUT: true; the input reads as it did. -/
def leafBackSpec : ChangeSpec := { name := "leafBack", fn := fun _ => fun
  | [d1, d2, d3] => { results := [.lit (.bool true)], args := [d1, d2, d3] }
  | _ => none }
def leafBackRow : OpenClaim := { program := "ytffaggckhneakaa", sum := "66ebde3880ae9921a28742222fdaa2c8584626eecc92beb27d501b14ac8a804b", func := "undercroft/undercroftlaw11.LeafBack", spec := "leafBack", inPlace := ["internal/bytealg.IndexByteString", "internal/bytealg.IndexString", "internal/bytealg.abigen_runtime_cmpstring"], unfollowed := true, recurses := true, named := ["internal/bytealg.MaxLen"], apart := false }
def LeafBackSaid : Prop := leafBackRow.holds Try.pinned (OpenSpec.ofChange leafBackSpec)

/-- ITS FALSE NEIGHBOUR: 'it returns false'. Refute it at one input. -/
def leafBackWrong : ChangeSpec := { name := "leafBack", fn := fun _ => fun
  | [d1, d2, d3] => { results := [.lit (.bool false)], args := [d1, d2, d3] }
  | _ => none }
def LeafBackWrongFalsely : Prop := leafBackRow.holds Try.pinned (OpenSpec.ofChange leafBackWrong)

/-- 'undercroftlaw11.LeafWithout': WHATEVER THE INPUT: true; the input reads as it did. -/
def leafWithoutSpec : ChangeSpec := { name := "leafWithout", fn := fun _ => fun
  | [d1, d2] => { results := [.lit (.bool true)], args := [d1, d2] }
  | _ => none }
def leafWithoutRow : OpenClaim := { program := "ytffaggckhneakaa", sum := "66ebde3880ae9921a28742222fdaa2c8584626eecc92beb27d501b14ac8a804b", func := "undercroft/undercroftlaw11.LeafWithout", spec := "leafWithout", inPlace := ["internal/bytealg.IndexByteString", "internal/bytealg.IndexString", "internal/bytealg.abigen_runtime_cmpstring"], unfollowed := true, recurses := true, named := ["internal/bytealg.MaxLen"], apart := false }
def LeafWithoutSaid : Prop := leafWithoutRow.holds Try.pinned (OpenSpec.ofChange leafWithoutSpec)

/-- ITS FALSE NEIGHBOUR: 'it returns false'. Refute it at one input. -/
def leafWithoutWrong : ChangeSpec := { name := "leafWithout", fn := fun _ => fun
  | [d1, d2] => { results := [.lit (.bool false)], args := [d1, d2] }
  | _ => none }
def LeafWithoutWrongFalsely : Prop := leafWithoutRow.holds Try.pinned (OpenSpec.ofChange leafWithoutWrong)

/-- 'undercroftlaw11.LeafMore': WHATEVER THE INPUT: true; the input reads as it did. -/
def leafMoreSpec : ChangeSpec := { name := "leafMore", fn := fun _ => fun
  | [d1, d2] => { results := [.lit (.bool true)], args := [d1, d2] }
  | _ => none }
def leafMoreRow : OpenClaim := { program := "ytffaggckhneakaa", sum := "66ebde3880ae9921a28742222fdaa2c8584626eecc92beb27d501b14ac8a804b", func := "undercroft/undercroftlaw11.LeafMore", spec := "leafMore", inPlace := ["internal/bytealg.IndexByteString", "internal/bytealg.IndexString", "internal/bytealg.abigen_runtime_cmpstring"], unfollowed := true, recurses := true, named := ["internal/bytealg.MaxLen"], apart := false }
def LeafMoreSaid : Prop := leafMoreRow.holds Try.pinned (OpenSpec.ofChange leafMoreSpec)

/-- ITS FALSE NEIGHBOUR: 'it returns false'. Refute it at one input. -/
def leafMoreWrong : ChangeSpec := { name := "leafMore", fn := fun _ => fun
  | [d1, d2] => { results := [.lit (.bool false)], args := [d1, d2] }
  | _ => none }
def LeafMoreWrongFalsely : Prop := leafMoreRow.holds Try.pinned (OpenSpec.ofChange leafMoreWrong)

/-- 'undercroftlaw13.AttrBlocks': WHATEVER THE INPUT: true; the input reads as it did. -/
def attrBlocksSpec : ChangeSpec := { name := "attrBlocks", fn := fun _ => fun
  | [d1, d2] => { results := [.lit (.bool true)], args := [d1, d2] }
  | _ => none }
def attrBlocksRow : OpenClaim := { program := "ytffaggckhneakaa", sum := "66ebde3880ae9921a28742222fdaa2c8584626eecc92beb27d501b14ac8a804b", func := "undercroft/undercroftlaw13.AttrBlocks", spec := "attrBlocks", inPlace := ["internal/bytealg.abigen_runtime_cmpstring", "slices.overlaps[undercroft/api.Pair]"], unfollowed := true, recurses := true, apart := false }
def AttrBlocksSaid : Prop := attrBlocksRow.holds Try.pinned (OpenSpec.ofChange attrBlocksSpec)

/-- ITS FALSE NEIGHBOUR: 'it returns false'. Refute it at one input. -/
def attrBlocksWrong : ChangeSpec := { name := "attrBlocks", fn := fun _ => fun
  | [d1, d2] => { results := [.lit (.bool false)], args := [d1, d2] }
  | _ => none }
def AttrBlocksWrongFalsely : Prop := attrBlocksRow.holds Try.pinned (OpenSpec.ofChange attrBlocksWrong)

/-- 'undercroftlaw13.AttrBack': WHATEVER THE INPUT: true; the input reads as it did. -/
def attrBackSpec : ChangeSpec := { name := "attrBack", fn := fun _ => fun
  | [d1, d2, d3] => { results := [.lit (.bool true)], args := [d1, d2, d3] }
  | _ => none }
def attrBackRow : OpenClaim := { program := "ytffaggckhneakaa", sum := "66ebde3880ae9921a28742222fdaa2c8584626eecc92beb27d501b14ac8a804b", func := "undercroft/undercroftlaw13.AttrBack", spec := "attrBack", inPlace := ["internal/bytealg.abigen_runtime_cmpstring", "slices.overlaps[undercroft/api.Pair]"], unfollowed := true, recurses := true, apart := false }
def AttrBackSaid : Prop := attrBackRow.holds Try.pinned (OpenSpec.ofChange attrBackSpec)

/-- ITS FALSE NEIGHBOUR: 'it returns false'. Refute it at one input. -/
def attrBackWrong : ChangeSpec := { name := "attrBack", fn := fun _ => fun
  | [d1, d2, d3] => { results := [.lit (.bool false)], args := [d1, d2, d3] }
  | _ => none }
def AttrBackWrongFalsely : Prop := attrBackRow.holds Try.pinned (OpenSpec.ofChange attrBackWrong)

/- THE SECOND FORM. 'bulk': how many values and letters a reading holds, each counted each time it is reached (what is shared counts as often as it is met; a slice's spare places count too). A statement '..UptoSaid' is the law's where the arguments, and the package variables that the reading takes, are together of bulk at most 1048576: NARROWER than '..Said'. Prove '..Said' where nothing that the law and all that it calls make is longer than what came in: it says more and counts as full. Else prove '..UptoSaid'. A law counts once. -/
mutual
def uptoBulk {H : Type} : DataW H → Nat
  | .lit (.string bytes) => bytes.length + 1
  | .lit _ => 1
  | .nil => 1
  | .ptr d => uptoBulk d + 1
  | .slice elems spare => uptoBulkAll elems + uptoBulkAll spare + 1
  | .agg parts => uptoBulkAll parts + 1
  | .iface _ d => uptoBulk d + 1
  | .map entries => uptoBulkEntries entries + 1
  | .held _ => 1
def uptoBulkAll {H : Type} : List (DataW H) → Nat
  | [] => 0
  | d :: r => uptoBulk d + uptoBulkAll r
def uptoBulkEntries {H : Type} : List (Lit × DataW H) → Nat
  | [] => 0
  | x :: r => uptoBulkEntry x + uptoBulkEntries r
def uptoBulkEntry {H : Type} : Lit × DataW H → Nat
  | (.string bytes, d) => bytes.length + uptoBulk d + 1
  | (_, d) => uptoBulk d + 1
 end
def uptoSmall : (H : Type) → List (DataW H) → Bool := fun _ ds => decide (uptoBulkAll ds ≤ 1048576)
def OpenSpec.upto (s : _root_.Go.ChangeSpec) : _root_.Go.OpenSpec := { _root_.Go.OpenSpec.ofChange s with cond := some uptoSmall }

/-- 'undercroftlaw13.AttrOrder', WHERE WHAT IT READS IS OF BULK AT MOST 1048576: true; the input reads as it did. -/
def attrOrderUptoRow : OpenClaim := { program := "ytffaggckhneakaa", sum := "66ebde3880ae9921a28742222fdaa2c8584626eecc92beb27d501b14ac8a804b", func := "undercroft/undercroftlaw13.AttrOrder", spec := "attrOrder", inPlace := ["internal/bytealg.abigen_runtime_cmpstring", "slices.overlaps[undercroft/api.Pair]"], unfollowed := true, recurses := true, apart := false, narrowed := true }
def AttrOrderUptoSaid : Prop := attrOrderUptoRow.holds Try.pinned (OpenSpec.upto attrOrderSpec)

/-- 'undercroftlaw13.AttrTurns', WHERE WHAT IT READS IS OF BULK AT MOST 1048576: true; the input reads as it did. -/
def attrTurnsUptoRow : OpenClaim := { program := "ytffaggckhneakaa", sum := "66ebde3880ae9921a28742222fdaa2c8584626eecc92beb27d501b14ac8a804b", func := "undercroft/undercroftlaw13.AttrTurns", spec := "attrTurns", inPlace := ["internal/bytealg.abigen_runtime_cmpstring", "slices.overlaps[undercroft/api.Pair]"], unfollowed := true, recurses := true, apart := false, narrowed := true }
def AttrTurnsUptoSaid : Prop := attrTurnsUptoRow.holds Try.pinned (OpenSpec.upto attrTurnsSpec)

/-- 'undercroftlaw13.AttrGets', WHERE WHAT IT READS IS OF BULK AT MOST 1048576: true; the input reads as it did. -/
def attrGetsUptoRow : OpenClaim := { program := "ytffaggckhneakaa", sum := "66ebde3880ae9921a28742222fdaa2c8584626eecc92beb27d501b14ac8a804b", func := "undercroft/undercroftlaw13.AttrGets", spec := "attrGets", inPlace := ["internal/bytealg.abigen_runtime_cmpstring", "slices.overlaps[undercroft/api.Pair]"], unfollowed := true, recurses := true, apart := false, narrowed := true }
def AttrGetsUptoSaid : Prop := attrGetsUptoRow.holds Try.pinned (OpenSpec.upto attrGetsSpec)

/-- 'undercroftlaw11.LeafEncodes', WHERE WHAT IT READS IS OF BULK AT MOST 1048576: true; the input reads as it did. -/
def leafEncodesUptoRow : OpenClaim := { program := "ytffaggckhneakaa", sum := "66ebde3880ae9921a28742222fdaa2c8584626eecc92beb27d501b14ac8a804b", func := "undercroft/undercroftlaw11.LeafEncodes", spec := "leafEncodes", inPlace := ["internal/bytealg.IndexByteString", "internal/bytealg.IndexString", "internal/bytealg.abigen_runtime_cmpstring"], unfollowed := true, recurses := true, named := ["internal/bytealg.MaxLen"], apart := false, narrowed := true }
def LeafEncodesUptoSaid : Prop := leafEncodesUptoRow.holds Try.pinned (OpenSpec.upto leafEncodesSpec)

/-- 'undercroftlaw11.LeafDecodes', WHERE WHAT IT READS IS OF BULK AT MOST 1048576: true; the input reads as it did. -/
def leafDecodesUptoRow : OpenClaim := { program := "ytffaggckhneakaa", sum := "66ebde3880ae9921a28742222fdaa2c8584626eecc92beb27d501b14ac8a804b", func := "undercroft/undercroftlaw11.LeafDecodes", spec := "leafDecodes", inPlace := ["internal/bytealg.IndexByteString", "internal/bytealg.IndexString", "internal/bytealg.abigen_runtime_cmpstring"], unfollowed := true, recurses := true, named := ["internal/bytealg.MaxLen"], apart := false, narrowed := true }
def LeafDecodesUptoSaid : Prop := leafDecodesUptoRow.holds Try.pinned (OpenSpec.upto leafDecodesSpec)

/-- 'undercroftlaw11.LeafBack', WHERE WHAT IT READS IS OF BULK AT MOST 1048576: true; the input reads as it did. -/
def leafBackUptoRow : OpenClaim := { program := "ytffaggckhneakaa", sum := "66ebde3880ae9921a28742222fdaa2c8584626eecc92beb27d501b14ac8a804b", func := "undercroft/undercroftlaw11.LeafBack", spec := "leafBack", inPlace := ["internal/bytealg.IndexByteString", "internal/bytealg.IndexString", "internal/bytealg.abigen_runtime_cmpstring"], unfollowed := true, recurses := true, named := ["internal/bytealg.MaxLen"], apart := false, narrowed := true }
def LeafBackUptoSaid : Prop := leafBackUptoRow.holds Try.pinned (OpenSpec.upto leafBackSpec)

/-- 'undercroftlaw11.LeafWithout', WHERE WHAT IT READS IS OF BULK AT MOST 1048576: true; the input reads as it did. -/
def leafWithoutUptoRow : OpenClaim := { program := "ytffaggckhneakaa", sum := "66ebde3880ae9921a28742222fdaa2c8584626eecc92beb27d501b14ac8a804b", func := "undercroft/undercroftlaw11.LeafWithout", spec := "leafWithout", inPlace := ["internal/bytealg.IndexByteString", "internal/bytealg.IndexString", "internal/bytealg.abigen_runtime_cmpstring"], unfollowed := true, recurses := true, named := ["internal/bytealg.MaxLen"], apart := false, narrowed := true }
def LeafWithoutUptoSaid : Prop := leafWithoutUptoRow.holds Try.pinned (OpenSpec.upto leafWithoutSpec)

/-- 'undercroftlaw11.LeafMore', WHERE WHAT IT READS IS OF BULK AT MOST 1048576: true; the input reads as it did. -/
def leafMoreUptoRow : OpenClaim := { program := "ytffaggckhneakaa", sum := "66ebde3880ae9921a28742222fdaa2c8584626eecc92beb27d501b14ac8a804b", func := "undercroft/undercroftlaw11.LeafMore", spec := "leafMore", inPlace := ["internal/bytealg.IndexByteString", "internal/bytealg.IndexString", "internal/bytealg.abigen_runtime_cmpstring"], unfollowed := true, recurses := true, named := ["internal/bytealg.MaxLen"], apart := false, narrowed := true }
def LeafMoreUptoSaid : Prop := leafMoreUptoRow.holds Try.pinned (OpenSpec.upto leafMoreSpec)

/-- 'undercroftlaw13.AttrBlocks', WHERE WHAT IT READS IS OF BULK AT MOST 1048576: true; the input reads as it did. -/
def attrBlocksUptoRow : OpenClaim := { program := "ytffaggckhneakaa", sum := "66ebde3880ae9921a28742222fdaa2c8584626eecc92beb27d501b14ac8a804b", func := "undercroft/undercroftlaw13.AttrBlocks", spec := "attrBlocks", inPlace := ["internal/bytealg.abigen_runtime_cmpstring", "slices.overlaps[undercroft/api.Pair]"], unfollowed := true, recurses := true, apart := false, narrowed := true }
def AttrBlocksUptoSaid : Prop := attrBlocksUptoRow.holds Try.pinned (OpenSpec.upto attrBlocksSpec)

/-- 'undercroftlaw13.AttrBack', WHERE WHAT IT READS IS OF BULK AT MOST 1048576: true; the input reads as it did. -/
def attrBackUptoRow : OpenClaim := { program := "ytffaggckhneakaa", sum := "66ebde3880ae9921a28742222fdaa2c8584626eecc92beb27d501b14ac8a804b", func := "undercroft/undercroftlaw13.AttrBack", spec := "attrBack", inPlace := ["internal/bytealg.abigen_runtime_cmpstring", "slices.overlaps[undercroft/api.Pair]"], unfollowed := true, recurses := true, apart := false, narrowed := true }
def AttrBackUptoSaid : Prop := attrBackUptoRow.holds Try.pinned (OpenSpec.upto attrBackSpec)

end Rows
end Go.Proofs.Ytffaggckhneakaa
