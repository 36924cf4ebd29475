/-
  No cell of these rows narrows 'for every input' (looked for: loops, veiled, ifaces, maps, wideKeys, modest, calm, conditions, laid).
  DERIVED. THE GIVEN ROWS OF THIS SEAT. 4 by the template 'for every input the law returns true; each argument reads behind the call as it read before'; 0 by the template 'total and deterministic' (their statements: YteglhbfhibfodaaTotals.lean).
  GIVEN WITH THE SEED: the statements are not yours to turn. If you find one false, say at which input.
  Laid BY PROGRAM, IN A SANDBOX (cutbox-rows.mjs): the forced cells as the released guide's own fill.sh prints them over the translation 6ec68bf31c4eba55… (all of the seat's roots in one cut). By AI agents, Wed Nov 11 2026. No macro, syntax, notation, axiom, sorry.
-/
import Derived.Test.YteglhbfhibfodaaChecked
import GoSem.Claim
import GoSem.ClaimJoined
import GoSem.ClaimMapViews
import Derived.JoinedTies
import Derived.KernelRfl
namespace Go.Proofs.Yteglhbfhibfodaa
/- THE CELL 'sum', in the pinned program and in every row, IS THE sha256 OF THE DUMP (.gsa) THAT YteglhbfhibfodaaProg.lean LOADS. Nothing in Lean hashes anything: it is a label: what it is worth is what the hold of that sum in a sandbox is worth. -/
noncomputable def Try.pinned : Pinned := { name := "yteglhbfhibfodaa", sum := "6ec68bf31c4eba55781a3425b98b2438f87a972ce88013c2674bc2ffc74248bb", checked := Try.checked }
namespace Rows
def none {H : Type} : Left H := { results := [], args := [] }

/-- 'undercroftlaw12.HtreeAfter': WHATEVER THE INPUT: true; the input reads as it did. -/
def htreeAfterSpec : ChangeSpec := { name := "htreeAfter", fn := fun _ => fun
  | [d1, d2] => { results := [.lit (.bool true)], args := [d1, d2] }
  | _ => none }
def htreeAfterRow : OpenClaim := { program := "yteglhbfhibfodaa", sum := "6ec68bf31c4eba55781a3425b98b2438f87a972ce88013c2674bc2ffc74248bb", func := "undercroft/undercroftlaw12.HtreeAfter", spec := "htreeAfter", inPlace := ["internal/bytealg.IndexByteString", "internal/bytealg.IndexString", "internal/bytealg.abigen_runtime_cmpstring", "slices.overlaps[undercroft/api.Name]", "slices.overlaps[undercroft/htree.row]"], unfollowed := true, recurses := true, named := ["internal/bytealg.MaxLen"], apart := false }
def HtreeAfterSaid : Prop := htreeAfterRow.holds Try.pinned (OpenSpec.ofChange htreeAfterSpec)

/-- ITS FALSE NEIGHBOUR: 'it returns false'. Refute it at one input. -/
def htreeAfterWrong : ChangeSpec := { name := "htreeAfter", fn := fun _ => fun
  | [d1, d2] => { results := [.lit (.bool false)], args := [d1, d2] }
  | _ => none }
def HtreeAfterWrongFalsely : Prop := htreeAfterRow.holds Try.pinned (OpenSpec.ofChange htreeAfterWrong)

/-- 'undercroftlaw12.HtreeSame': WHATEVER THE INPUT: true; the input reads as it did. -/
def htreeSameSpec : ChangeSpec := { name := "htreeSame", fn := fun _ => fun
  | [d1, d2] => { results := [.lit (.bool true)], args := [d1, d2] }
  | _ => none }
def htreeSameRow : OpenClaim := { program := "yteglhbfhibfodaa", sum := "6ec68bf31c4eba55781a3425b98b2438f87a972ce88013c2674bc2ffc74248bb", func := "undercroft/undercroftlaw12.HtreeSame", spec := "htreeSame", inPlace := ["internal/bytealg.IndexByteString", "internal/bytealg.IndexString", "internal/bytealg.abigen_runtime_cmpstring", "slices.overlaps[undercroft/api.Name]", "slices.overlaps[undercroft/htree.row]"], unfollowed := true, recurses := true, named := ["internal/bytealg.MaxLen"], apart := false }
def HtreeSameSaid : Prop := htreeSameRow.holds Try.pinned (OpenSpec.ofChange htreeSameSpec)

/-- ITS FALSE NEIGHBOUR: 'it returns false'. Refute it at one input. -/
def htreeSameWrong : ChangeSpec := { name := "htreeSame", fn := fun _ => fun
  | [d1, d2] => { results := [.lit (.bool false)], args := [d1, d2] }
  | _ => none }
def HtreeSameWrongFalsely : Prop := htreeSameRow.holds Try.pinned (OpenSpec.ofChange htreeSameWrong)

/-- 'undercroftlaw12.HtreeFinds': WHATEVER THE INPUT: true; the input reads as it did. -/
def htreeFindsSpec : ChangeSpec := { name := "htreeFinds", fn := fun _ => fun
  | [d] => { results := [.lit (.bool true)], args := [d] }
  | _ => none }
def htreeFindsRow : OpenClaim := { program := "yteglhbfhibfodaa", sum := "6ec68bf31c4eba55781a3425b98b2438f87a972ce88013c2674bc2ffc74248bb", func := "undercroft/undercroftlaw12.HtreeFinds", spec := "htreeFinds", inPlace := ["internal/bytealg.IndexByteString", "internal/bytealg.IndexString", "internal/bytealg.abigen_runtime_cmpstring", "slices.overlaps[undercroft/api.Name]", "slices.overlaps[undercroft/htree.row]"], unfollowed := true, recurses := true, named := ["internal/bytealg.MaxLen"], apart := false }
def HtreeFindsSaid : Prop := htreeFindsRow.holds Try.pinned (OpenSpec.ofChange htreeFindsSpec)

/-- ITS FALSE NEIGHBOUR: 'it returns false'. Refute it at one input. -/
def htreeFindsWrong : ChangeSpec := { name := "htreeFinds", fn := fun _ => fun
  | [d] => { results := [.lit (.bool false)], args := [d] }
  | _ => none }
def HtreeFindsWrongFalsely : Prop := htreeFindsRow.holds Try.pinned (OpenSpec.ofChange htreeFindsWrong)

/-- 'undercroftlaw12.HtreeMeanwhile': WHATEVER THE INPUT: true; the input reads as it did. -/
def htreeMeanwhileSpec : ChangeSpec := { name := "htreeMeanwhile", fn := fun _ => fun
  | [d1, d2, d3] => { results := [.lit (.bool true)], args := [d1, d2, d3] }
  | _ => none }
def htreeMeanwhileRow : OpenClaim := { program := "yteglhbfhibfodaa", sum := "6ec68bf31c4eba55781a3425b98b2438f87a972ce88013c2674bc2ffc74248bb", func := "undercroft/undercroftlaw12.HtreeMeanwhile", spec := "htreeMeanwhile", inPlace := ["internal/bytealg.IndexByteString", "internal/bytealg.IndexString", "internal/bytealg.abigen_runtime_cmpstring", "slices.overlaps[undercroft/api.Name]", "slices.overlaps[undercroft/htree.row]"], unfollowed := true, recurses := true, named := ["internal/bytealg.MaxLen"], apart := false }
def HtreeMeanwhileSaid : Prop := htreeMeanwhileRow.holds Try.pinned (OpenSpec.ofChange htreeMeanwhileSpec)

/-- ITS FALSE NEIGHBOUR: 'it returns false'. Refute it at one input. -/
def htreeMeanwhileWrong : ChangeSpec := { name := "htreeMeanwhile", fn := fun _ => fun
  | [d1, d2, d3] => { results := [.lit (.bool false)], args := [d1, d2, d3] }
  | _ => none }
def HtreeMeanwhileWrongFalsely : Prop := htreeMeanwhileRow.holds Try.pinned (OpenSpec.ofChange htreeMeanwhileWrong)

/- THE SECOND FORM. 'bulk': how many values and letters a reading holds, each counted each time it is reached (what is shared counts as often as it is met; a slice's spare places count too). A statement '..UptoSaid' is the law's where the arguments, and the package variables that the reading takes, are together of bulk at most 1048576: NARROWER than '..Said'. Prove '..Said' where nothing that the law and all that it calls make is longer than what came in: it says more and counts as full. Else prove '..UptoSaid'. A law counts once. -/
mutual
def uptoBulk {H : Type} : DataW H → Nat
  | .lit (.string bytes) => bytes.length + 1
  | .lit _ => 1
  | .nil => 1
  | .ptr d => uptoBulk d + 1
  | .slice elems spare => uptoBulkAll elems + uptoBulkAll spare + 1
  | .agg parts => uptoBulkAll parts + 1
  | .iface _ d => uptoBulk d + 1
  | .map entries => uptoBulkEntries entries + 1
  | .held _ => 1
def uptoBulkAll {H : Type} : List (DataW H) → Nat
  | [] => 0
  | d :: r => uptoBulk d + uptoBulkAll r
def uptoBulkEntries {H : Type} : List (Lit × DataW H) → Nat
  | [] => 0
  | x :: r => uptoBulkEntry x + uptoBulkEntries r
def uptoBulkEntry {H : Type} : Lit × DataW H → Nat
  | (.string bytes, d) => bytes.length + uptoBulk d + 1
  | (_, d) => uptoBulk d + 1
 end
def uptoSmall : (H : Type) → List (DataW H) → Bool := fun _ ds => decide (uptoBulkAll ds ≤ 1048576)
def OpenSpec.upto (s : _root_.Go.ChangeSpec) : _root_.Go.OpenSpec := { _root_.Go.OpenSpec.ofChange s with cond := some uptoSmall }

/-- 'undercroftlaw12.HtreeAfter', WHERE WHAT IT READS IS OF BULK AT MOST 1048576: true; the input reads as it did. -/
def htreeAfterUptoRow : OpenClaim := { program := "yteglhbfhibfodaa", sum := "6ec68bf31c4eba55781a3425b98b2438f87a972ce88013c2674bc2ffc74248bb", func := "undercroft/undercroftlaw12.HtreeAfter", spec := "htreeAfter", inPlace := ["internal/bytealg.IndexByteString", "internal/bytealg.IndexString", "internal/bytealg.abigen_runtime_cmpstring", "slices.overlaps[undercroft/api.Name]", "slices.overlaps[undercroft/htree.row]"], unfollowed := true, recurses := true, named := ["internal/bytealg.MaxLen"], apart := false, narrowed := true }
def HtreeAfterUptoSaid : Prop := htreeAfterUptoRow.holds Try.pinned (OpenSpec.upto htreeAfterSpec)

/-- 'undercroftlaw12.HtreeSame', WHERE WHAT IT READS IS OF BULK AT MOST 1048576: true; the input reads as it did. -/
def htreeSameUptoRow : OpenClaim := { program := "yteglhbfhibfodaa", sum := "6ec68bf31c4eba55781a3425b98b2438f87a972ce88013c2674bc2ffc74248bb", func := "undercroft/undercroftlaw12.HtreeSame", spec := "htreeSame", inPlace := ["internal/bytealg.IndexByteString", "internal/bytealg.IndexString", "internal/bytealg.abigen_runtime_cmpstring", "slices.overlaps[undercroft/api.Name]", "slices.overlaps[undercroft/htree.row]"], unfollowed := true, recurses := true, named := ["internal/bytealg.MaxLen"], apart := false, narrowed := true }
def HtreeSameUptoSaid : Prop := htreeSameUptoRow.holds Try.pinned (OpenSpec.upto htreeSameSpec)

/-- 'undercroftlaw12.HtreeFinds', WHERE WHAT IT READS IS OF BULK AT MOST 1048576: true; the input reads as it did. -/
def htreeFindsUptoRow : OpenClaim := { program := "yteglhbfhibfodaa", sum := "6ec68bf31c4eba55781a3425b98b2438f87a972ce88013c2674bc2ffc74248bb", func := "undercroft/undercroftlaw12.HtreeFinds", spec := "htreeFinds", inPlace := ["internal/bytealg.IndexByteString", "internal/bytealg.IndexString", "internal/bytealg.abigen_runtime_cmpstring", "slices.overlaps[undercroft/api.Name]", "slices.overlaps[undercroft/htree.row]"], unfollowed := true, recurses := true, named := ["internal/bytealg.MaxLen"], apart := false, narrowed := true }
def HtreeFindsUptoSaid : Prop := htreeFindsUptoRow.holds Try.pinned (OpenSpec.upto htreeFindsSpec)

/-- 'undercroftlaw12.HtreeMeanwhile', WHERE WHAT IT READS IS OF BULK AT MOST 1048576: true; the input reads as it did. -/
def htreeMeanwhileUptoRow : OpenClaim := { program := "yteglhbfhibfodaa", sum := "6ec68bf31c4eba55781a3425b98b2438f87a972ce88013c2674bc2ffc74248bb", func := "undercroft/undercroftlaw12.HtreeMeanwhile", spec := "htreeMeanwhile", inPlace := ["internal/bytealg.IndexByteString", "internal/bytealg.IndexString", "internal/bytealg.abigen_runtime_cmpstring", "slices.overlaps[undercroft/api.Name]", "slices.overlaps[undercroft/htree.row]"], unfollowed := true, recurses := true, named := ["internal/bytealg.MaxLen"], apart := false, narrowed := true }
def HtreeMeanwhileUptoSaid : Prop := htreeMeanwhileUptoRow.holds Try.pinned (OpenSpec.upto htreeMeanwhileSpec)

end Rows
end Go.Proofs.Yteglhbfhibfodaa
