/-
  DERIVED. GIVEN WITH THE SEED: THE CARDS: each row of YtgcboobdaeeanaaDoorRows.lean that lists a variable, with what it lists TIED to the program's text (the seventh form; the later family's looks); each row that meets fmt, with fmt's text TOLD by the authors' own Lean function (tested against real Go, not proved from fmt's source: count such statements apart). THE CARD IS WHAT COUNTS. Prove the row's statement (the work); the ties are given (YtgcboobdaeeanaaDoorTie.lean); close each card by the builder's one call (the guide's Derived/Test/ToyasCard.lean, 'card_holds'). Laid BY PROGRAM, IN A SANDBOX (cutbox-door.mjs). By AI agents, Wed Nov 11 2026. No macro, syntax, notation, axiom, sorry.
-/
import Derived.Test.YtgcboobdaeeanaaDoorRows
import GoSem.ClaimSeven
namespace Go.Proofs.YtgcboobdaeeanaaDoor
namespace Rows

/-- THE TIED CARD OF 'undercroftlaw14.PathSplits'. -/
def pathSplitsCard : Claim7 := { stood := { row := pathSplitsRow, standIns := [], harness := (true, "e7a5b36a5dbb71b9eca38999ec63d2b59cc8aafe58bc535c35ea62523a445272"), looks := false }, kinds := [], alts := [], laidByText := true, laidKinds := [.data, .pinned], laidTests := true, laidLooks := .later }
def PathSplitsCardSaid : Prop := Claim7.holds Tryd.pinned (.plain (OpenSpec.ofChange pathSplitsSpec)) pathSplitsCard

/-- THE TIED CARD OF 'undercroftlaw14.PathBack'. -/
def pathBackCard : Claim7 := { stood := { row := pathBackRow, standIns := [], harness := (true, "e7a5b36a5dbb71b9eca38999ec63d2b59cc8aafe58bc535c35ea62523a445272"), looks := false }, kinds := [], alts := [], laidByText := true, laidKinds := [.data, .pinned], laidTests := true, laidLooks := .later }
def PathBackCardSaid : Prop := Claim7.holds Tryd.pinned (.plain (OpenSpec.ofChange pathBackSpec)) pathBackCard

/-- THE TIED CARD OF 'undercroftlaw14.PathMore'. -/
def pathMoreCard : Claim7 := { stood := { row := pathMoreRow, standIns := [], harness := (true, "e7a5b36a5dbb71b9eca38999ec63d2b59cc8aafe58bc535c35ea62523a445272"), looks := false }, kinds := [], alts := [], laidByText := true, laidKinds := [.data, .pinned], laidTests := true, laidLooks := .later }
def PathMoreCardSaid : Prop := Claim7.holds Tryd.pinned (.plain (OpenSpec.ofChange pathMoreSpec)) pathMoreCard

/-- THE TIED CARD OF 'undercroftlaw14.PathJoins'. -/
def pathJoinsCard : Claim7 := { stood := { row := pathJoinsRow, standIns := [], harness := (true, "e7a5b36a5dbb71b9eca38999ec63d2b59cc8aafe58bc535c35ea62523a445272"), looks := false }, kinds := [], alts := [], laidByText := true, laidKinds := [.data, .pinned], laidTests := true, laidLooks := .later }
def PathJoinsCardSaid : Prop := Claim7.holds Tryd.pinned (.plain (OpenSpec.ofChange pathJoinsSpec)) pathJoinsCard

/-- THE TIED CARD OF 'undercroftlaw14.PathParts'. -/
def pathPartsCard : Claim7 := { stood := { row := pathPartsRow, standIns := [], harness := (true, "e7a5b36a5dbb71b9eca38999ec63d2b59cc8aafe58bc535c35ea62523a445272"), looks := false }, kinds := [], alts := [], laidByText := true, laidKinds := [.data, .pinned], laidTests := true, laidLooks := .later }
def PathPartsCardSaid : Prop := Claim7.holds Tryd.pinned (.plain (OpenSpec.ofChange pathPartsSpec)) pathPartsCard

/-- THE SECOND FORM's CARD OF 'undercroftlaw14.PathSplits'. -/
def pathSplitsUptoCard : Claim7 := { stood := { row := pathSplitsUptoRow, standIns := [], harness := (true, "e7a5b36a5dbb71b9eca38999ec63d2b59cc8aafe58bc535c35ea62523a445272"), looks := false }, kinds := [], alts := [], laidByText := true, laidKinds := [.data, .pinned], laidTests := true, laidLooks := .later }
def PathSplitsUptoCardSaid : Prop := Claim7.holds Tryd.pinned (.plain (OpenSpec.upto pathSplitsSpec)) pathSplitsUptoCard

/-- THE SECOND FORM's CARD OF 'undercroftlaw14.PathBack'. -/
def pathBackUptoCard : Claim7 := { stood := { row := pathBackUptoRow, standIns := [], harness := (true, "e7a5b36a5dbb71b9eca38999ec63d2b59cc8aafe58bc535c35ea62523a445272"), looks := false }, kinds := [], alts := [], laidByText := true, laidKinds := [.data, .pinned], laidTests := true, laidLooks := .later }
def PathBackUptoCardSaid : Prop := Claim7.holds Tryd.pinned (.plain (OpenSpec.upto pathBackSpec)) pathBackUptoCard

/-- THE SECOND FORM's CARD OF 'undercroftlaw14.PathMore'. -/
def pathMoreUptoCard : Claim7 := { stood := { row := pathMoreUptoRow, standIns := [], harness := (true, "e7a5b36a5dbb71b9eca38999ec63d2b59cc8aafe58bc535c35ea62523a445272"), looks := false }, kinds := [], alts := [], laidByText := true, laidKinds := [.data, .pinned], laidTests := true, laidLooks := .later }
def PathMoreUptoCardSaid : Prop := Claim7.holds Tryd.pinned (.plain (OpenSpec.upto pathMoreSpec)) pathMoreUptoCard

/-- THE SECOND FORM's CARD OF 'undercroftlaw14.PathJoins'. -/
def pathJoinsUptoCard : Claim7 := { stood := { row := pathJoinsUptoRow, standIns := [], harness := (true, "e7a5b36a5dbb71b9eca38999ec63d2b59cc8aafe58bc535c35ea62523a445272"), looks := false }, kinds := [], alts := [], laidByText := true, laidKinds := [.data, .pinned], laidTests := true, laidLooks := .later }
def PathJoinsUptoCardSaid : Prop := Claim7.holds Tryd.pinned (.plain (OpenSpec.upto pathJoinsSpec)) pathJoinsUptoCard

/-- THE SECOND FORM's CARD OF 'undercroftlaw14.PathParts'. -/
def pathPartsUptoCard : Claim7 := { stood := { row := pathPartsUptoRow, standIns := [], harness := (true, "e7a5b36a5dbb71b9eca38999ec63d2b59cc8aafe58bc535c35ea62523a445272"), looks := false }, kinds := [], alts := [], laidByText := true, laidKinds := [.data, .pinned], laidTests := true, laidLooks := .later }
def PathPartsUptoCardSaid : Prop := Claim7.holds Tryd.pinned (.plain (OpenSpec.upto pathPartsSpec)) pathPartsUptoCard
end Rows
end Go.Proofs.YtgcboobdaeeanaaDoor
