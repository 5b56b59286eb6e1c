/-
  DERIVED. GIVEN WITH THE SEED: THE CARDS: each row of YtbdocgddidcfeaaDoorRows.lean that lists a variable, with what it lists TIED to the program's text (the seventh form; the later family's looks); each row that meets fmt, with fmt's text TOLD by the authors' own Lean function (tested against real Go, not proved from fmt's source: count such statements apart). THE CARD IS WHAT COUNTS. Prove the row's statement (the work); the ties are given (YtbdocgddidcfeaaDoorTie.lean); close each card by the builder's one call (the guide's Derived/Test/ToyasCard.lean, 'card_holds'). Laid BY PROGRAM, IN A SANDBOX (cutbox-door.mjs). By AI agents, Wed Nov 11 2026. No macro, syntax, notation, axiom, sorry.
-/
import Derived.Test.YtbdocgddidcfeaaDoorRows
import GoSem.ClaimSeven
namespace Go.Proofs.YtbdocgddidcfeaaDoor
namespace Rows

/-- THE TIED CARD OF 'tiltyardlaw07.LinkNewer'. -/
def linkNewerCard : Claim7 := { stood := { row := linkNewerRow, standIns := [], harness := (true, "1ad666272a8019998c5a90908146574e15612144ddaaaeea913f63522a67b59e"), looks := false }, kinds := [], alts := [], laidByText := true, laidKinds := [.data], laidTests := true, laidLooks := .later }
def LinkNewerCardSaid : Prop := Claim7.holds Tryd.pinned (.plain (OpenSpec.ofChange linkNewerSpec)) linkNewerCard

/-- THE TIED CARD OF 'tiltyardlaw07.LinkParts'. -/
def linkPartsCard : Claim7 := { stood := { row := linkPartsRow, standIns := [], harness := (true, "1ad666272a8019998c5a90908146574e15612144ddaaaeea913f63522a67b59e"), looks := false }, kinds := [], alts := [], laidByText := true, laidKinds := [.data], laidTests := true, laidLooks := .later }
def LinkPartsCardSaid : Prop := Claim7.holds Tryd.pinned (.plain (OpenSpec.ofChange linkPartsSpec)) linkPartsCard

/-- THE TIED CARD OF 'tiltyardlaw07.LinkHeard'. -/
def linkHeardCard : Claim7 := { stood := { row := linkHeardRow, standIns := [], harness := (true, "1ad666272a8019998c5a90908146574e15612144ddaaaeea913f63522a67b59e"), looks := false }, kinds := [], alts := [], laidByText := true, laidKinds := [.data], laidTests := true, laidLooks := .later }
def LinkHeardCardSaid : Prop := Claim7.holds Tryd.pinned (.plain (OpenSpec.ofChange linkHeardSpec)) linkHeardCard

/-- THE TIED CARD OF 'tiltyardlaw07.LinkPlays'. -/
def linkPlaysCard : Claim7 := { stood := { row := linkPlaysRow, standIns := [], harness := (true, "1ad666272a8019998c5a90908146574e15612144ddaaaeea913f63522a67b59e"), looks := false }, kinds := [], alts := [], laidByText := true, laidKinds := [.data], laidTests := true, laidLooks := .later }
def LinkPlaysCardSaid : Prop := Claim7.holds Tryd.pinned (.plain (OpenSpec.ofChange linkPlaysSpec)) linkPlaysCard

/-- THE TIED CARD OF 'tiltyardlaw07.LinkOnce'. -/
def linkOnceCard : Claim7 := { stood := { row := linkOnceRow, standIns := [], harness := (true, "1ad666272a8019998c5a90908146574e15612144ddaaaeea913f63522a67b59e"), looks := false }, kinds := [], alts := [], laidByText := true, laidKinds := [.data], laidTests := true, laidLooks := .later }
def LinkOnceCardSaid : Prop := Claim7.holds Tryd.pinned (.plain (OpenSpec.ofChange linkOnceSpec)) linkOnceCard

/-- THE TIED CARD OF 'tiltyardlaw07.LinkWhole'. -/
def linkWholeCard : Claim7 := { stood := { row := linkWholeRow, standIns := [], harness := (true, "1ad666272a8019998c5a90908146574e15612144ddaaaeea913f63522a67b59e"), looks := false }, kinds := [], alts := [], laidByText := true, laidKinds := [.data], laidTests := true, laidLooks := .later }
def LinkWholeCardSaid : Prop := Claim7.holds Tryd.pinned (.plain (OpenSpec.ofChange linkWholeSpec)) linkWholeCard

/-- THE SECOND FORM's CARD OF 'tiltyardlaw07.LinkNewer'. -/
def linkNewerUptoCard : Claim7 := { stood := { row := linkNewerUptoRow, standIns := [], harness := (true, "1ad666272a8019998c5a90908146574e15612144ddaaaeea913f63522a67b59e"), looks := false }, kinds := [], alts := [], laidByText := true, laidKinds := [.data], laidTests := true, laidLooks := .later }
def LinkNewerUptoCardSaid : Prop := Claim7.holds Tryd.pinned (.plain (OpenSpec.upto linkNewerSpec)) linkNewerUptoCard

/-- THE SECOND FORM's CARD OF 'tiltyardlaw07.LinkParts'. -/
def linkPartsUptoCard : Claim7 := { stood := { row := linkPartsUptoRow, standIns := [], harness := (true, "1ad666272a8019998c5a90908146574e15612144ddaaaeea913f63522a67b59e"), looks := false }, kinds := [], alts := [], laidByText := true, laidKinds := [.data], laidTests := true, laidLooks := .later }
def LinkPartsUptoCardSaid : Prop := Claim7.holds Tryd.pinned (.plain (OpenSpec.upto linkPartsSpec)) linkPartsUptoCard

/-- THE SECOND FORM's CARD OF 'tiltyardlaw07.LinkHeard'. -/
def linkHeardUptoCard : Claim7 := { stood := { row := linkHeardUptoRow, standIns := [], harness := (true, "1ad666272a8019998c5a90908146574e15612144ddaaaeea913f63522a67b59e"), looks := false }, kinds := [], alts := [], laidByText := true, laidKinds := [.data], laidTests := true, laidLooks := .later }
def LinkHeardUptoCardSaid : Prop := Claim7.holds Tryd.pinned (.plain (OpenSpec.upto linkHeardSpec)) linkHeardUptoCard

/-- THE SECOND FORM's CARD OF 'tiltyardlaw07.LinkPlays'. -/
def linkPlaysUptoCard : Claim7 := { stood := { row := linkPlaysUptoRow, standIns := [], harness := (true, "1ad666272a8019998c5a90908146574e15612144ddaaaeea913f63522a67b59e"), looks := false }, kinds := [], alts := [], laidByText := true, laidKinds := [.data], laidTests := true, laidLooks := .later }
def LinkPlaysUptoCardSaid : Prop := Claim7.holds Tryd.pinned (.plain (OpenSpec.upto linkPlaysSpec)) linkPlaysUptoCard

/-- THE SECOND FORM's CARD OF 'tiltyardlaw07.LinkOnce'. -/
def linkOnceUptoCard : Claim7 := { stood := { row := linkOnceUptoRow, standIns := [], harness := (true, "1ad666272a8019998c5a90908146574e15612144ddaaaeea913f63522a67b59e"), looks := false }, kinds := [], alts := [], laidByText := true, laidKinds := [.data], laidTests := true, laidLooks := .later }
def LinkOnceUptoCardSaid : Prop := Claim7.holds Tryd.pinned (.plain (OpenSpec.upto linkOnceSpec)) linkOnceUptoCard

/-- THE SECOND FORM's CARD OF 'tiltyardlaw07.LinkWhole'. -/
def linkWholeUptoCard : Claim7 := { stood := { row := linkWholeUptoRow, standIns := [], harness := (true, "1ad666272a8019998c5a90908146574e15612144ddaaaeea913f63522a67b59e"), looks := false }, kinds := [], alts := [], laidByText := true, laidKinds := [.data], laidTests := true, laidLooks := .later }
def LinkWholeUptoCardSaid : Prop := Claim7.holds Tryd.pinned (.plain (OpenSpec.upto linkWholeSpec)) linkWholeUptoCard
end Rows
end Go.Proofs.YtbdocgddidcfeaaDoor
