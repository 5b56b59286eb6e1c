/-
  DERIVED. GIVEN WITH THE SEED: THE CARDS: each row of YtcnibfancjofhaaDoorRows.lean that lists a variable, with what it lists TIED to the program's text (the seventh form; the later family's looks); each row that meets fmt, with fmt's text TOLD by the authors' own Lean function (tested against real Go, not proved from fmt's source: count such statements apart). THE CARD IS WHAT COUNTS. Prove the row's statement (the work); the ties are given (YtcnibfancjofhaaDoorTie.lean); close each card by the builder's one call (the guide's Derived/Test/ToyasCard.lean, 'card_holds'). Laid BY PROGRAM, IN A SANDBOX (cutbox-door.mjs). By AI agents, Wed Nov 11 2026. No macro, syntax, notation, axiom, sorry.
-/
import Derived.Test.YtcnibfancjofhaaDoorRows
import GoSem.ClaimSeven
namespace Go.Proofs.YtcnibfancjofhaaDoor
namespace Rows

/-- THE TIED CARD OF 'tiltyardlaw03.FixTexts'. -/
def fixTextsCard : Claim7 := { stood := { row := fixTextsRow, standIns := [], harness := (true, "f2f633a4202589a8cb48467ea0ca5dddff7056f440f3f87ca56b0115212999d3"), looks := true }, kinds := [], alts := [], laidByText := true, laidKinds := [.data, .data, .data, .data, .sentinel, .sentinel, .pinned], laidTests := true, laidLooks := .later }
def FixTextsCardSaid : Prop := Claim7.holds Tryd.pinned (.plain (OpenSpec.ofChange fixTextsSpec)) fixTextsCard

/-- THE TIED CARD OF 'tiltyardlaw03.FixRoots'. -/
def fixRootsCard : Claim7 := { stood := { row := fixRootsRow, standIns := [], harness := (true, "f2f633a4202589a8cb48467ea0ca5dddff7056f440f3f87ca56b0115212999d3"), looks := true }, kinds := [], alts := [], laidByText := true, laidKinds := [.data, .data, .data, .data, .sentinel, .sentinel, .pinned], laidTests := true, laidLooks := .later }
def FixRootsCardSaid : Prop := Claim7.holds Tryd.pinned (.plain (OpenSpec.ofChange fixRootsSpec)) fixRootsCard

/-- THE TIED CARD OF 'tiltyardlaw03.FixPrints'. -/
def fixPrintsCard : Claim7 := { stood := { row := fixPrintsRow, standIns := [], harness := (true, "f2f633a4202589a8cb48467ea0ca5dddff7056f440f3f87ca56b0115212999d3"), looks := true }, kinds := [], alts := [], laidByText := true, laidKinds := [.data, .data, .data, .data, .sentinel, .sentinel, .pinned], laidTests := true, laidLooks := .later }
def FixPrintsCardSaid : Prop := Claim7.holds Tryd.pinned (.plain (OpenSpec.ofChange fixPrintsSpec)) fixPrintsCard

/-- THE TIED CARD OF 'tiltyardlaw03.FixDivides'. -/
def fixDividesCard : Claim7 := { stood := { row := fixDividesRow, standIns := [], harness := (true, "f2f633a4202589a8cb48467ea0ca5dddff7056f440f3f87ca56b0115212999d3"), looks := true }, kinds := [], alts := [], laidByText := true, laidKinds := [.data, .data, .data, .data, .sentinel, .sentinel, .pinned], laidTests := true, laidLooks := .later }
def FixDividesCardSaid : Prop := Claim7.holds Tryd.pinned (.plain (OpenSpec.ofChange fixDividesSpec)) fixDividesCard

/-- THE TIED CARD OF 'tiltyardlaw03.FixOrder'. -/
def fixOrderCard : Claim7 := { stood := { row := fixOrderRow, standIns := [], harness := (true, "f2f633a4202589a8cb48467ea0ca5dddff7056f440f3f87ca56b0115212999d3"), looks := true }, kinds := [], alts := [], laidByText := true, laidKinds := [.data, .data, .data, .data, .sentinel, .sentinel, .pinned], laidTests := true, laidLooks := .later }
def FixOrderCardSaid : Prop := Claim7.holds Tryd.pinned (.plain (OpenSpec.ofChange fixOrderSpec)) fixOrderCard

/-- THE TIED CARD OF 'tiltyardlaw03.FixSigns'. -/
def fixSignsCard : Claim7 := { stood := { row := fixSignsRow, standIns := [], harness := (true, "f2f633a4202589a8cb48467ea0ca5dddff7056f440f3f87ca56b0115212999d3"), looks := true }, kinds := [], alts := [], laidByText := true, laidKinds := [.data, .data, .data, .data, .sentinel, .sentinel, .pinned], laidTests := true, laidLooks := .later }
def FixSignsCardSaid : Prop := Claim7.holds Tryd.pinned (.plain (OpenSpec.ofChange fixSignsSpec)) fixSignsCard

/-- THE TIED CARD OF 'tiltyardlaw03.FixWorks'. -/
def fixWorksCard : Claim7 := { stood := { row := fixWorksRow, standIns := [], harness := (true, "f2f633a4202589a8cb48467ea0ca5dddff7056f440f3f87ca56b0115212999d3"), looks := true }, kinds := [], alts := [], laidByText := true, laidKinds := [.data, .data, .data, .data, .sentinel, .sentinel, .pinned], laidTests := true, laidLooks := .later }
def FixWorksCardSaid : Prop := Claim7.holds Tryd.pinned (.plain (OpenSpec.ofChange fixWorksSpec)) fixWorksCard

/-- THE TIED CARD OF 'tiltyardlaw03.FixWhole'. -/
def fixWholeCard : Claim7 := { stood := { row := fixWholeRow, standIns := [], harness := (true, "f2f633a4202589a8cb48467ea0ca5dddff7056f440f3f87ca56b0115212999d3"), looks := true }, kinds := [], alts := [], laidByText := true, laidKinds := [.data, .data, .data, .data, .sentinel, .sentinel, .pinned], laidTests := true, laidLooks := .later }
def FixWholeCardSaid : Prop := Claim7.holds Tryd.pinned (.plain (OpenSpec.ofChange fixWholeSpec)) fixWholeCard

/-- THE SECOND FORM's CARD OF 'tiltyardlaw03.FixTexts'. -/
def fixTextsUptoCard : Claim7 := { stood := { row := fixTextsUptoRow, standIns := [], harness := (true, "f2f633a4202589a8cb48467ea0ca5dddff7056f440f3f87ca56b0115212999d3"), looks := true }, kinds := [], alts := [], laidByText := true, laidKinds := [.data, .data, .data, .data, .sentinel, .sentinel, .pinned], laidTests := true, laidLooks := .later }
def FixTextsUptoCardSaid : Prop := Claim7.holds Tryd.pinned (.plain (OpenSpec.upto fixTextsSpec)) fixTextsUptoCard

/-- THE SECOND FORM's CARD OF 'tiltyardlaw03.FixRoots'. -/
def fixRootsUptoCard : Claim7 := { stood := { row := fixRootsUptoRow, standIns := [], harness := (true, "f2f633a4202589a8cb48467ea0ca5dddff7056f440f3f87ca56b0115212999d3"), looks := true }, kinds := [], alts := [], laidByText := true, laidKinds := [.data, .data, .data, .data, .sentinel, .sentinel, .pinned], laidTests := true, laidLooks := .later }
def FixRootsUptoCardSaid : Prop := Claim7.holds Tryd.pinned (.plain (OpenSpec.upto fixRootsSpec)) fixRootsUptoCard

/-- THE SECOND FORM's CARD OF 'tiltyardlaw03.FixPrints'. -/
def fixPrintsUptoCard : Claim7 := { stood := { row := fixPrintsUptoRow, standIns := [], harness := (true, "f2f633a4202589a8cb48467ea0ca5dddff7056f440f3f87ca56b0115212999d3"), looks := true }, kinds := [], alts := [], laidByText := true, laidKinds := [.data, .data, .data, .data, .sentinel, .sentinel, .pinned], laidTests := true, laidLooks := .later }
def FixPrintsUptoCardSaid : Prop := Claim7.holds Tryd.pinned (.plain (OpenSpec.upto fixPrintsSpec)) fixPrintsUptoCard

/-- THE SECOND FORM's CARD OF 'tiltyardlaw03.FixDivides'. -/
def fixDividesUptoCard : Claim7 := { stood := { row := fixDividesUptoRow, standIns := [], harness := (true, "f2f633a4202589a8cb48467ea0ca5dddff7056f440f3f87ca56b0115212999d3"), looks := true }, kinds := [], alts := [], laidByText := true, laidKinds := [.data, .data, .data, .data, .sentinel, .sentinel, .pinned], laidTests := true, laidLooks := .later }
def FixDividesUptoCardSaid : Prop := Claim7.holds Tryd.pinned (.plain (OpenSpec.upto fixDividesSpec)) fixDividesUptoCard

/-- THE SECOND FORM's CARD OF 'tiltyardlaw03.FixOrder'. -/
def fixOrderUptoCard : Claim7 := { stood := { row := fixOrderUptoRow, standIns := [], harness := (true, "f2f633a4202589a8cb48467ea0ca5dddff7056f440f3f87ca56b0115212999d3"), looks := true }, kinds := [], alts := [], laidByText := true, laidKinds := [.data, .data, .data, .data, .sentinel, .sentinel, .pinned], laidTests := true, laidLooks := .later }
def FixOrderUptoCardSaid : Prop := Claim7.holds Tryd.pinned (.plain (OpenSpec.upto fixOrderSpec)) fixOrderUptoCard

/-- THE SECOND FORM's CARD OF 'tiltyardlaw03.FixSigns'. -/
def fixSignsUptoCard : Claim7 := { stood := { row := fixSignsUptoRow, standIns := [], harness := (true, "f2f633a4202589a8cb48467ea0ca5dddff7056f440f3f87ca56b0115212999d3"), looks := true }, kinds := [], alts := [], laidByText := true, laidKinds := [.data, .data, .data, .data, .sentinel, .sentinel, .pinned], laidTests := true, laidLooks := .later }
def FixSignsUptoCardSaid : Prop := Claim7.holds Tryd.pinned (.plain (OpenSpec.upto fixSignsSpec)) fixSignsUptoCard

/-- THE SECOND FORM's CARD OF 'tiltyardlaw03.FixWorks'. -/
def fixWorksUptoCard : Claim7 := { stood := { row := fixWorksUptoRow, standIns := [], harness := (true, "f2f633a4202589a8cb48467ea0ca5dddff7056f440f3f87ca56b0115212999d3"), looks := true }, kinds := [], alts := [], laidByText := true, laidKinds := [.data, .data, .data, .data, .sentinel, .sentinel, .pinned], laidTests := true, laidLooks := .later }
def FixWorksUptoCardSaid : Prop := Claim7.holds Tryd.pinned (.plain (OpenSpec.upto fixWorksSpec)) fixWorksUptoCard

/-- THE SECOND FORM's CARD OF 'tiltyardlaw03.FixWhole'. -/
def fixWholeUptoCard : Claim7 := { stood := { row := fixWholeUptoRow, standIns := [], harness := (true, "f2f633a4202589a8cb48467ea0ca5dddff7056f440f3f87ca56b0115212999d3"), looks := true }, kinds := [], alts := [], laidByText := true, laidKinds := [.data, .data, .data, .data, .sentinel, .sentinel, .pinned], laidTests := true, laidLooks := .later }
def FixWholeUptoCardSaid : Prop := Claim7.holds Tryd.pinned (.plain (OpenSpec.upto fixWholeSpec)) fixWholeUptoCard
end Rows
end Go.Proofs.YtcnibfancjofhaaDoor
