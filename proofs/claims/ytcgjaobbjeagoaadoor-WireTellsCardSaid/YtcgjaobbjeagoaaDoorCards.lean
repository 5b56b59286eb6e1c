/-
  DERIVED. GIVEN WITH THE SEED: THE CARDS: each row of YtcgjaobbjeagoaaDoorRows.lean that lists a variable, with what it lists TIED to the program's text (the seventh form; the later family's looks); each row that meets fmt, with fmt's text TOLD by the authors' own Lean function (tested against real Go, not proved from fmt's source: count such statements apart). THE CARD IS WHAT COUNTS. Prove the row's statement (the work); the ties are given (YtcgjaobbjeagoaaDoorTie.lean); close each card by the builder's one call (the guide's Derived/Test/ToyasCard.lean, 'card_holds'). Laid BY PROGRAM, IN A SANDBOX (cutbox-door.mjs). By AI agents, Wed Nov 11 2026. No macro, syntax, notation, axiom, sorry.
-/
import Derived.Test.YtcgjaobbjeagoaaDoorRows
import GoSem.ClaimSeven
namespace Go.Proofs.YtcgjaobbjeagoaaDoor
namespace Rows

/-- THE TIED CARD OF 'tiltyardlaw02.WireShort'. -/
def wireShortCard : Claim7 := { stood := { row := wireShortRow, standIns := [], harness := (true, "61a856aa91b0e802016c70cf776f08243ddd6516bb1e83986462857b0908560b"), looks := false }, kinds := [], alts := [], laidByText := true, laidKinds := [.data], laidTests := true, laidLooks := .later }
def WireShortCardSaid : Prop := Claim7.holds Tryd.pinned (.plain (OpenSpec.ofChange wireShortSpec)) wireShortCard

/-- THE TIED CARD OF 'tiltyardlaw02.WireRest'. -/
def wireRestCard : Claim7 := { stood := { row := wireRestRow, standIns := [], harness := (true, "61a856aa91b0e802016c70cf776f08243ddd6516bb1e83986462857b0908560b"), looks := false }, kinds := [], alts := [], laidByText := true, laidKinds := [.data], laidTests := true, laidLooks := .later }
def WireRestCardSaid : Prop := Claim7.holds Tryd.pinned (.plain (OpenSpec.ofChange wireRestSpec)) wireRestCard

/-- THE TIED CARD OF 'tiltyardlaw02.WireReads'. -/
def wireReadsCard : Claim7 := { stood := { row := wireReadsRow, standIns := [], harness := (true, "61a856aa91b0e802016c70cf776f08243ddd6516bb1e83986462857b0908560b"), looks := false }, kinds := [], alts := [], laidByText := true, laidKinds := [.data], laidTests := true, laidLooks := .later }
def WireReadsCardSaid : Prop := Claim7.holds Tryd.pinned (.plain (OpenSpec.ofChange wireReadsSpec)) wireReadsCard

/-- THE TIED CARD OF 'tiltyardlaw02.WireBack'. -/
def wireBackCard : Claim7 := { stood := { row := wireBackRow, standIns := [], harness := (true, "61a856aa91b0e802016c70cf776f08243ddd6516bb1e83986462857b0908560b"), looks := false }, kinds := [], alts := [], laidByText := true, laidKinds := [.data], laidTests := true, laidLooks := .later }
def WireBackCardSaid : Prop := Claim7.holds Tryd.pinned (.plain (OpenSpec.ofChange wireBackSpec)) wireBackCard

/-- THE TIED CARD OF 'tiltyardlaw02.WireRows'. -/
def wireRowsCard : Claim7 := { stood := { row := wireRowsRow, standIns := [], harness := (true, "61a856aa91b0e802016c70cf776f08243ddd6516bb1e83986462857b0908560b"), looks := false }, kinds := [], alts := [], laidByText := true, laidKinds := [.data], laidTests := true, laidLooks := .later }
def WireRowsCardSaid : Prop := Claim7.holds Tryd.pinned (.plain (OpenSpec.ofChange wireRowsSpec)) wireRowsCard

/-- THE TIED CARD OF 'tiltyardlaw02.WireWrites'. -/
def wireWritesCard : Claim7 := { stood := { row := wireWritesRow, standIns := [], harness := (true, "61a856aa91b0e802016c70cf776f08243ddd6516bb1e83986462857b0908560b"), looks := false }, kinds := [], alts := [], laidByText := true, laidKinds := [.data], laidTests := true, laidLooks := .later }
def WireWritesCardSaid : Prop := Claim7.holds Tryd.pinned (.plain (OpenSpec.ofChange wireWritesSpec)) wireWritesCard

/-- THE TIED CARD OF 'tiltyardlaw02.WireTells'. -/
def wireTellsCard : Claim7 := { stood := { row := wireTellsRow, standIns := [], harness := (true, "61a856aa91b0e802016c70cf776f08243ddd6516bb1e83986462857b0908560b"), looks := false }, kinds := [], alts := [], laidByText := true, laidKinds := [.data], laidTests := true, laidLooks := .later }
def WireTellsCardSaid : Prop := Claim7.holds Tryd.pinned (.plain (OpenSpec.ofChange wireTellsSpec)) wireTellsCard

/-- THE SECOND FORM's CARD OF 'tiltyardlaw02.WireShort'. -/
def wireShortUptoCard : Claim7 := { stood := { row := wireShortUptoRow, standIns := [], harness := (true, "61a856aa91b0e802016c70cf776f08243ddd6516bb1e83986462857b0908560b"), looks := false }, kinds := [], alts := [], laidByText := true, laidKinds := [.data], laidTests := true, laidLooks := .later }
def WireShortUptoCardSaid : Prop := Claim7.holds Tryd.pinned (.plain (OpenSpec.upto wireShortSpec)) wireShortUptoCard

/-- THE SECOND FORM's CARD OF 'tiltyardlaw02.WireRest'. -/
def wireRestUptoCard : Claim7 := { stood := { row := wireRestUptoRow, standIns := [], harness := (true, "61a856aa91b0e802016c70cf776f08243ddd6516bb1e83986462857b0908560b"), looks := false }, kinds := [], alts := [], laidByText := true, laidKinds := [.data], laidTests := true, laidLooks := .later }
def WireRestUptoCardSaid : Prop := Claim7.holds Tryd.pinned (.plain (OpenSpec.upto wireRestSpec)) wireRestUptoCard

/-- THE SECOND FORM's CARD OF 'tiltyardlaw02.WireReads'. -/
def wireReadsUptoCard : Claim7 := { stood := { row := wireReadsUptoRow, standIns := [], harness := (true, "61a856aa91b0e802016c70cf776f08243ddd6516bb1e83986462857b0908560b"), looks := false }, kinds := [], alts := [], laidByText := true, laidKinds := [.data], laidTests := true, laidLooks := .later }
def WireReadsUptoCardSaid : Prop := Claim7.holds Tryd.pinned (.plain (OpenSpec.upto wireReadsSpec)) wireReadsUptoCard

/-- THE SECOND FORM's CARD OF 'tiltyardlaw02.WireBack'. -/
def wireBackUptoCard : Claim7 := { stood := { row := wireBackUptoRow, standIns := [], harness := (true, "61a856aa91b0e802016c70cf776f08243ddd6516bb1e83986462857b0908560b"), looks := false }, kinds := [], alts := [], laidByText := true, laidKinds := [.data], laidTests := true, laidLooks := .later }
def WireBackUptoCardSaid : Prop := Claim7.holds Tryd.pinned (.plain (OpenSpec.upto wireBackSpec)) wireBackUptoCard

/-- THE SECOND FORM's CARD OF 'tiltyardlaw02.WireRows'. -/
def wireRowsUptoCard : Claim7 := { stood := { row := wireRowsUptoRow, standIns := [], harness := (true, "61a856aa91b0e802016c70cf776f08243ddd6516bb1e83986462857b0908560b"), looks := false }, kinds := [], alts := [], laidByText := true, laidKinds := [.data], laidTests := true, laidLooks := .later }
def WireRowsUptoCardSaid : Prop := Claim7.holds Tryd.pinned (.plain (OpenSpec.upto wireRowsSpec)) wireRowsUptoCard

/-- THE SECOND FORM's CARD OF 'tiltyardlaw02.WireWrites'. -/
def wireWritesUptoCard : Claim7 := { stood := { row := wireWritesUptoRow, standIns := [], harness := (true, "61a856aa91b0e802016c70cf776f08243ddd6516bb1e83986462857b0908560b"), looks := false }, kinds := [], alts := [], laidByText := true, laidKinds := [.data], laidTests := true, laidLooks := .later }
def WireWritesUptoCardSaid : Prop := Claim7.holds Tryd.pinned (.plain (OpenSpec.upto wireWritesSpec)) wireWritesUptoCard

/-- THE SECOND FORM's CARD OF 'tiltyardlaw02.WireTells'. -/
def wireTellsUptoCard : Claim7 := { stood := { row := wireTellsUptoRow, standIns := [], harness := (true, "61a856aa91b0e802016c70cf776f08243ddd6516bb1e83986462857b0908560b"), looks := false }, kinds := [], alts := [], laidByText := true, laidKinds := [.data], laidTests := true, laidLooks := .later }
def WireTellsUptoCardSaid : Prop := Claim7.holds Tryd.pinned (.plain (OpenSpec.upto wireTellsSpec)) wireTellsUptoCard
end Rows
end Go.Proofs.YtcgjaobbjeagoaaDoor
