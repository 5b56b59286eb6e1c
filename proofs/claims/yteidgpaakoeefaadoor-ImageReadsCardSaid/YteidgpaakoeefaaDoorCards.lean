/-
  DERIVED. GIVEN WITH THE SEED: THE CARDS: each row of YteidgpaakoeefaaDoorRows.lean that lists a variable, with what it lists TIED to the program's text (the seventh form; the later family's looks); each row that meets fmt, with fmt's text TOLD by the authors' own Lean function (tested against real Go, not proved from fmt's source: count such statements apart). THE CARD IS WHAT COUNTS. Prove the row's statement (the work); the ties are given (YteidgpaakoeefaaDoorTie.lean); close each card by the builder's one call (the guide's Derived/Test/ToyasCard.lean, 'card_holds'). Laid BY PROGRAM, IN A SANDBOX (cutbox-door.mjs). By AI agents, Wed Nov 11 2026. No macro, syntax, notation, axiom, sorry.
-/
import Derived.Test.YteidgpaakoeefaaDoorRows
import GoSem.ClaimSeven
namespace Go.Proofs.YteidgpaakoeefaaDoor
namespace Rows

/-- THE TIED CARD OF 'tiltyardlaw15.ImageWrites'. -/
def imageWritesCard : Claim7 := { stood := { row := imageWritesRow, standIns := [], harness := (true, "105d06b041f14c140c43ce1d5c85302f5f7b894115e859fa326bc53ebd6e0358"), looks := true }, kinds := [], alts := [], laidByText := true, laidKinds := [.data], laidTests := true, laidLooks := .later }
def ImageWritesCardSaid : Prop := Claim7.holds Tryd.pinned (.plain (OpenSpec.ofChange imageWritesSpec)) imageWritesCard

/-- THE TIED CARD OF 'tiltyardlaw15.ImageReads'. -/
def imageReadsCard : Claim7 := { stood := { row := imageReadsRow, standIns := [], harness := (true, "105d06b041f14c140c43ce1d5c85302f5f7b894115e859fa326bc53ebd6e0358"), looks := true }, kinds := [], alts := [], laidByText := true, laidKinds := [.data], laidTests := true, laidLooks := .later }
def ImageReadsCardSaid : Prop := Claim7.holds Tryd.pinned (.plain (OpenSpec.ofChange imageReadsSpec)) imageReadsCard

/-- THE TIED CARD OF 'tiltyardlaw15.ImageBack'. -/
def imageBackCard : Claim7 := { stood := { row := imageBackRow, standIns := [], harness := (true, "105d06b041f14c140c43ce1d5c85302f5f7b894115e859fa326bc53ebd6e0358"), looks := true }, kinds := [], alts := [], laidByText := true, laidKinds := [.data], laidTests := true, laidLooks := .later }
def ImageBackCardSaid : Prop := Claim7.holds Tryd.pinned (.plain (OpenSpec.ofChange imageBackSpec)) imageBackCard

/-- THE TIED CARD OF 'tiltyardlaw15.ImageTells'. -/
def imageTellsCard : Claim7 := { stood := { row := imageTellsRow, standIns := [], harness := (true, "105d06b041f14c140c43ce1d5c85302f5f7b894115e859fa326bc53ebd6e0358"), looks := true }, kinds := [], alts := [], laidByText := true, laidKinds := [.data], laidTests := true, laidLooks := .later }
def ImageTellsCardSaid : Prop := Claim7.holds Tryd.pinned (.plain (OpenSpec.ofChange imageTellsSpec)) imageTellsCard

/-- THE TIED CARD OF 'tiltyardlaw15.ImageCut'. -/
def imageCutCard : Claim7 := { stood := { row := imageCutRow, standIns := [], harness := (true, "105d06b041f14c140c43ce1d5c85302f5f7b894115e859fa326bc53ebd6e0358"), looks := true }, kinds := [], alts := [], laidByText := true, laidKinds := [.data], laidTests := true, laidLooks := .later }
def ImageCutCardSaid : Prop := Claim7.holds Tryd.pinned (.plain (OpenSpec.ofChange imageCutSpec)) imageCutCard

/-- THE SECOND FORM's CARD OF 'tiltyardlaw15.ImageWrites'. -/
def imageWritesUptoCard : Claim7 := { stood := { row := imageWritesUptoRow, standIns := [], harness := (true, "105d06b041f14c140c43ce1d5c85302f5f7b894115e859fa326bc53ebd6e0358"), looks := true }, kinds := [], alts := [], laidByText := true, laidKinds := [.data], laidTests := true, laidLooks := .later }
def ImageWritesUptoCardSaid : Prop := Claim7.holds Tryd.pinned (.plain (OpenSpec.upto imageWritesSpec)) imageWritesUptoCard

/-- THE SECOND FORM's CARD OF 'tiltyardlaw15.ImageReads'. -/
def imageReadsUptoCard : Claim7 := { stood := { row := imageReadsUptoRow, standIns := [], harness := (true, "105d06b041f14c140c43ce1d5c85302f5f7b894115e859fa326bc53ebd6e0358"), looks := true }, kinds := [], alts := [], laidByText := true, laidKinds := [.data], laidTests := true, laidLooks := .later }
def ImageReadsUptoCardSaid : Prop := Claim7.holds Tryd.pinned (.plain (OpenSpec.upto imageReadsSpec)) imageReadsUptoCard

/-- THE SECOND FORM's CARD OF 'tiltyardlaw15.ImageBack'. -/
def imageBackUptoCard : Claim7 := { stood := { row := imageBackUptoRow, standIns := [], harness := (true, "105d06b041f14c140c43ce1d5c85302f5f7b894115e859fa326bc53ebd6e0358"), looks := true }, kinds := [], alts := [], laidByText := true, laidKinds := [.data], laidTests := true, laidLooks := .later }
def ImageBackUptoCardSaid : Prop := Claim7.holds Tryd.pinned (.plain (OpenSpec.upto imageBackSpec)) imageBackUptoCard

/-- THE SECOND FORM's CARD OF 'tiltyardlaw15.ImageTells'. -/
def imageTellsUptoCard : Claim7 := { stood := { row := imageTellsUptoRow, standIns := [], harness := (true, "105d06b041f14c140c43ce1d5c85302f5f7b894115e859fa326bc53ebd6e0358"), looks := true }, kinds := [], alts := [], laidByText := true, laidKinds := [.data], laidTests := true, laidLooks := .later }
def ImageTellsUptoCardSaid : Prop := Claim7.holds Tryd.pinned (.plain (OpenSpec.upto imageTellsSpec)) imageTellsUptoCard

/-- THE SECOND FORM's CARD OF 'tiltyardlaw15.ImageCut'. -/
def imageCutUptoCard : Claim7 := { stood := { row := imageCutUptoRow, standIns := [], harness := (true, "105d06b041f14c140c43ce1d5c85302f5f7b894115e859fa326bc53ebd6e0358"), looks := true }, kinds := [], alts := [], laidByText := true, laidKinds := [.data], laidTests := true, laidLooks := .later }
def ImageCutUptoCardSaid : Prop := Claim7.holds Tryd.pinned (.plain (OpenSpec.upto imageCutSpec)) imageCutUptoCard
end Rows
end Go.Proofs.YteidgpaakoeefaaDoor
