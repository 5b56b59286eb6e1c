/-
  NARROWER THAN 'FOR EVERY INPUT', by the rows' own cells (each row's printed sentence says how): WireShort: laid · WireRest: laid · WireReads: laid · WireBack: laid · WireRows: laid · WireWrites: laid · WireTells: laid.
  DERIVED. THE GIVEN ROWS OF THIS SEAT. 7 by the template 'for every input the law returns true; each argument reads behind the call as it read before'; 0 by the template 'total and deterministic' (their statements: YtcgjaobbjeagoaaDoorTotals.lean).
  GIVEN WITH THE SEED: the statements are not yours to turn. If you find one false, say at which input.
  Laid BY PROGRAM, IN A SANDBOX (cutbox-rows.mjs): the forced cells as the released guide's own fill.sh prints them over the translation 03dccc14c85c635e… (all of the seat's roots in one cut). By AI agents, Wed Nov 11 2026. No macro, syntax, notation, axiom, sorry.
-/
import Derived.Test.YtcgjaobbjeagoaaDoorChecked
import GoSem.Claim
import GoSem.ClaimJoined
import GoSem.ClaimMapViews
import Derived.JoinedTies
import Derived.KernelRfl
namespace Go.Proofs.YtcgjaobbjeagoaaDoor
/- THE CELL 'sum', in the pinned program and in every row, IS THE sha256 OF THE DUMP (.gsa) THAT YtcgjaobbjeagoaaDoorProg.lean LOADS. Nothing in Lean hashes anything: it is a label: what it is worth is what the hold of that sum in a sandbox is worth. -/
noncomputable def Tryd.pinned : Pinned := { name := "ytcgjaobbjeagoaadoor", sum := "03dccc14c85c635e31257c01bf14d3dd66e8301b5a4cdff6f086bb5f38fd9000", checked := Tryd.checked }
namespace Rows
def none {H : Type} : Left H := { results := [], args := [] }

/- WHAT THE LISTED PACKAGE-LEVEL VARIABLES READ AS WHEN THE CALL BEGINS. Each datum BY PROGRAM (the guide's laid-datum.mjs) off the statement by which the dump's own 'gosem.cut.vars' lays the variable. In a bare row this is a premise. The card (YtcgjaobbjeagoaaDoorCards.lean) ties it to the program's text. -/
def laid_tiltyard_wire_nibbles {H : Type} : DataW H := .agg [.lit (.int .u32 0), .lit (.int .u32 498536548), .lit (.int .u32 997073096), .lit (.int .u32 651767980), .lit (.int .u32 1994146192), .lit (.int .u32 1802195444), .lit (.int .u32 1303535960), .lit (.int .u32 1342533948), .lit (.int .u32 3988292384), .lit (.int .u32 4027552580), .lit (.int .u32 3604390888), .lit (.int .u32 3412177804), .lit (.int .u32 2607071920), .lit (.int .u32 2262029012), .lit (.int .u32 2685067896), .lit (.int .u32 3183342108)]

/-- 'tiltyardlaw02.WireShort': WHATEVER THE INPUT: true; the input reads as it did. -/
def wireShortSpec : ChangeSpec := { name := "wireShort", fn := fun _ => fun
  | [d] => { results := [.lit (.bool true)], args := [d] }
  | _ => none }
def wireShortRow : OpenClaim := { program := "ytcgjaobbjeagoaadoor", sum := "03dccc14c85c635e31257c01bf14d3dd66e8301b5a4cdff6f086bb5f38fd9000", func := "tiltyard/tiltyardlaw02.WireShort", spec := "wireShort", named := ["tiltyard/wire.nibbles"], apart := false, laid := [("tiltyard/wire.nibbles", laid_tiltyard_wire_nibbles)] }
def WireShortSaid : Prop := wireShortRow.holds Tryd.pinned (OpenSpec.ofChange wireShortSpec)

/-- ITS FALSE NEIGHBOUR: 'it returns false'. Refute it at one input. -/
def wireShortWrong : ChangeSpec := { name := "wireShort", fn := fun _ => fun
  | [d] => { results := [.lit (.bool false)], args := [d] }
  | _ => none }
def WireShortWrongFalsely : Prop := wireShortRow.holds Tryd.pinned (OpenSpec.ofChange wireShortWrong)

/-- 'tiltyardlaw02.WireRest': WHATEVER THE INPUT: true; the input reads as it did. -/
def wireRestSpec : ChangeSpec := { name := "wireRest", fn := fun _ => fun
  | [d] => { results := [.lit (.bool true)], args := [d] }
  | _ => none }
def wireRestRow : OpenClaim := { program := "ytcgjaobbjeagoaadoor", sum := "03dccc14c85c635e31257c01bf14d3dd66e8301b5a4cdff6f086bb5f38fd9000", func := "tiltyard/tiltyardlaw02.WireRest", spec := "wireRest", named := ["tiltyard/wire.nibbles"], apart := false, laid := [("tiltyard/wire.nibbles", laid_tiltyard_wire_nibbles)] }
def WireRestSaid : Prop := wireRestRow.holds Tryd.pinned (OpenSpec.ofChange wireRestSpec)

/-- ITS FALSE NEIGHBOUR: 'it returns false'. Refute it at one input. -/
def wireRestWrong : ChangeSpec := { name := "wireRest", fn := fun _ => fun
  | [d] => { results := [.lit (.bool false)], args := [d] }
  | _ => none }
def WireRestWrongFalsely : Prop := wireRestRow.holds Tryd.pinned (OpenSpec.ofChange wireRestWrong)

/-- 'tiltyardlaw02.WireReads': WHATEVER THE INPUT: true; the input reads as it did. -/
def wireReadsSpec : ChangeSpec := { name := "wireReads", fn := fun _ => fun
  | [d1, d2] => { results := [.lit (.bool true)], args := [d1, d2] }
  | _ => none }
def wireReadsRow : OpenClaim := { program := "ytcgjaobbjeagoaadoor", sum := "03dccc14c85c635e31257c01bf14d3dd66e8301b5a4cdff6f086bb5f38fd9000", func := "tiltyard/tiltyardlaw02.WireReads", spec := "wireReads", named := ["tiltyard/wire.nibbles"], apart := false, laid := [("tiltyard/wire.nibbles", laid_tiltyard_wire_nibbles)] }
def WireReadsSaid : Prop := wireReadsRow.holds Tryd.pinned (OpenSpec.ofChange wireReadsSpec)

/-- ITS FALSE NEIGHBOUR: 'it returns false'. Refute it at one input. -/
def wireReadsWrong : ChangeSpec := { name := "wireReads", fn := fun _ => fun
  | [d1, d2] => { results := [.lit (.bool false)], args := [d1, d2] }
  | _ => none }
def WireReadsWrongFalsely : Prop := wireReadsRow.holds Tryd.pinned (OpenSpec.ofChange wireReadsWrong)

/-- 'tiltyardlaw02.WireBack': WHATEVER THE INPUT: true; the input reads as it did. -/
def wireBackSpec : ChangeSpec := { name := "wireBack", fn := fun _ => fun
  | [d1, d2, d3, d4, d5] => { results := [.lit (.bool true)], args := [d1, d2, d3, d4, d5] }
  | _ => none }
def wireBackRow : OpenClaim := { program := "ytcgjaobbjeagoaadoor", sum := "03dccc14c85c635e31257c01bf14d3dd66e8301b5a4cdff6f086bb5f38fd9000", func := "tiltyard/tiltyardlaw02.WireBack", spec := "wireBack", named := ["tiltyard/wire.nibbles"], apart := false, laid := [("tiltyard/wire.nibbles", laid_tiltyard_wire_nibbles)] }
def WireBackSaid : Prop := wireBackRow.holds Tryd.pinned (OpenSpec.ofChange wireBackSpec)

/-- ITS FALSE NEIGHBOUR: 'it returns false'. Refute it at one input. -/
def wireBackWrong : ChangeSpec := { name := "wireBack", fn := fun _ => fun
  | [d1, d2, d3, d4, d5] => { results := [.lit (.bool false)], args := [d1, d2, d3, d4, d5] }
  | _ => none }
def WireBackWrongFalsely : Prop := wireBackRow.holds Tryd.pinned (OpenSpec.ofChange wireBackWrong)

/-- 'tiltyardlaw02.WireRows': WHATEVER THE INPUT: true; the input reads as it did. -/
def wireRowsSpec : ChangeSpec := { name := "wireRows", fn := fun _ => fun
  | [d1, d2] => { results := [.lit (.bool true)], args := [d1, d2] }
  | _ => none }
def wireRowsRow : OpenClaim := { program := "ytcgjaobbjeagoaadoor", sum := "03dccc14c85c635e31257c01bf14d3dd66e8301b5a4cdff6f086bb5f38fd9000", func := "tiltyard/tiltyardlaw02.WireRows", spec := "wireRows", named := ["tiltyard/wire.nibbles"], apart := false, laid := [("tiltyard/wire.nibbles", laid_tiltyard_wire_nibbles)] }
def WireRowsSaid : Prop := wireRowsRow.holds Tryd.pinned (OpenSpec.ofChange wireRowsSpec)

/-- ITS FALSE NEIGHBOUR: 'it returns false'. Refute it at one input. -/
def wireRowsWrong : ChangeSpec := { name := "wireRows", fn := fun _ => fun
  | [d1, d2] => { results := [.lit (.bool false)], args := [d1, d2] }
  | _ => none }
def WireRowsWrongFalsely : Prop := wireRowsRow.holds Tryd.pinned (OpenSpec.ofChange wireRowsWrong)

/-- 'tiltyardlaw02.WireWrites': WHATEVER THE INPUT: true; the input reads as it did. -/
def wireWritesSpec : ChangeSpec := { name := "wireWrites", fn := fun _ => fun
  | [d1, d2, d3] => { results := [.lit (.bool true)], args := [d1, d2, d3] }
  | _ => none }
def wireWritesRow : OpenClaim := { program := "ytcgjaobbjeagoaadoor", sum := "03dccc14c85c635e31257c01bf14d3dd66e8301b5a4cdff6f086bb5f38fd9000", func := "tiltyard/tiltyardlaw02.WireWrites", spec := "wireWrites", recurses := true, named := ["tiltyard/wire.nibbles"], apart := false, laid := [("tiltyard/wire.nibbles", laid_tiltyard_wire_nibbles)] }
def WireWritesSaid : Prop := wireWritesRow.holds Tryd.pinned (OpenSpec.ofChange wireWritesSpec)

/-- ITS FALSE NEIGHBOUR: 'it returns false'. Refute it at one input. -/
def wireWritesWrong : ChangeSpec := { name := "wireWrites", fn := fun _ => fun
  | [d1, d2, d3] => { results := [.lit (.bool false)], args := [d1, d2, d3] }
  | _ => none }
def WireWritesWrongFalsely : Prop := wireWritesRow.holds Tryd.pinned (OpenSpec.ofChange wireWritesWrong)

/-- 'tiltyardlaw02.WireTells': WHATEVER THE INPUT: true; the input reads as it did. -/
def wireTellsSpec : ChangeSpec := { name := "wireTells", fn := fun _ => fun
  | [d1, d2, d3] => { results := [.lit (.bool true)], args := [d1, d2, d3] }
  | _ => none }
def wireTellsRow : OpenClaim := { program := "ytcgjaobbjeagoaadoor", sum := "03dccc14c85c635e31257c01bf14d3dd66e8301b5a4cdff6f086bb5f38fd9000", func := "tiltyard/tiltyardlaw02.WireTells", spec := "wireTells", named := ["tiltyard/wire.nibbles"], apart := false, laid := [("tiltyard/wire.nibbles", laid_tiltyard_wire_nibbles)] }
def WireTellsSaid : Prop := wireTellsRow.holds Tryd.pinned (OpenSpec.ofChange wireTellsSpec)

/-- ITS FALSE NEIGHBOUR: 'it returns false'. Refute it at one input. -/
def wireTellsWrong : ChangeSpec := { name := "wireTells", fn := fun _ => fun
  | [d1, d2, d3] => { results := [.lit (.bool false)], args := [d1, d2, d3] }
  | _ => none }
def WireTellsWrongFalsely : Prop := wireTellsRow.holds Tryd.pinned (OpenSpec.ofChange wireTellsWrong)

/- THE SECOND FORM. 'bulk': how many values and letters a reading holds, each counted each time it is reached (what is shared counts as often as it is met; a slice's spare places count too). A statement '..UptoSaid' is the law's where the arguments, and the package variables that the reading takes, are together of bulk at most 1048576: NARROWER than '..Said'. Prove '..Said' where nothing that the law and all that it calls make is longer than what came in: it says more and counts as full. Else prove '..UptoSaid'. A law counts once. -/
mutual
def uptoBulk {H : Type} : DataW H → Nat
  | .lit (.string bytes) => bytes.length + 1
  | .lit _ => 1
  | .nil => 1
  | .ptr d => uptoBulk d + 1
  | .slice elems spare => uptoBulkAll elems + uptoBulkAll spare + 1
  | .agg parts => uptoBulkAll parts + 1
  | .iface _ d => uptoBulk d + 1
  | .map entries => uptoBulkEntries entries + 1
  | .held _ => 1
def uptoBulkAll {H : Type} : List (DataW H) → Nat
  | [] => 0
  | d :: r => uptoBulk d + uptoBulkAll r
def uptoBulkEntries {H : Type} : List (Lit × DataW H) → Nat
  | [] => 0
  | x :: r => uptoBulkEntry x + uptoBulkEntries r
def uptoBulkEntry {H : Type} : Lit × DataW H → Nat
  | (.string bytes, d) => bytes.length + uptoBulk d + 1
  | (_, d) => uptoBulk d + 1
 end
def uptoSmall : (H : Type) → List (DataW H) → Bool := fun _ ds => decide (uptoBulkAll ds ≤ 1048576)
def OpenSpec.upto (s : _root_.Go.ChangeSpec) : _root_.Go.OpenSpec := { _root_.Go.OpenSpec.ofChange s with cond := some uptoSmall }

/-- 'tiltyardlaw02.WireShort', WHERE WHAT IT READS IS OF BULK AT MOST 1048576: true; the input reads as it did. -/
def wireShortUptoRow : OpenClaim := { program := "ytcgjaobbjeagoaadoor", sum := "03dccc14c85c635e31257c01bf14d3dd66e8301b5a4cdff6f086bb5f38fd9000", func := "tiltyard/tiltyardlaw02.WireShort", spec := "wireShort", named := ["tiltyard/wire.nibbles"], apart := false, laid := [("tiltyard/wire.nibbles", laid_tiltyard_wire_nibbles)], narrowed := true }
def WireShortUptoSaid : Prop := wireShortUptoRow.holds Tryd.pinned (OpenSpec.upto wireShortSpec)

/-- 'tiltyardlaw02.WireRest', WHERE WHAT IT READS IS OF BULK AT MOST 1048576: true; the input reads as it did. -/
def wireRestUptoRow : OpenClaim := { program := "ytcgjaobbjeagoaadoor", sum := "03dccc14c85c635e31257c01bf14d3dd66e8301b5a4cdff6f086bb5f38fd9000", func := "tiltyard/tiltyardlaw02.WireRest", spec := "wireRest", named := ["tiltyard/wire.nibbles"], apart := false, laid := [("tiltyard/wire.nibbles", laid_tiltyard_wire_nibbles)], narrowed := true }
def WireRestUptoSaid : Prop := wireRestUptoRow.holds Tryd.pinned (OpenSpec.upto wireRestSpec)

/-- 'tiltyardlaw02.WireReads', WHERE WHAT IT READS IS OF BULK AT MOST 1048576: true; the input reads as it did. -/
def wireReadsUptoRow : OpenClaim := { program := "ytcgjaobbjeagoaadoor", sum := "03dccc14c85c635e31257c01bf14d3dd66e8301b5a4cdff6f086bb5f38fd9000", func := "tiltyard/tiltyardlaw02.WireReads", spec := "wireReads", named := ["tiltyard/wire.nibbles"], apart := false, laid := [("tiltyard/wire.nibbles", laid_tiltyard_wire_nibbles)], narrowed := true }
def WireReadsUptoSaid : Prop := wireReadsUptoRow.holds Tryd.pinned (OpenSpec.upto wireReadsSpec)

/-- 'tiltyardlaw02.WireBack', WHERE WHAT IT READS IS OF BULK AT MOST 1048576: true; the input reads as it did. -/
def wireBackUptoRow : OpenClaim := { program := "ytcgjaobbjeagoaadoor", sum := "03dccc14c85c635e31257c01bf14d3dd66e8301b5a4cdff6f086bb5f38fd9000", func := "tiltyard/tiltyardlaw02.WireBack", spec := "wireBack", named := ["tiltyard/wire.nibbles"], apart := false, laid := [("tiltyard/wire.nibbles", laid_tiltyard_wire_nibbles)], narrowed := true }
def WireBackUptoSaid : Prop := wireBackUptoRow.holds Tryd.pinned (OpenSpec.upto wireBackSpec)

/-- 'tiltyardlaw02.WireRows', WHERE WHAT IT READS IS OF BULK AT MOST 1048576: true; the input reads as it did. -/
def wireRowsUptoRow : OpenClaim := { program := "ytcgjaobbjeagoaadoor", sum := "03dccc14c85c635e31257c01bf14d3dd66e8301b5a4cdff6f086bb5f38fd9000", func := "tiltyard/tiltyardlaw02.WireRows", spec := "wireRows", named := ["tiltyard/wire.nibbles"], apart := false, laid := [("tiltyard/wire.nibbles", laid_tiltyard_wire_nibbles)], narrowed := true }
def WireRowsUptoSaid : Prop := wireRowsUptoRow.holds Tryd.pinned (OpenSpec.upto wireRowsSpec)

/-- 'tiltyardlaw02.WireWrites', WHERE WHAT IT READS IS OF BULK AT MOST 1048576: true; the input reads as it did. -/
def wireWritesUptoRow : OpenClaim := { program := "ytcgjaobbjeagoaadoor", sum := "03dccc14c85c635e31257c01bf14d3dd66e8301b5a4cdff6f086bb5f38fd9000", func := "tiltyard/tiltyardlaw02.WireWrites", spec := "wireWrites", recurses := true, named := ["tiltyard/wire.nibbles"], apart := false, laid := [("tiltyard/wire.nibbles", laid_tiltyard_wire_nibbles)], narrowed := true }
def WireWritesUptoSaid : Prop := wireWritesUptoRow.holds Tryd.pinned (OpenSpec.upto wireWritesSpec)

/-- 'tiltyardlaw02.WireTells', WHERE WHAT IT READS IS OF BULK AT MOST 1048576: true; the input reads as it did. -/
def wireTellsUptoRow : OpenClaim := { program := "ytcgjaobbjeagoaadoor", sum := "03dccc14c85c635e31257c01bf14d3dd66e8301b5a4cdff6f086bb5f38fd9000", func := "tiltyard/tiltyardlaw02.WireTells", spec := "wireTells", named := ["tiltyard/wire.nibbles"], apart := false, laid := [("tiltyard/wire.nibbles", laid_tiltyard_wire_nibbles)], narrowed := true }
def WireTellsUptoSaid : Prop := wireTellsUptoRow.holds Tryd.pinned (OpenSpec.upto wireTellsSpec)

end Rows
end Go.Proofs.YtcgjaobbjeagoaaDoor
