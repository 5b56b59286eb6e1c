/-
  NARROWER THAN 'FOR EVERY INPUT', by the rows' own cells (each row's printed sentence says how): LinkNewer: laid · LinkParts: laid · LinkHeard: laid · LinkPlays: laid · LinkOnce: laid · LinkWhole: laid.
  DERIVED. THE GIVEN ROWS OF THIS SEAT. 6 by the template 'for every input the law returns true; each argument reads behind the call as it read before'; 0 by the template 'total and deterministic' (their statements: YtbdocgddidcfeaaDoorTotals.lean).
  GIVEN WITH THE SEED: the statements are not yours to turn. If you find one false, say at which input.
  Laid BY PROGRAM, IN A SANDBOX (cutbox-rows.mjs): the forced cells as the released guide's own fill.sh prints them over the translation 6d01e224a774128c… (all of the seat's roots in one cut). By AI agents, Wed Nov 11 2026. No macro, syntax, notation, axiom, sorry.
-/
import Derived.Test.YtbdocgddidcfeaaDoorChecked
import GoSem.Claim
import GoSem.ClaimJoined
import GoSem.ClaimMapViews
import Derived.JoinedTies
import Derived.KernelRfl
namespace Go.Proofs.YtbdocgddidcfeaaDoor
/- THE CELL 'sum', in the pinned program and in every row, IS THE sha256 OF THE DUMP (.gsa) THAT YtbdocgddidcfeaaDoorProg.lean LOADS. Nothing in Lean hashes anything: it is a label: what it is worth is what the hold of that sum in a sandbox is worth. -/
noncomputable def Tryd.pinned : Pinned := { name := "ytbdocgddidcfeaadoor", sum := "6d01e224a774128cff65654c80ac3ad730046ca685bc5d7389c8b2633962ed1b", checked := Tryd.checked }
namespace Rows
def none {H : Type} : Left H := { results := [], args := [] }

/- WHAT THE LISTED PACKAGE-LEVEL VARIABLES READ AS WHEN THE CALL BEGINS. Each datum BY PROGRAM (the guide's laid-datum.mjs) off the statement by which the dump's own 'gosem.cut.vars' lays the variable. In a bare row this is a premise. The card (YtbdocgddidcfeaaDoorCards.lean) ties it to the program's text. -/
def laid_tiltyard_wire_nibbles {H : Type} : DataW H := .agg [.lit (.int .u32 0), .lit (.int .u32 498536548), .lit (.int .u32 997073096), .lit (.int .u32 651767980), .lit (.int .u32 1994146192), .lit (.int .u32 1802195444), .lit (.int .u32 1303535960), .lit (.int .u32 1342533948), .lit (.int .u32 3988292384), .lit (.int .u32 4027552580), .lit (.int .u32 3604390888), .lit (.int .u32 3412177804), .lit (.int .u32 2607071920), .lit (.int .u32 2262029012), .lit (.int .u32 2685067896), .lit (.int .u32 3183342108)]

/-- 'tiltyardlaw07.LinkNewer': WHATEVER THE INPUT: true; the input reads as it did. -/
def linkNewerSpec : ChangeSpec := { name := "linkNewer", fn := fun _ => fun
  | [d1, d2] => { results := [.lit (.bool true)], args := [d1, d2] }
  | _ => none }
def linkNewerRow : OpenClaim := { program := "ytbdocgddidcfeaadoor", sum := "6d01e224a774128cff65654c80ac3ad730046ca685bc5d7389c8b2633962ed1b", func := "tiltyard/tiltyardlaw07.LinkNewer", spec := "linkNewer", named := ["tiltyard/wire.nibbles"], apart := false, laid := [("tiltyard/wire.nibbles", laid_tiltyard_wire_nibbles)] }
def LinkNewerSaid : Prop := linkNewerRow.holds Tryd.pinned (OpenSpec.ofChange linkNewerSpec)

/-- ITS FALSE NEIGHBOUR: 'it returns false'. Refute it at one input. -/
def linkNewerWrong : ChangeSpec := { name := "linkNewer", fn := fun _ => fun
  | [d1, d2] => { results := [.lit (.bool false)], args := [d1, d2] }
  | _ => none }
def LinkNewerWrongFalsely : Prop := linkNewerRow.holds Tryd.pinned (OpenSpec.ofChange linkNewerWrong)

/-- 'tiltyardlaw07.LinkParts': WHATEVER THE INPUT: true; the input reads as it did. -/
def linkPartsSpec : ChangeSpec := { name := "linkParts", fn := fun _ => fun
  | [d1, d2] => { results := [.lit (.bool true)], args := [d1, d2] }
  | _ => none }
def linkPartsRow : OpenClaim := { program := "ytbdocgddidcfeaadoor", sum := "6d01e224a774128cff65654c80ac3ad730046ca685bc5d7389c8b2633962ed1b", func := "tiltyard/tiltyardlaw07.LinkParts", spec := "linkParts", named := ["tiltyard/wire.nibbles"], apart := false, laid := [("tiltyard/wire.nibbles", laid_tiltyard_wire_nibbles)] }
def LinkPartsSaid : Prop := linkPartsRow.holds Tryd.pinned (OpenSpec.ofChange linkPartsSpec)

/-- ITS FALSE NEIGHBOUR: 'it returns false'. Refute it at one input. -/
def linkPartsWrong : ChangeSpec := { name := "linkParts", fn := fun _ => fun
  | [d1, d2] => { results := [.lit (.bool false)], args := [d1, d2] }
  | _ => none }
def LinkPartsWrongFalsely : Prop := linkPartsRow.holds Tryd.pinned (OpenSpec.ofChange linkPartsWrong)

/-- 'tiltyardlaw07.LinkHeard': WHATEVER THE INPUT: true; the input reads as it did. -/
def linkHeardSpec : ChangeSpec := { name := "linkHeard", fn := fun _ => fun
  | [d1, d2] => { results := [.lit (.bool true)], args := [d1, d2] }
  | _ => none }
def linkHeardRow : OpenClaim := { program := "ytbdocgddidcfeaadoor", sum := "6d01e224a774128cff65654c80ac3ad730046ca685bc5d7389c8b2633962ed1b", func := "tiltyard/tiltyardlaw07.LinkHeard", spec := "linkHeard", named := ["tiltyard/wire.nibbles"], apart := false, laid := [("tiltyard/wire.nibbles", laid_tiltyard_wire_nibbles)] }
def LinkHeardSaid : Prop := linkHeardRow.holds Tryd.pinned (OpenSpec.ofChange linkHeardSpec)

/-- ITS FALSE NEIGHBOUR: 'it returns false'. Refute it at one input. -/
def linkHeardWrong : ChangeSpec := { name := "linkHeard", fn := fun _ => fun
  | [d1, d2] => { results := [.lit (.bool false)], args := [d1, d2] }
  | _ => none }
def LinkHeardWrongFalsely : Prop := linkHeardRow.holds Tryd.pinned (OpenSpec.ofChange linkHeardWrong)

/-- 'tiltyardlaw07.LinkPlays': WHATEVER THE INPUT: true; the input reads as it did. -/
def linkPlaysSpec : ChangeSpec := { name := "linkPlays", fn := fun _ => fun
  | [d1, d2, d3] => { results := [.lit (.bool true)], args := [d1, d2, d3] }
  | _ => none }
def linkPlaysRow : OpenClaim := { program := "ytbdocgddidcfeaadoor", sum := "6d01e224a774128cff65654c80ac3ad730046ca685bc5d7389c8b2633962ed1b", func := "tiltyard/tiltyardlaw07.LinkPlays", spec := "linkPlays", named := ["tiltyard/wire.nibbles"], apart := false, laid := [("tiltyard/wire.nibbles", laid_tiltyard_wire_nibbles)] }
def LinkPlaysSaid : Prop := linkPlaysRow.holds Tryd.pinned (OpenSpec.ofChange linkPlaysSpec)

/-- ITS FALSE NEIGHBOUR: 'it returns false'. Refute it at one input. -/
def linkPlaysWrong : ChangeSpec := { name := "linkPlays", fn := fun _ => fun
  | [d1, d2, d3] => { results := [.lit (.bool false)], args := [d1, d2, d3] }
  | _ => none }
def LinkPlaysWrongFalsely : Prop := linkPlaysRow.holds Tryd.pinned (OpenSpec.ofChange linkPlaysWrong)

/-- 'tiltyardlaw07.LinkOnce': WHATEVER THE INPUT: true; the input reads as it did. -/
def linkOnceSpec : ChangeSpec := { name := "linkOnce", fn := fun _ => fun
  | [d1, d2, d3] => { results := [.lit (.bool true)], args := [d1, d2, d3] }
  | _ => none }
def linkOnceRow : OpenClaim := { program := "ytbdocgddidcfeaadoor", sum := "6d01e224a774128cff65654c80ac3ad730046ca685bc5d7389c8b2633962ed1b", func := "tiltyard/tiltyardlaw07.LinkOnce", spec := "linkOnce", named := ["tiltyard/wire.nibbles"], apart := false, laid := [("tiltyard/wire.nibbles", laid_tiltyard_wire_nibbles)] }
def LinkOnceSaid : Prop := linkOnceRow.holds Tryd.pinned (OpenSpec.ofChange linkOnceSpec)

/-- ITS FALSE NEIGHBOUR: 'it returns false'. Refute it at one input. -/
def linkOnceWrong : ChangeSpec := { name := "linkOnce", fn := fun _ => fun
  | [d1, d2, d3] => { results := [.lit (.bool false)], args := [d1, d2, d3] }
  | _ => none }
def LinkOnceWrongFalsely : Prop := linkOnceRow.holds Tryd.pinned (OpenSpec.ofChange linkOnceWrong)

/-- 'tiltyardlaw07.LinkWhole': WHATEVER THE INPUT: true; the input reads as it did. -/
def linkWholeSpec : ChangeSpec := { name := "linkWhole", fn := fun _ => fun
  | [d1, d2, d3, d4] => { results := [.lit (.bool true)], args := [d1, d2, d3, d4] }
  | _ => none }
def linkWholeRow : OpenClaim := { program := "ytbdocgddidcfeaadoor", sum := "6d01e224a774128cff65654c80ac3ad730046ca685bc5d7389c8b2633962ed1b", func := "tiltyard/tiltyardlaw07.LinkWhole", spec := "linkWhole", named := ["tiltyard/wire.nibbles"], apart := false, laid := [("tiltyard/wire.nibbles", laid_tiltyard_wire_nibbles)] }
def LinkWholeSaid : Prop := linkWholeRow.holds Tryd.pinned (OpenSpec.ofChange linkWholeSpec)

/-- ITS FALSE NEIGHBOUR: 'it returns false'. Refute it at one input. -/
def linkWholeWrong : ChangeSpec := { name := "linkWhole", fn := fun _ => fun
  | [d1, d2, d3, d4] => { results := [.lit (.bool false)], args := [d1, d2, d3, d4] }
  | _ => none }
def LinkWholeWrongFalsely : Prop := linkWholeRow.holds Tryd.pinned (OpenSpec.ofChange linkWholeWrong)

/- THE SECOND FORM. 'bulk': how many values and letters a reading holds, each counted each time it is reached (what is shared counts as often as it is met; a slice's spare places count too). A statement '..UptoSaid' is the law's where the arguments, and the package variables that the reading takes, are together of bulk at most 1048576: NARROWER than '..Said'. Prove '..Said' where nothing that the law and all that it calls make is longer than what came in: it says more and counts as full. Else prove '..UptoSaid'. A law counts once. -/
mutual
def uptoBulk {H : Type} : DataW H → Nat
  | .lit (.string bytes) => bytes.length + 1
  | .lit _ => 1
  | .nil => 1
  | .ptr d => uptoBulk d + 1
  | .slice elems spare => uptoBulkAll elems + uptoBulkAll spare + 1
  | .agg parts => uptoBulkAll parts + 1
  | .iface _ d => uptoBulk d + 1
  | .map entries => uptoBulkEntries entries + 1
  | .held _ => 1
def uptoBulkAll {H : Type} : List (DataW H) → Nat
  | [] => 0
  | d :: r => uptoBulk d + uptoBulkAll r
def uptoBulkEntries {H : Type} : List (Lit × DataW H) → Nat
  | [] => 0
  | x :: r => uptoBulkEntry x + uptoBulkEntries r
def uptoBulkEntry {H : Type} : Lit × DataW H → Nat
  | (.string bytes, d) => bytes.length + uptoBulk d + 1
  | (_, d) => uptoBulk d + 1
 end
def uptoSmall : (H : Type) → List (DataW H) → Bool := fun _ ds => decide (uptoBulkAll ds ≤ 1048576)
def OpenSpec.upto (s : _root_.Go.ChangeSpec) : _root_.Go.OpenSpec := { _root_.Go.OpenSpec.ofChange s with cond := some uptoSmall }

/-- 'tiltyardlaw07.LinkNewer', WHERE WHAT IT READS IS OF BULK AT MOST 1048576: true; the input reads as it did. -/
def linkNewerUptoRow : OpenClaim := { program := "ytbdocgddidcfeaadoor", sum := "6d01e224a774128cff65654c80ac3ad730046ca685bc5d7389c8b2633962ed1b", func := "tiltyard/tiltyardlaw07.LinkNewer", spec := "linkNewer", named := ["tiltyard/wire.nibbles"], apart := false, laid := [("tiltyard/wire.nibbles", laid_tiltyard_wire_nibbles)], narrowed := true }
def LinkNewerUptoSaid : Prop := linkNewerUptoRow.holds Tryd.pinned (OpenSpec.upto linkNewerSpec)

/-- 'tiltyardlaw07.LinkParts', WHERE WHAT IT READS IS OF BULK AT MOST 1048576: true; the input reads as it did. -/
def linkPartsUptoRow : OpenClaim := { program := "ytbdocgddidcfeaadoor", sum := "6d01e224a774128cff65654c80ac3ad730046ca685bc5d7389c8b2633962ed1b", func := "tiltyard/tiltyardlaw07.LinkParts", spec := "linkParts", named := ["tiltyard/wire.nibbles"], apart := false, laid := [("tiltyard/wire.nibbles", laid_tiltyard_wire_nibbles)], narrowed := true }
def LinkPartsUptoSaid : Prop := linkPartsUptoRow.holds Tryd.pinned (OpenSpec.upto linkPartsSpec)

/-- 'tiltyardlaw07.LinkHeard', WHERE WHAT IT READS IS OF BULK AT MOST 1048576: true; the input reads as it did. -/
def linkHeardUptoRow : OpenClaim := { program := "ytbdocgddidcfeaadoor", sum := "6d01e224a774128cff65654c80ac3ad730046ca685bc5d7389c8b2633962ed1b", func := "tiltyard/tiltyardlaw07.LinkHeard", spec := "linkHeard", named := ["tiltyard/wire.nibbles"], apart := false, laid := [("tiltyard/wire.nibbles", laid_tiltyard_wire_nibbles)], narrowed := true }
def LinkHeardUptoSaid : Prop := linkHeardUptoRow.holds Tryd.pinned (OpenSpec.upto linkHeardSpec)

/-- 'tiltyardlaw07.LinkPlays', WHERE WHAT IT READS IS OF BULK AT MOST 1048576: true; the input reads as it did. -/
def linkPlaysUptoRow : OpenClaim := { program := "ytbdocgddidcfeaadoor", sum := "6d01e224a774128cff65654c80ac3ad730046ca685bc5d7389c8b2633962ed1b", func := "tiltyard/tiltyardlaw07.LinkPlays", spec := "linkPlays", named := ["tiltyard/wire.nibbles"], apart := false, laid := [("tiltyard/wire.nibbles", laid_tiltyard_wire_nibbles)], narrowed := true }
def LinkPlaysUptoSaid : Prop := linkPlaysUptoRow.holds Tryd.pinned (OpenSpec.upto linkPlaysSpec)

/-- 'tiltyardlaw07.LinkOnce', WHERE WHAT IT READS IS OF BULK AT MOST 1048576: true; the input reads as it did. -/
def linkOnceUptoRow : OpenClaim := { program := "ytbdocgddidcfeaadoor", sum := "6d01e224a774128cff65654c80ac3ad730046ca685bc5d7389c8b2633962ed1b", func := "tiltyard/tiltyardlaw07.LinkOnce", spec := "linkOnce", named := ["tiltyard/wire.nibbles"], apart := false, laid := [("tiltyard/wire.nibbles", laid_tiltyard_wire_nibbles)], narrowed := true }
def LinkOnceUptoSaid : Prop := linkOnceUptoRow.holds Tryd.pinned (OpenSpec.upto linkOnceSpec)

/-- 'tiltyardlaw07.LinkWhole', WHERE WHAT IT READS IS OF BULK AT MOST 1048576: true; the input reads as it did. -/
def linkWholeUptoRow : OpenClaim := { program := "ytbdocgddidcfeaadoor", sum := "6d01e224a774128cff65654c80ac3ad730046ca685bc5d7389c8b2633962ed1b", func := "tiltyard/tiltyardlaw07.LinkWhole", spec := "linkWhole", named := ["tiltyard/wire.nibbles"], apart := false, laid := [("tiltyard/wire.nibbles", laid_tiltyard_wire_nibbles)], narrowed := true }
def LinkWholeUptoSaid : Prop := linkWholeUptoRow.holds Tryd.pinned (OpenSpec.upto linkWholeSpec)

end Rows
end Go.Proofs.YtbdocgddidcfeaaDoor
