/-
  No cell of these rows narrows 'for every input' (looked for: loops, veiled, ifaces, maps, wideKeys, modest, calm, conditions, laid).
  DERIVED. THE GIVEN ROWS OF THIS SEAT. 5 by the template 'for every input the law returns true; each argument reads behind the call as it read before'; 0 by the template 'total and deterministic' (their statements: YtjknihjdhccanaaTotals.lean).
  GIVEN WITH THE SEED: the statements are not yours to turn. If you find one false, say at which input.
  Laid BY PROGRAM, IN A SANDBOX (cutbox-rows.mjs): the forced cells as the released guide's own fill.sh prints them over the translation 7c141315831dd1a9… (all of the seat's roots in one cut). By AI agents, Wed Nov 11 2026. No macro, syntax, notation, axiom, sorry.
-/
import Derived.Test.YtjknihjdhccanaaChecked
import GoSem.Claim
import GoSem.ClaimJoined
import GoSem.ClaimMapViews
import Derived.JoinedTies
import Derived.KernelRfl
namespace Go.Proofs.Ytjknihjdhccanaa
/- THE CELL 'sum', in the pinned program and in every row, IS THE sha256 OF THE DUMP (.gsa) THAT YtjknihjdhccanaaProg.lean LOADS. Nothing in Lean hashes anything: it is a label: what it is worth is what the hold of that sum in a sandbox is worth. -/
noncomputable def Try.pinned : Pinned := { name := "ytjknihjdhccanaa", sum := "7c141315831dd1a93b8a70c8dcccffe5e882828d369235be25c982ba9c4db180", checked := Try.checked }
namespace Rows
def none {H : Type} : Left H := { results := [], args := [] }

/-- 'tiltyardlaw05.VecLong': WHATEVER THE INPUT: true; the input reads as it did. -/
def vecLongSpec : ChangeSpec := { name := "vecLong", fn := fun _ => fun
  | [d] => { results := [.lit (.bool true)], args := [d] }
  | _ => none }
def vecLongRow : OpenClaim := { program := "ytjknihjdhccanaa", sum := "7c141315831dd1a93b8a70c8dcccffe5e882828d369235be25c982ba9c4db180", func := "tiltyard/tiltyardlaw05.VecLong", spec := "vecLong", inPlace := ["math/bits.Add64"], unfollowed := true, recurses := true, apart := false }
def VecLongSaid : Prop := vecLongRow.holds Try.pinned (OpenSpec.ofChange vecLongSpec)

/-- ITS FALSE NEIGHBOUR: 'it returns false'. Refute it at one input. -/
def vecLongWrong : ChangeSpec := { name := "vecLong", fn := fun _ => fun
  | [d] => { results := [.lit (.bool false)], args := [d] }
  | _ => none }
def VecLongWrongFalsely : Prop := vecLongRow.holds Try.pinned (OpenSpec.ofChange vecLongWrong)

/-- 'tiltyardlaw05.VecNear': WHATEVER THE INPUT: true; the input reads as it did. -/
def vecNearSpec : ChangeSpec := { name := "vecNear", fn := fun _ => fun
  | [d1, d2, d3, d4] => { results := [.lit (.bool true)], args := [d1, d2, d3, d4] }
  | _ => none }
def vecNearRow : OpenClaim := { program := "ytjknihjdhccanaa", sum := "7c141315831dd1a93b8a70c8dcccffe5e882828d369235be25c982ba9c4db180", func := "tiltyard/tiltyardlaw05.VecNear", spec := "vecNear", inPlace := ["math/bits.Add64"], unfollowed := true, recurses := true, apart := false }
def VecNearSaid : Prop := vecNearRow.holds Try.pinned (OpenSpec.ofChange vecNearSpec)

/-- ITS FALSE NEIGHBOUR: 'it returns false'. Refute it at one input. -/
def vecNearWrong : ChangeSpec := { name := "vecNear", fn := fun _ => fun
  | [d1, d2, d3, d4] => { results := [.lit (.bool false)], args := [d1, d2, d3, d4] }
  | _ => none }
def VecNearWrongFalsely : Prop := vecNearRow.holds Try.pinned (OpenSpec.ofChange vecNearWrong)

/-- 'tiltyardlaw05.VecDots': WHATEVER THE INPUT: true; the input reads as it did. -/
def vecDotsSpec : ChangeSpec := { name := "vecDots", fn := fun _ => fun
  | [d1, d2, d3] => { results := [.lit (.bool true)], args := [d1, d2, d3] }
  | _ => none }
def vecDotsRow : OpenClaim := { program := "ytjknihjdhccanaa", sum := "7c141315831dd1a93b8a70c8dcccffe5e882828d369235be25c982ba9c4db180", func := "tiltyard/tiltyardlaw05.VecDots", spec := "vecDots", inPlace := ["math/bits.Add64"], unfollowed := true, recurses := true, apart := false }
def VecDotsSaid : Prop := vecDotsRow.holds Try.pinned (OpenSpec.ofChange vecDotsSpec)

/-- ITS FALSE NEIGHBOUR: 'it returns false'. Refute it at one input. -/
def vecDotsWrong : ChangeSpec := { name := "vecDots", fn := fun _ => fun
  | [d1, d2, d3] => { results := [.lit (.bool false)], args := [d1, d2, d3] }
  | _ => none }
def VecDotsWrongFalsely : Prop := vecDotsRow.holds Try.pinned (OpenSpec.ofChange vecDotsWrong)

/-- 'tiltyardlaw05.VecAdds': WHATEVER THE INPUT: true; the input reads as it did. -/
def vecAddsSpec : ChangeSpec := { name := "vecAdds", fn := fun _ => fun
  | [d1, d2] => { results := [.lit (.bool true)], args := [d1, d2] }
  | _ => none }
def vecAddsRow : OpenClaim := { program := "ytjknihjdhccanaa", sum := "7c141315831dd1a93b8a70c8dcccffe5e882828d369235be25c982ba9c4db180", func := "tiltyard/tiltyardlaw05.VecAdds", spec := "vecAdds", inPlace := ["math/bits.Add64"], unfollowed := true, recurses := true, apart := false }
def VecAddsSaid : Prop := vecAddsRow.holds Try.pinned (OpenSpec.ofChange vecAddsSpec)

/-- ITS FALSE NEIGHBOUR: 'it returns false'. Refute it at one input. -/
def vecAddsWrong : ChangeSpec := { name := "vecAdds", fn := fun _ => fun
  | [d1, d2] => { results := [.lit (.bool false)], args := [d1, d2] }
  | _ => none }
def VecAddsWrongFalsely : Prop := vecAddsRow.holds Try.pinned (OpenSpec.ofChange vecAddsWrong)

/-- 'tiltyardlaw05.VecWorks': WHATEVER THE INPUT: true; the input reads as it did. -/
def vecWorksSpec : ChangeSpec := { name := "vecWorks", fn := fun _ => fun
  | [d1, d2, d3] => { results := [.lit (.bool true)], args := [d1, d2, d3] }
  | _ => none }
def vecWorksRow : OpenClaim := { program := "ytjknihjdhccanaa", sum := "7c141315831dd1a93b8a70c8dcccffe5e882828d369235be25c982ba9c4db180", func := "tiltyard/tiltyardlaw05.VecWorks", spec := "vecWorks", inPlace := ["math/bits.Add64"], unfollowed := true, recurses := true, apart := false }
def VecWorksSaid : Prop := vecWorksRow.holds Try.pinned (OpenSpec.ofChange vecWorksSpec)

/-- ITS FALSE NEIGHBOUR: 'it returns false'. Refute it at one input. -/
def vecWorksWrong : ChangeSpec := { name := "vecWorks", fn := fun _ => fun
  | [d1, d2, d3] => { results := [.lit (.bool false)], args := [d1, d2, d3] }
  | _ => none }
def VecWorksWrongFalsely : Prop := vecWorksRow.holds Try.pinned (OpenSpec.ofChange vecWorksWrong)

/- THE SECOND FORM. 'bulk': how many values and letters a reading holds, each counted each time it is reached (what is shared counts as often as it is met; a slice's spare places count too). A statement '..UptoSaid' is the law's where the arguments, and the package variables that the reading takes, are together of bulk at most 1048576: NARROWER than '..Said'. Prove '..Said' where nothing that the law and all that it calls make is longer than what came in: it says more and counts as full. Else prove '..UptoSaid'. A law counts once. -/
mutual
def uptoBulk {H : Type} : DataW H → Nat
  | .lit (.string bytes) => bytes.length + 1
  | .lit _ => 1
  | .nil => 1
  | .ptr d => uptoBulk d + 1
  | .slice elems spare => uptoBulkAll elems + uptoBulkAll spare + 1
  | .agg parts => uptoBulkAll parts + 1
  | .iface _ d => uptoBulk d + 1
  | .map entries => uptoBulkEntries entries + 1
  | .held _ => 1
def uptoBulkAll {H : Type} : List (DataW H) → Nat
  | [] => 0
  | d :: r => uptoBulk d + uptoBulkAll r
def uptoBulkEntries {H : Type} : List (Lit × DataW H) → Nat
  | [] => 0
  | x :: r => uptoBulkEntry x + uptoBulkEntries r
def uptoBulkEntry {H : Type} : Lit × DataW H → Nat
  | (.string bytes, d) => bytes.length + uptoBulk d + 1
  | (_, d) => uptoBulk d + 1
 end
def uptoSmall : (H : Type) → List (DataW H) → Bool := fun _ ds => decide (uptoBulkAll ds ≤ 1048576)
def OpenSpec.upto (s : _root_.Go.ChangeSpec) : _root_.Go.OpenSpec := { _root_.Go.OpenSpec.ofChange s with cond := some uptoSmall }

/-- 'tiltyardlaw05.VecLong', WHERE WHAT IT READS IS OF BULK AT MOST 1048576: true; the input reads as it did. -/
def vecLongUptoRow : OpenClaim := { program := "ytjknihjdhccanaa", sum := "7c141315831dd1a93b8a70c8dcccffe5e882828d369235be25c982ba9c4db180", func := "tiltyard/tiltyardlaw05.VecLong", spec := "vecLong", inPlace := ["math/bits.Add64"], unfollowed := true, recurses := true, apart := false, narrowed := true }
def VecLongUptoSaid : Prop := vecLongUptoRow.holds Try.pinned (OpenSpec.upto vecLongSpec)

/-- 'tiltyardlaw05.VecNear', WHERE WHAT IT READS IS OF BULK AT MOST 1048576: true; the input reads as it did. -/
def vecNearUptoRow : OpenClaim := { program := "ytjknihjdhccanaa", sum := "7c141315831dd1a93b8a70c8dcccffe5e882828d369235be25c982ba9c4db180", func := "tiltyard/tiltyardlaw05.VecNear", spec := "vecNear", inPlace := ["math/bits.Add64"], unfollowed := true, recurses := true, apart := false, narrowed := true }
def VecNearUptoSaid : Prop := vecNearUptoRow.holds Try.pinned (OpenSpec.upto vecNearSpec)

/-- 'tiltyardlaw05.VecDots', WHERE WHAT IT READS IS OF BULK AT MOST 1048576: true; the input reads as it did. -/
def vecDotsUptoRow : OpenClaim := { program := "ytjknihjdhccanaa", sum := "7c141315831dd1a93b8a70c8dcccffe5e882828d369235be25c982ba9c4db180", func := "tiltyard/tiltyardlaw05.VecDots", spec := "vecDots", inPlace := ["math/bits.Add64"], unfollowed := true, recurses := true, apart := false, narrowed := true }
def VecDotsUptoSaid : Prop := vecDotsUptoRow.holds Try.pinned (OpenSpec.upto vecDotsSpec)

/-- 'tiltyardlaw05.VecAdds', WHERE WHAT IT READS IS OF BULK AT MOST 1048576: true; the input reads as it did. -/
def vecAddsUptoRow : OpenClaim := { program := "ytjknihjdhccanaa", sum := "7c141315831dd1a93b8a70c8dcccffe5e882828d369235be25c982ba9c4db180", func := "tiltyard/tiltyardlaw05.VecAdds", spec := "vecAdds", inPlace := ["math/bits.Add64"], unfollowed := true, recurses := true, apart := false, narrowed := true }
def VecAddsUptoSaid : Prop := vecAddsUptoRow.holds Try.pinned (OpenSpec.upto vecAddsSpec)

/-- 'tiltyardlaw05.VecWorks', WHERE WHAT IT READS IS OF BULK AT MOST 1048576: true; the input reads as it did. -/
def vecWorksUptoRow : OpenClaim := { program := "ytjknihjdhccanaa", sum := "7c141315831dd1a93b8a70c8dcccffe5e882828d369235be25c982ba9c4db180", func := "tiltyard/tiltyardlaw05.VecWorks", spec := "vecWorks", inPlace := ["math/bits.Add64"], unfollowed := true, recurses := true, apart := false, narrowed := true }
def VecWorksUptoSaid : Prop := vecWorksUptoRow.holds Try.pinned (OpenSpec.upto vecWorksSpec)

end Rows
end Go.Proofs.Ytjknihjdhccanaa
