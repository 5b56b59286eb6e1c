/- size, signed, end, Add, Sub, From, To. -/
import Derived.Test.YtklkikndcieojaaDoorFixA
import Derived.Test.YtklkikndcieojaaDoorProg
namespace Go.Proofs.YtklkikndcieojaaDoor
open Go.RowKit Go.Proofs.YtklkikndcieojaaDoorW.PrintWords Go.Proofs.YtklkikndcieojaaDoorW.PrintLast Go.Proofs.YtklkikndcieojaaDoorW.PrintMore
set_option linter.unusedVariables false
set_option linter.unusedSimpArgs false

theorem wrap_u64 (z : Int) : IntKind.u64.wrap z = z % 18446744073709551616 := by simp [IntKind.wrap, IntKind.bits, IntKind.signed]
theorem wrap_i64 (z : Int) : IntKind.i64.wrap z = (z + 9223372036854775808) % 18446744073709551616 - 9223372036854775808 := IntKind.wrap_i64 z
theorem wrap64_eq (z : Int) : wrap64 z = (z + 9223372036854775808) % 18446744073709551616 - 9223372036854775808 := by unfold wrap64; first | rfl | omega
/-- The number that two words say. -/
def word2 (hi lo : Int) : Int := hi * 18446744073709551616 + lo
end Go.Proofs.YtklkikndcieojaaDoor
