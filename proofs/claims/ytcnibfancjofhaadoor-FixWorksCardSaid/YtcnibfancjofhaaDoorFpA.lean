/- slices.Grow of nil, by bytes. -/
import Derived.Test.YtcnibfancjofhaaDoorKit
import Derived.Test.YtcnibfancjofhaaDoorWZeros
import Derived.Test.YtcnibfancjofhaaDoorProg
import Derived.WalkSpells
namespace Go.Proofs.YtcnibfancjofhaaDoor
open Go.RowKit Go.Proofs.YtcnibfancjofhaaDoorW.PrintWords Go.Proofs.YtcnibfancjofhaaDoorW.PrintLast Go.Proofs.YtcnibfancjofhaaDoorW.PrintMore
set_option linter.unusedVariables false
set_option linter.unusedSimpArgs false

theorem infoB : (Tryd.prog.info? 5).map (fun i => (i.zero, i.size, i.bytes)) = some (some (.int .u8 0), 1, 1) := by kernel_rfl

end Go.Proofs.YtcnibfancjofhaaDoor
